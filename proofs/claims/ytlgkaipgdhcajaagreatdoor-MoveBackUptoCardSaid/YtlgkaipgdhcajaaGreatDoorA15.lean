import Derived.Test.YtlgkaipgdhcajaaGreatDoorA13
import Derived.Test.YtlgkaipgdhcajaaGreatDoorA14
import Derived.Test.YtlgkaipgdhcajaaGreatDoorD15
import Derived.Test.YtlgkaipgdhcajaaGreatDoorW45
import Derived.Test.YtlgkaipgdhcajaaGreatDoorM11
import Derived.Test.YtlgkaipgdhcajaaGreatDoorA8
import Derived.Deep.MidRow
import Derived.Sort.CutIn
import Derived.Test.YtlgkaipgdhcajaaGreatDoorM10
import Derived.Test.YtlgkaipgdhcajaaGreatDoorA12
import Derived.RangeFuncWrites
import Derived.StillTailTactics
import Derived.Test.YtlgkaipgdhcajaaGreatDoorM9
import Derived.Test.YtlgkaipgdhcajaaGreatDoorA10
import Derived.RangeFuncNested
/- MoveLines' walk (made by mkq3.py). -/
namespace Go.Proofs.YtlgkaipgdhcajaaGreatDoor
open Go.RowKit Go.Sort Go.Maps Go.Shelf Go.MapKept
attribute [local go_sem] Oper.semAt_some

theorem results_one {fn : Func} {p : Tmp} {t1 : TypeId} (h : fn.results = #[.cell p t1]) (tmps : Array Value) (w : World) (b1 : Nat) (u : Value) (hp : tmps.getD p undef = .pointer (some ⟨b1, 0, none⟩))
    (l1 : (loadVar t1 ⟨b1, 0, none⟩).run Tryz.prog w = .ok u w) : (results fn tmps).run Tryz.prog w = .ok u w := by
  have hp' : tmps[p]?.getD undef = .pointer (some ⟨b1, 0, none⟩) := by simpa using hp
  simp [results, h, hp', asAddr, l1]
theorem ArgsIn.upQ {w : World} {n m : Nat} {av : Value} {l : List NodeT} (hm : n ≤ m) (h : ArgsIn w n av l) : ArgsIn w m av l := by
  obtain ⟨k, rfl⟩ := Nat.exists_eq_add_of_le hm
  clear hm
  induction k with
  | zero => exact h
  | succ k ih => exact ih.up
theorem load_bool1 (w : World) (b : Nat) (u : Value) (h : w.cell? ⟨b, 0, none⟩ = some u) : (loadVar 4 ⟨b, 0, none⟩).run Tryz.prog w = .ok u w := by go_simp
def cntP (cG : Ad → Ad × Bool) (l : PG) : Nat := (l.filter fun x => (cG x.1).2).length
theorem cntP_snoc (cG : Ad → Ad × Bool) (l : PG) (x : Ad × ContT) : cntP cG (l ++ [x]) = if (cG x.1).2 = true then cntP cG l + 1 else cntP cG l := by
  unfold cntP
  rw [List.filter_append]
  split <;> simp_all
/-- What holds while a grid's contents are counted in a cell. -/
structure LI (W0 : World) (R : Nat) (f : List TE → Int) (pre : List TE) (W : World) : Prop where
  grown : W0.grownBy W (some R)
  cnt : W.heap[R]? = some (.cells #[.int .i64 (f pre)] 3 (0, 0))
theorem LI.own {W0 : World} {R : Nat} {f : List TE → Int} : OwnFrom W0.heap.size (fun pre W => LI W0 R f pre W) := fun s X Y row hs hg hr => by
  obtain ⟨h1, h2⟩ := hs
  exact ⟨grownBy_far h1 hg (fun r e => (hr r e).1), rowCells_own h2 hg (fun r e => (hr r e).2)⟩
theorem round_end {W0 W wz : World} {R l0 n0 : Nat} {f : List TE → Int} {pre' : List TE} {cnt : Int} (hg : W0.grownBy W (some R)) (hr : W.heap[R]? = some (.cells #[.int .i64 cnt] 3 (0, 0))) (hz : wz.heap[R]? = some (.cells #[.int .i64 cnt] 3 (0, 0))) (hf : f pre' = cnt + 1)
    (hW : Wr (fun b => b = R) W (wz.setCell ⟨R, 0, none⟩ (.int .i64 (cnt + 1)))) (hl : R < l0) (hn : n0 ≤ R) :
    KeepsFrom l0 W (wz.setCell ⟨R, 0, none⟩ (.int .i64 (cnt + 1))) ∧ (Below n0 W (wz.setCell ⟨R, 0, none⟩ (.int .i64 (cnt + 1))) ∧ KeepsT (fun _ => false) W (wz.setCell ⟨R, 0, none⟩ (.int .i64 (cnt + 1)))) ∧ LI W0 R f pre' (wz.setCell ⟨R, 0, none⟩ (.int .i64 (cnt + 1))) := by
  have hgW : W.grownBy (wz.setCell ⟨R, 0, none⟩ (.int .i64 (cnt + 1))) (some R) := ⟨hW.os, hW.tape, hW.output, hW.size, fun i hi hn => hW.block i hi (fun e => hn (by rw [e]))⟩
  refine ⟨⟨hW.size, fun k o hB hk _ => (hW.block k (Array.getElem?_eq_some_iff.1 hk).1 (fun e => by omega)).trans hk⟩, ⟨⟨hW.os, hW.tape, hW.output, hW.size, fun k hk => ?_⟩, KeepsT.of_grown hgW (fun j o e ho => ?_)⟩, ⟨grownBy_two hg hgW, ?_⟩⟩
  · have hlt := (Array.getElem?_eq_some_iff.1 hr).1
    exact hW.block k (by omega) (fun e => by omega)
  · cases e
    rw [hr] at ho
    cases ho
    rfl
  · rw [hf]
    exact setCell_row hz 0 _
theorem goStop_pos {cG : Ad → Ad × Bool} {n : Int} {l : PG} (h : goStop cG n l = true) : 0 < n := by
  unfold goStop at h
  obtain ⟨x, _, h2⟩ := List.any_eq_true.1 h
  simp only [Bool.and_eq_true, decide_eq_true_eq] at h2
  exact h2.2
theorem made_lb {cols : Bool} {k n : Int} (h : LB (manyL cols) k n) : (madeL (manyL cols) k n).2 = true := by
  obtain ⟨h1, h2, h3, h4, h5, h6⟩ := h
  unfold madeL
  simp only [Bool.and_eq_true, decide_eq_true_eq]
  exact ⟨⟨⟨h3, h4⟩, h5⟩, h6⟩
/-- What comes of a grid whose lines are brought, where they may be. -/
def LinesR (cols : Bool) (k n : Int) (M : GM) (w : World) (e : Ending) (w' : World) : Prop :=
  Xt w w' ∧ ((goStop (cellF cols ⟨k, n, manyL cols⟩) n (er M) = true ∧ e = .returned (.tuple #[.pointer none, .int .i64 20])) ∨
    (goStop (cellF cols ⟨k, n, manyL cols⟩) n (er M) = false ∧ ∃ go mo Mo, e = .returned (.tuple #[.pointer (some ⟨go, 0, none⟩), .int .i64 0]) ∧ GridIs w' go mo Mo ∧ er Mo = goP (cellF cols ⟨k, n, manyL cols⟩) (areaF cols ⟨k, n, manyL cols⟩) (er M)))
theorem lines_lb (cols : Bool) (k n : Int) (h : LB (manyL cols) k n) (gb mb : Nat) (M : GM) (w : World) (hG : GridIs w gb mb M) (hT : Tabs w) (hO : GOk (er M)) :
    Calls Tryz.prog 15 #[.pointer (some ⟨gb, 0, none⟩), .bool cols, .int .i64 k, .int .i64 n] w (LinesR cols k n M w) := by
  refine (lines22_any cols k n gb mb M w hG hT hO).mono ?_
  rintro e w1 ⟨hx, (⟨h1, rfl⟩ | ⟨h1, (⟨h2, rfl⟩ | ⟨h2, go, mo, Mo, rfl, h3, h4, _, _⟩)⟩)⟩
  · rw [made_lb h] at h1; cases h1
  · exact ⟨hx, Or.inl ⟨h2, rfl⟩⟩
  · exact ⟨hx, Or.inr ⟨h2, go, mo, Mo, rfl, h3, h4.trans (goAll_eq (lines_roadV h) (lines_monoC h) hO)⟩⟩
theorem cellF_z {cols : Bool} {k n : Int} (h : LB (manyL cols) k n) {a : Ad} (hv : validB a.1 a.2 = true) :
    cellF cols ⟨k, n, manyL cols⟩ a = (if cols = true then ((lineZ k n (manyL cols) a.1).1, a.2) else (a.1, (lineZ k n (manyL cols) a.2).1), (lineZ k n (manyL cols) (if cols = true then a.1 else a.2)).2) := by
  have v := validB_le hv
  unfold cellF
  cases cols
  · rw [if_neg (by decide), if_neg (by decide), if_neg (by decide), lineF_eq h (show 1 ≤ a.2 ∧ a.2 ≤ 4096 by omega)]
  · rw [if_pos rfl, if_pos rfl, if_pos rfl, lineF_eq h (show 1 ≤ a.1 ∧ a.1 ≤ 256 by omega)]
theorem kind_12 {c : ContT} (h : gvalidB c = true) (h0 : (c.kind == 0) = false) : c.kind = 1 ∨ c.kind = 2 := by
  unfold gvalidB at h
  rw [h0] at h
  simp only [Bool.false_eq_true, if_false] at h
  by_cases h1 : (c.kind == 1) = true
  · exact Or.inl (by simpa using h1)
  · rw [if_neg h1] at h
    by_cases h2 : (c.kind == 2) = true
    · exact Or.inr (by simpa using h2)
    · rw [if_neg h2] at h; cases h
theorem form_2 {cols : Bool} {k n : Int} (h : LB (manyL cols) k n) {c : ContT} (hv : gvalidB c = true) (hk : c.kind = 2) : formP cols k n c.t = ((contG (cellF cols ⟨k, n, manyL cols⟩) (areaF cols ⟨k, n, manyL cols⟩) c).t, 0) := by
  have h3 : checkT c.t = 0 := by
    unfold gvalidB at hv
    simp only [hk, Int.reduceBEq, Bool.false_eq_true, if_false, if_true, Bool.and_eq_true] at hv
    simpa using hv.2
  unfold formP contG
  rw [if_neg (by omega), made_lb h, if_neg (by decide), if_pos hk]
theorem row_mid {V : World} {b : Nat} {z : CE} (h : V.heap[b]? = some (.cells #[.int .i64 z.1.kind, .int .i64 z.1.v.kind, .float .f64 z.1.v.x, .string z.1.v.s, .bool z.1.v.b, .int .i64 z.1.v.f, .int .i64 z.1.t.kind, .int .i64 z.1.t.op, .float .f64 z.1.t.x, .string z.1.t.s, .bool z.1.t.b, .int .i64 z.1.t.f, .int .i64 z.1.t.ref.a.1, .int .i64 z.1.t.ref.a.2, .bool z.1.t.ref.cf, .bool z.1.t.ref.rf, .int .i64 z.1.t.to.a.1, .int .i64 z.1.t.to.a.2, .bool z.1.t.to.cf, .bool z.1.t.to.rf, .slice z.2 z.1.t.args.length z.1.t.args.length] 50 (0, 0))) : V.rangeAt b 6 (nodeC z.1.t (.slice z.2 z.1.t.args.length z.1.t.args.length)) := fun j v hj => by
  have e : (#[.int .i64 z.1.kind, .int .i64 z.1.v.kind, .float .f64 z.1.v.x, .string z.1.v.s, .bool z.1.v.b, .int .i64 z.1.v.f, .int .i64 z.1.t.kind, .int .i64 z.1.t.op, .float .f64 z.1.t.x, .string z.1.t.s, .bool z.1.t.b, .int .i64 z.1.t.f, .int .i64 z.1.t.ref.a.1, .int .i64 z.1.t.ref.a.2, .bool z.1.t.ref.cf, .bool z.1.t.ref.rf, .int .i64 z.1.t.to.a.1, .int .i64 z.1.t.to.a.2, .bool z.1.t.to.cf, .bool z.1.t.to.rf, .slice z.2 z.1.t.args.length z.1.t.args.length] : Array Value).toList.drop 6 = nodeC z.1.t (.slice z.2 z.1.t.args.length z.1.t.args.length) := rfl
  rw [← e, List.getElem?_drop] at hj
  simp only [World.cell?, h]
  rw [← Array.getElem?_toList]
  exact hj
theorem cont_1 {cG : Ad → Ad × Bool} {aG : ArT → ArT × Bool} {c : ContT} (hk : c.kind = 1) : contG cG aG c = c := by unfold contG; rw [if_neg (by omega)]
set_option maxRecDepth 100000 in
set_option maxHeartbeats 8000000 in
theorem moveLines_any (l : List PI) (lv : Value) (cols : Bool) (line n : Int) (w : World) (hT : Tabs w) (hl : PutsIn w lv l) (hs : ∀ x ∈ l, smallT x.c.t) (hb1 : -9223372036854775808 ≤ line ∧ line ≤ 9223372036854775807) (hb2 : -9223372036854775808 ≤ n ∧ n ≤ 9223372036854775807) :
    Calls Tryz.prog 4 #[lv, .bool cols, .int .i64 line, .int .i64 n] w fun e w' => e = .returned (.bool true) ∧ Xt w w' := by
  obtain ⟨la, lc, rfl, hlc, hlc2⟩ := hl.shape
  have HOK0 := Lib.hid (fun M (hE : er M = allP [] (pis l)) => (show GOk (er M) by rw [hE]; exact allP_ok GOk.nil (pis_ok hl)))
  have HT := Lib.hid hT
  have HL := Lib.hid hl
  have HS := Lib.hid hs
  obtain ⟨k, hk⟩ : ∃ k, placeZ cols line = k := ⟨_, rfl⟩
  have HPL := Lib.hid (fun w => placeL_any cols line w hb1.1 hb1.2)
  have hkb := placeZ_bd cols line
  rw [hk] at HPL hkb
  obtain ⟨q, hq⟩ : ∃ q, pickZ n 81 = q := ⟨_, rfl⟩
  have HPK := Lib.hid (fun w => pickz_any n 81 w hb2.1 hb2.2 (by omega) (by omega))
  have hqb := pickZ_lt (c := n) (n := 81) (by omega)
  rw [hq] at HPK hqb
  obtain ⟨p, hp⟩ : ∃ p, q - 40 = p := ⟨_, rfl⟩
  have hwp : IntKind.i64.wrap (q - 40) = p := by rw [wrap_idz (by omega) (by omega)]; exact hp
  have hpb : -40 ≤ p ∧ p ≤ 40 := by omega
  have hmm := many_bd cols
  have hm2 : 256 ≤ manyL cols := by cases cols <;> decide
  have HLB : Hid (LB (manyL cols) k p) := ⟨hmm.1, hmm.2, hkb.1, hkb.2, by omega, by omega⟩
  obtain ⟨cG, hcG⟩ : ∃ cG, cellF cols ⟨k, p, manyL cols⟩ = cG := ⟨_, rfl⟩
  obtain ⟨aG, haG⟩ : ∃ aG, areaF cols ⟨k, p, manyL cols⟩ = aG := ⟨_, rfl⟩
  have HCG := Lib.hid hcG
  have HAG := Lib.hid haG
  have HLI := Lib.hid (fun gb mb M w hG hT hO => lines_lb cols k p HLB.out gb mb M w hG hT hO)
  unfold LinesR at HLI
  simp only [hcG, haG] at HLI
  obtain ⟨B, hB⟩ : ∃ B, w.heap.size = B := ⟨_, rfl⟩
  have HBw := Lib.hid hB
  obtain ⟨wa, hwa⟩ : ∃ wa, w.alloc (.cells #[.bool cols] 4) = wa := ⟨_, rfl⟩
  have hsa : wa.heap.size = B + 1 := by rw [← hwa, ← hB]; simp
  obtain ⟨w0, hw0⟩ : ∃ w0, wa.alloc (.cells #[.bool false] 4) = w0 := ⟨_, rfl⟩
  have hs0 : w0.heap.size = B + 1 + 1 := by rw [← hw0]; simp [hsa]
  have HX0 : Hid (Xt w w0) := by unfold Hid; rw [← hw0, ← hwa]; exact ((Xt.refl _).alloc _).alloc _
  have HR5 : Hid (w0.heap[B]? = some (.cells #[.bool cols] 4 (0, 0))) := rowX (w := wa) (by rw [← hw0]; exact (Xt.refl _).alloc _) (by rw [← hwa, ← hB]; exact (MapKept.heap_alloc w _).1)
  have HR8 : Hid (w0.heap[B + 1]? = some (.cells #[.bool false] 4 (0, 0))) := by unfold Hid; rw [← hw0, ← hsa]; exact (MapKept.heap_alloc wa _).1
  clear hT hl hs hk hq hcG haG hp hb1 hb2 hmm
  refine (callsIn_wide (n := 25)).1 ?_
  refine callsIn_of_wp_marks Tryz.func4 rfl trivial ?_ rfl
  simp only [Tryz.ntmps4, List.size_toArray, List.length_cons, List.length_nil, Nat.reduceAdd, Nat.reduceSub, Array.replicate_succ, Array.replicate_zero, List.push_toArray, List.append_toArray, List.nil_append, List.cons_append]
  refine wpIn_wide.2 ?_
  refine wp_mono (Q := noPanic (bodyPostM Fence.wide 25 Tryz.prog Tryz.f4 (fun e w' => e = .returned (.bool true) ∧ Xt w w'))) ?_ noPanic_le
  go_wp2_with (first
    | (go_at_call 12; refine (made22_any l (.slice la l.length lc) w0 (HT.out.xt HX0.out) (HL.out.xt HX0.out) HS.out).mono ?_; rintro e w1 ⟨gb, mb, M, rfl, hG, hE, hx1⟩; have HX1 := Lib.hid (HX0.out.trans hx1); have HX01 := Lib.hid hx1; have HG1 := Lib.hid hG; have HE := Lib.hid hE; clear hG hE hx1)
    | (go_at_call 11; refine (known_any _ (HT.out.xt HX1.out)).mono ?_; rintro e w2 ⟨rfl, hx2⟩; have HX02 := Lib.hid (HX01.out.trans hx2); have HG2 := Lib.hid (HG1.out.xt hx2); obtain ⟨R, hR⟩ : ∃ R, w2.heap.size = R := ⟨_, rfl⟩; obtain ⟨w3, hw3⟩ : ∃ w3, w2.alloc (.cells #[.int .i64 k] 3) = w3 := ⟨_, rfl⟩; obtain ⟨w4, hw4⟩ : ∃ w4, w3.alloc (.cells #[.int .i64 p] 3) = w4 := ⟨_, rfl⟩; have hs3 : w3.heap.size = R + 1 := (by rw [← hw3, ← hR]; simp); have hs4 : w4.heap.size = R + 1 + 1 := (by rw [← hw4]; simp [hs3]); have HX24 : Hid (Xt w2 w4) := (by unfold Hid; rw [← hw4, ← hw3]; exact ((Xt.refl _).alloc _).alloc _); have HX04 := Lib.hid (HX02.out.trans HX24.out); have HR10 : Hid (w4.heap[R]? = some (.cells #[.int .i64 k] 3 (0, 0))) := (rowX (w := w3) (by rw [← hw4]; exact (Xt.refl _).alloc _) (by rw [← hw3, ← hR]; exact (MapKept.heap_alloc w2 _).1)); have HR11 : Hid (w4.heap[R + 1]? = some (.cells #[.int .i64 p] 3 (0, 0))) := (by unfold Hid; rw [← hw4, ← hs3]; exact (MapKept.heap_alloc w3 _).1); have d5 := (one_row (rowX HX02.out HR5.out)).1; obtain ⟨c5, f5⟩ := one_row (rowX HX04.out HR5.out); obtain ⟨c10, f10⟩ := one_row HR10.out; obtain ⟨c11, f11⟩ := one_row HR11.out; clear hx2)
    | (go_at_call 13; refine (HPL.out _).mono ?_; rintro e w' ⟨rfl, rfl⟩)
    | (go_at_call 14; refine (HPK.out _).mono ?_; rintro e w' ⟨rfl, rfl⟩)
    | (go_at_call 15; refine (HLI.out gb mb M w4 (HG2.out.xt HX24.out) (HT.out.xt (HX0.out.trans HX04.out)) (HOK0.out M HE.out)).mono ?_; rintro e w5 ⟨hx5, hr⟩; rcases hr with ⟨hst, rfl⟩ | ⟨hst, go, mo, Mo, rfl, hGo, hEo⟩; (obtain ⟨e11, g11⟩ := one_row (rowX (hx5.alloc (.cells #[.pointer none] 38)) HR11.out); obtain ⟨e8, g8⟩ := one_row (rowX (HX04.out.trans (hx5.alloc (.cells #[.pointer none] 38))) HR8.out); have hpos := goStop_pos hst; have HX45 := Lib.hid hx5; clear c5 f5 c10 f10 c11 f11 hx5 d5 hst); rotate_left; (obtain ⟨R5, hR5⟩ : ∃ R5, w5.heap.size = R5 := ⟨_, rfl⟩; obtain ⟨w6, hw6⟩ : ∃ w6, w5.alloc (.cells #[.pointer (some ⟨go, 0, none⟩)] 38) = w6 := ⟨_, rfl⟩; have hs6 : w6.heap.size = R5 + 1 := (by rw [← hw6, ← hR5]; simp); have HR12 : Hid (w6.heap[R5]? = some (.cells #[.pointer (some ⟨go, 0, none⟩)] 38 (0, 0))) := (by unfold Hid; rw [← hw6, ← hR5]; exact (MapKept.heap_alloc w5 _).1); have HX46 : Hid (Xt w4 w6) := (by unfold Hid; rw [← hw6]; exact hx5.alloc _); have HX45 := Lib.hid hx5; have HX56 : Hid (Xt w5 w6) := (by unfold Hid; rw [← hw6]; exact (Xt.refl _).alloc _); obtain ⟨e12, g12⟩ := one_row HR12.out; have HGo := Lib.hid hGo; have HEo := Lib.hid hEo; have HST := Lib.hid hst; clear c5 f5 c10 f10 c11 f11 hx5 d5 hst hGo hEo); rotate_left)
    | (go_at_call 16; refine (all22_any gb _).mono ?_; rintro e w' ⟨rfl, rfl⟩))
  · obtain ⟨w6, hw6⟩ : ∃ w6, w5.alloc (.cells #[.pointer none] 38) = w6 := ⟨_, rfl⟩
    have hx56 : Xt w5 w6 := by rw [← hw6]; exact (Xt.refl _).alloc _
    have hc : (w6.setCell ⟨B + 1, 0, none⟩ (.bool true)).cell? ⟨B + 1, 0, none⟩ = some (.bool true) := World.cell?_setCell_same _ _ _ (by rw [← hw6]; exact e8)
    simp only [hw6]
    exact ⟨_, results_one rfl _ _ (B + 1) (.bool true) rfl (load_bool1 _ _ _ hc), rfl, (((HX0.out.trans HX04.out).trans HX45.out).trans hx56).grownB (setCell_grown _ _ _ _) (fun q hq => by cases hq; omega)⟩
  · obtain ⟨w7, hw7⟩ : ∃ w7, w6.alloc (.cells #[.int .i64 0] 3) = w7 := ⟨_, rfl⟩
    have hs7 : w7.heap.size = R5 + 1 + 1 := by rw [← hw7]; simp [hs6]
    have HR14 : Hid (w7.heap[R5 + 1]? = some (.cells #[.int .i64 0] 3 (0, 0))) := by unfold Hid; rw [← hw7, ← hs6]; exact (MapKept.heap_alloc w6 _).1
    have HX67 : Hid (Xt w6 w7) := by unfold Hid; rw [← hw7]; exact (Xt.refl _).alloc _
    simp only [hw7]
    obtain ⟨W0, hW0⟩ : ∃ W0, (w7.alloc (.cells #[.pointer (some ⟨gb, 0, none⟩)] 38)).alloc (.cells #[.func (.func 84) #[] #[]] 53) = W0 := ⟨_, rfl⟩
    have hsW : W0.heap.size = R5 + 4 := by rw [← hW0]; simp [hs7]
    have HX7W : Hid (Xt w7 W0) := by unfold Hid; rw [← hW0]; exact ((Xt.refl _).alloc _).alloc _
    have HcgW : W0.cell? ⟨R5 + 2, 0, none⟩ = some (.pointer (some ⟨gb, 0, none⟩)) := by
      have := rowX (w := w7.alloc (.cells #[.pointer (some ⟨gb, 0, none⟩)] 38)) (w' := W0) (by rw [← hW0]; exact (Xt.refl _).alloc _) (MapKept.heap_alloc w7 _).1
      rw [hs7] at this
      exact (one_row this).1
    have rBw : W0.heap[R5 + 3]? = some (.cells #[.func (.func 84) #[] #[]] 53 (0, 0)) := by
      rw [← hW0]
      have := (MapKept.heap_alloc (w7.alloc (.cells #[.pointer (some ⟨gb, 0, none⟩)] 38)) (.cells #[.func (.func 84) #[] #[]] 53)).1
      simpa [hs7] using this
    simp only [hW0]
    have HX6W : Hid (Xt w6 W0) := HX67.out.trans HX7W.out
    have HX4W : Hid (Xt w4 W0) := HX46.out.trans HX6W.out
    have HX0W : Hid (Xt w0 W0) := HX04.out.trans HX4W.out
    have HXW : Hid (Xt w W0) := HX0.out.trans HX0W.out
    have HG6 : Hid (GridIs w6 gb mb M) := HG2.out.xt (HX24.out.trans HX46.out)
    have HGoW : Hid (GridIs W0 go mo Mo) := HGo.out.xt (HX56.out.trans HX6W.out)
    have HR14W := Lib.hid (rowX HX7W.out HR14.out)
    have HR12W := Lib.hid (rowX HX6W.out HR12.out)
    have HR10W := Lib.hid (rowX HX4W.out HR10.out)
    have HR11W := Lib.hid (rowX HX4W.out HR11.out)
    have HR5W := Lib.hid (rowX HX0W.out HR5.out)
    have HR8W := Lib.hid (rowX HX0W.out HR8.out)
    have hBR : B + 1 < R := by have := HX02.out.size; omega
    have hRR : R + 1 < R5 := by have := HX45.out.size; omega
    have HO := Lib.hid (HOK0.out M HE.out)
    have hgoR : go < R5 := by have := HGo.out.lt.1; omega
    have hmoR : mo < R5 := by have := HGo.out.lt.2; omega
    clear e12 g12 hw7 hw6 hw4 hw3 hwa hw0 hW0 hs0 hsa hs3 hs4 hs7
    generalize hA0 : Act.mk _ _ = a0
    refine (wpIn_wide (n := 25)).1 ?_
    refine rangeFunc_told (n := 25) (by omega) (gf := 98) (lb := #[.pointer (some ⟨R5 + 2, 0, none⟩), .pointer (some ⟨R5 + 3, 0, none⟩)]) (by subst hA0; rfl) (enters_of Tryz.func98 (by kernel_rfl) rfl)
      (some1_told (fun _ => false) 84 #[] (enters_of Tryz.func84 (by kernel_rfl) rfl) (fun _ => true) w6.heap.size w6 rfl (fun _ => True) (fun _ _ _ _ _ => trivial) (fun a W _ => all1_any a W) (25 - 1) (by omega) (R5 + 2) (R5 + 3) gb mb M HG6.out W0 (HX6W.out.mono (by omega)) trivial (by omega) HcgW rBw)
      (fun h k => ⟨h.1.trans k.1, h.2.trans k.2⟩) (fun W l o o' hl ho hc hw => ⟨belowK_b (w := W0) (by omega) W l o o' hl ho hc hw, KeepsT.of_grown (grownBy_putObj' W l o') (fun j o2 e h2 => by cases e; rw [ho] at h2; cases h2; cases o <;> simp_all [keptO, Obj.isCells, Obj.isWalk])⟩) (Below.refl _ _) (fun _ => rfl)
      (fun pre W => LI W0 (R5 + 1) (fun pre => (cntP cG (pre.map tpT) : Int)) pre W)
      (fun c pre W => False)
      LI.own
      (fun c s X Y row hs hg hr => hs.elim)
      ⟨⟨rfl, rfl, rfl, Nat.le_refl _, fun _ _ _ => rfl⟩, HR14W.out⟩
      (fun x a' W => ∃ (z : CE) (Bx By nT : Nat), z.1 = copyC x.2.1 ∧ z.2 = x.2.2 ∧ Bx ≠ R5 + 1 ∧ By ≠ R5 + 1 ∧ W.heap[Bx]? = some (.cells #[.int .i64 x.1.1, .int .i64 x.1.2] 24 (0, 0)) ∧ W.heap[By]? = some (.cells #[.int .i64 z.1.kind, .int .i64 z.1.v.kind, .float .f64 z.1.v.x, .string z.1.v.s, .bool z.1.v.b, .int .i64 z.1.v.f, .int .i64 z.1.t.kind, .int .i64 z.1.t.op, .float .f64 z.1.t.x, .string z.1.t.s, .bool z.1.t.b, .int .i64 z.1.t.f, .int .i64 z.1.t.ref.a.1, .int .i64 z.1.t.ref.a.2, .bool z.1.t.ref.cf, .bool z.1.t.ref.rf, .int .i64 z.1.t.to.a.1, .int .i64 z.1.t.to.a.2, .bool z.1.t.to.cf, .bool z.1.t.to.rf, .slice z.2 z.1.t.args.length z.1.t.args.length] 50 (0, 0)) ∧ smallT z.1.t ∧ ArgsIn W nT (.slice z.2 z.1.t.args.length z.1.t.args.length) z.1.t.args ∧ (x.1, x.2.1) ∈ er M ∧
        a' = { tmps := (((a0.tmps.setIfInBounds 56 (adW x.1)).setIfInBounds 57 (ceV z)).setIfInBounds 15 (.pointer (some ⟨Bx, 0, none⟩))).setIfInBounds 16 (.pointer (some ⟨By, 0, none⟩)), defers := [] })
      (fun x a' _ X Y row hs hg hr => by
        obtain ⟨z, Bx, By, nT, e1, e2, n1, n2, h1, h2, h3, h4, h5⟩ := hs
        exact ⟨z, Bx, By, nT, e1, e2, n1, n2, rowCells_own h1 hg (fun r e => (hr r e).2), rowCells_own h2 hg (fun r e => (hr r e).2), h3, h4.kept (cellsIn_walk hg (fun r e => (hr r e).2)), h5⟩)
      ?assign ?body ?done ?stop
    case stop =>
      rintro D c pre W hD ⟨i, hS⟩ hF hK
      exact hF.elim
    case done =>
      rintro D xs W hD hS hI hK
      subst hA0
      obtain ⟨hgr, hcn⟩ := hI
      rw [told_all hS] at hcn
      have HX6 : Hid (Xt w6 W) := HX6W.out.grownB hgr (fun q hq => by cases hq; omega)
      have HXw : Hid (Xt w W) := HXW.out.grownB hgr (fun q hq => by cases hq; have := HX0.out.size; have := HX04.out.size; omega)
      have HGW : Hid (GridIs W go mo Mo) := HGo.out.xt (HX56.out.trans HX6.out)
      obtain ⟨len, hln⟩ : ∃ len : Int, (Mo.length : Int) = len := ⟨_, rfl⟩
      have hlen : ((cntP cG (er M) : Nat) : Int) = len := by rw [← hln, ← er_len, HEo.out]; unfold goP cntP; rw [List.length_map]
      rw [hlen] at hcn
      have HLN := Lib.hid (glen_any go mo Mo W.drew (HGW.out.xt (Xt.refl W).drew))
      rw [hln] at HLN
      clear hlen hln
      have r12 := rowX HX6.out HR12.out
      have r8 := rowX ((HX04.out.trans HX46.out).trans HX6.out) HR8.out
      have hxd : Xt W W.drew := (Xt.refl W).drew
      obtain ⟨c12, _⟩ := one_row (rowX hxd r12)
      obtain ⟨c14, _⟩ := one_row (rowX hxd hcn)
      obtain ⟨e8, g8⟩ := one_row (rowX hxd r8)
      have HK := Lib.hid hK
      have hDB : B + 1 < D := by omega
      clear r12 r8 hcn hgr hS hK hxd
      go_wp2_with fail
      refine wp_region_held_drew (S := fun V => V.cell? ⟨R5, 0, none⟩ = some (.pointer (some ⟨go, 0, none⟩)) ∧ V.cell? ⟨R5 + 1, 0, none⟩ = some (.int .i64 len)) (by kernel_rfl) ⟨c12, c14⟩ (fun hHeld => ?_)
      refine wpAnyH_take (i := 0) (oi := _) (v := ?_) rfl (by kernel_rfl) (by kernel_rfl) (by kernel_rfl) (fun _ _ _ h => h) (Or.inl ⟨by rfl, ?_⟩) (by assumption) ?_
      rotate_left
      · intro V hSw; (try dsimp only at hSw); obtain ⟨u0, u1⟩ := hSw; go_simp; first | done | with_reducible rfl
      try simp only [Act.put, List.getElem_toArray, List.getElem_cons_zero, List.setIfInBounds_toArray, List.set_cons_zero, List.set_cons_succ]
      refine wpAnyH_take (i := 2) (oi := _) (v := ?_) rfl (by kernel_rfl) (by kernel_rfl) (by kernel_rfl) (fun _ _ _ h => h) (Or.inl ⟨by rfl, ?_⟩) (by assumption) ?_
      rotate_left
      · intro V hSw; (try dsimp only at hSw); obtain ⟨u0, u1⟩ := hSw; go_simp; first | done | with_reducible rfl
      try simp only [Act.put, List.getElem_toArray, List.getElem_cons_zero, List.getElem_cons_succ, List.setIfInBounds_toArray, List.set_cons_zero, List.set_cons_succ]
      refine wpAnyH_ready (rs := [1]) (by kernel_rfl) (by simp) ?_
      refine AllReadyH.cons (o := _) rfl (fun K hK => ?_) AllReadyH.nil
      go_simp
      refine (HLN.out).mono ?_
      rintro e w' ⟨rfl, rfl⟩
      refine hK.out _ _ hHeld (fun hHeld2 => ?_)
      clear hK K
      try simp only [Act.put, List.getElem_toArray, List.getElem_cons_zero, List.getElem_cons_succ, List.setIfInBounds_toArray, List.set_cons_zero, List.set_cons_succ]
      refine wpAnyH_take (i := 3) (oi := _) (v := ?_) rfl (by kernel_rfl) (by kernel_rfl) (by kernel_rfl) (fun _ _ _ h => h) (Or.inl ⟨by rfl, ?_⟩) (by assumption) ?_
      rotate_left
      · intro V hSw; (try dsimp only at hSw); obtain ⟨u0, u1⟩ := hSw; go_simp; first | done | with_reducible rfl
      try simp only [Act.put, List.getElem_toArray, List.getElem_cons_zero, List.getElem_cons_succ, List.setIfInBounds_toArray, List.set_cons_zero, List.set_cons_succ]
      refine wpAnyH_ready (rs := [4]) (by kernel_rfl) (by simp) ?_
      refine AllReadyH.cons (o := _) rfl (fun K hK => ?_) AllReadyH.nil
      go_simp
      refine hK.out _ _ ⟨(World.cell?_setCell_other _ _ _ _ (by simp)).trans c12, (World.cell?_setCell_other _ _ _ _ (by simp)).trans c14⟩ (fun hHeld3 => ?_)
      clear hK K
      refine wpAnyH_done (by kernel_rfl) ?_ _
      go_wp2_with fail
      obtain ⟨W', hW'⟩ : ∃ W', (W.setCell ⟨B + 1, 0, none⟩ (.bool true)).drew = W' := ⟨_, rfl⟩
      have k8 : W'.cell? ⟨B + 1, 0, none⟩ = some (.bool true) := by rw [← hW']; exact World.cell?_setCell_same _ _ _ e8
      have hKW : W'.heap[D]? = some (.deferred (some [])) := by rw [← hW']; exact (Below.heap_setCell _ _ _ _ (fun e => by simp at e; omega)).trans HK.out
      have hxE : Xt w (W'.putObj D (.deferred none)) := by
        rw [← hW']
        exact ((HXw.out.grownB (setCell_grown _ _ _ _) (fun q hq => by cases hq; omega)).drew).grownB (grownBy_putObj' _ D _) (fun q hq => by cases hq; omega)
      have k8' : (W'.putObj D (.deferred none)).cell? ⟨B + 1, 0, none⟩ = some (.bool true) := (World.cell?_of_block (w := W') (a := ⟨B + 1, 0, none⟩) (World.putObj_heap_other (by show B + 1 ≠ D; omega))).trans k8
      rw [hW']
      refine ⟨by simp, .inl ⟨_, _, rfl, run_takeDeferred hKW, ?_⟩⟩
      exact ⟨_, results_one rfl _ _ (B + 1) (.bool true) rfl (load_bool1 _ _ _ k8'), rfl, hxE⟩
    case assign =>
      rintro l0 pre x W K hI ⟨V, hIV, ⟨hxV, hsm, nT, hA⟩, hmem⟩ hK
      subst hA0
      obtain ⟨⟨c, d⟩, tc, tp⟩ := x
      obtain ⟨z, hz1, hz2⟩ : ∃ z : CE, z.1 = copyC tc ∧ z.2 = tp := ⟨(copyC tc, tp), rfl, rfl⟩
      have hzv : copyCV tc tp = ceV z := by rw [← ceV_copy]; obtain ⟨z1, z2⟩ := z; simp only at hz1 hz2; rw [hz1, hz2]
      have hzA : smallT z.1.t ∧ ArgsIn W nT (.slice z.2 z.1.t.args.length z.1.t.args.length) z.1.t.args := by
        rw [hz1, hz2]
        refine ⟨smallT_copy _ hsm, ?_⟩
        show ArgsIn _ _ (.slice tp (copyT tc.t).args.length (copyT tc.t).args.length) (copyT tc.t).args
        rw [copyT_len, copyT_args]
        exact hA.args
      have HZ := Lib.hid (show z.1 = copyC tc ∧ z.2 = tp from ⟨hz1, hz2⟩)
      have HZA := Lib.hid hzA
      simp only [teV, hzv]
      clear hz1 hz2 hzv hzA hA hsm hIV hxV
      have hWs : R5 + 4 ≤ W.heap.size := by have := hI.grown.size; omega
      obtain ⟨wA, hwA, hbA, hsA, kA0, kA1⟩ := box1 W c d 24
      obtain ⟨wZ, wR, hwZ, hwR, hrZ, hrR, hxR, hsR, hxZ, hsZ⟩ := boxR wA z
      rw [hsA] at hrZ hwR hrR
      have hrA : wA.heap[W.heap.size]? = some (.cells #[.int .i64 c, .int .i64 d] 24 (0, 0)) := by rw [← hwA]; exact World.alloc_heap_new W _
      have hxWR := Lib.hid (Xt.trans hbA hxR)
      have HRA := Lib.hid ((hxR.block _ (by omega)).trans hrA)
      have HRZ := Lib.hid hrZ
      have HRR := Lib.hid hrR
      have HWR := Lib.hid hwR
      have HWs := Lib.hid hWs
      clear hrZ hwR hrR hrA kA0 kA1 hbA hxZ hxR hWs
      gi_wp2_with (first | (refine wpListIn_store_row (P := Tryz.prog) rfl 50 _ _ rfl (W.heap.size + 1) #[.int .i64 z.1.kind, .int .i64 z.1.v.kind, .float .f64 z.1.v.x, .string z.1.v.s, .bool z.1.v.b, .int .i64 z.1.v.f, .int .i64 z.1.t.kind, .int .i64 z.1.t.op, .float .f64 z.1.t.x, .string z.1.t.s, .bool z.1.t.b, .int .i64 z.1.t.f, .int .i64 z.1.t.ref.a.1, .int .i64 z.1.t.ref.a.2, .bool z.1.t.ref.cf, .bool z.1.t.ref.rf, .int .i64 z.1.t.to.a.1, .int .i64 z.1.t.to.a.2, .bool z.1.t.to.cf, .bool z.1.t.to.rf, .slice z.2 z.1.t.args.length z.1.t.args.length] rfl rfl 50 _ HRZ.out (by kernel_rfl) rfl (by simp [Value.oneCell']) ?_; rw [HWR.out]))
      have hx := hxWR.out
      have hWs := HWs.out
      refine hK _ _ (keepsFrom_xt hx _) ⟨hx.mono (by omega), KeepsT.of_xt hx⟩ ⟨grownBy_far hI.grown hx.grownN (fun r e => by cases e), rowX hx hI.cnt⟩ ?_
      refine ⟨z, W.heap.size, W.heap.size + 1, nT, HZ.out.1, HZ.out.2, by omega, by omega, HRA.out, HRR.out, HZA.out.1, HZA.out.2.xt hx, hmem, ?_⟩
      simp only [List.setIfInBounds_toArray, List.set_cons_zero, List.set_cons_succ]
    case body =>
      rintro l0 pre x a' W hl0 ⟨r, hr⟩ hI ⟨z, Bx, By, nT, hz1, hz2, nBx, nBy, hBx, hBy, hzs, hzA, hmem, rfl⟩ hlt
      subst hA0
      obtain ⟨⟨c, d⟩, tc, tp⟩ := x
      simp only at hBx hz1 hz2
      obtain ⟨hgr, hcn⟩ := hI
      obtain ⟨v1, v2, v3, v4, v5⟩ := HO.out.each _ hmem
      simp only at v1 v2 v3 v4 v5
      rw [v4] at hz1
      have HZ := Lib.hid (show z.1 = tc ∧ z.2 = tp from ⟨hz1, hz2⟩)
      have HV1 := Lib.hid v1
      have HVZ : Hid (gvalidB z.1 = true) := by unfold Hid; rw [hz1]; exact v2
      have HOZ : Hid z.1.ok := by unfold Hid; rw [hz1]; exact v5
      have HK12 : Hid (z.1.kind = 1 ∨ z.1.kind = 2) := by unfold Hid; rw [hz1]; exact kind_12 v2 v3
      have HZA := Lib.hid (show smallT z.1.t ∧ ArgsIn W nT (.slice z.2 z.1.t.args.length z.1.t.args.length) z.1.t.args from ⟨hzs, hzA⟩)
      have HMEM := Lib.hid hmem
      have HX6 : Hid (Xt w6 W) := HX6W.out.grownB hgr (fun q hq => by cases hq; omega)
      have HX5 : Hid (Xt w5 W) := HX56.out.trans HX6.out
      have HXw : Hid (Xt w W) := HXW.out.grownB hgr (fun q hq => by cases hq; have := HX0.out.size; have := HX04.out.size; omega)
      have HGW : Hid (GridIs W go mo Mo) := HGo.out.xt HX5.out
      have rB := rowX ((HX04.out.trans HX46.out).trans HX6.out) HR5.out
      have r10 := rowX (HX46.out.trans HX6.out) HR10.out
      have r11 := rowX (HX46.out.trans HX6.out) HR11.out
      have r12 := rowX HX6.out HR12.out
      have hWs : R5 + 4 ≤ W.heap.size := by have := hgr.size; omega
      obtain ⟨cnt, hcnt⟩ : ∃ cnt : Int, ((cntP cG (pre.map tpT) : Nat) : Int) = cnt := ⟨_, rfl⟩
      have hcb : 0 ≤ cnt ∧ cnt ≤ 4096 := by
        have h1 : cntP cG (pre.map tpT) ≤ 4096 := by
          have h2 := List.length_filter_le (fun x : Ad × ContT => (cG x.1).2) (pre.map tpT)
          have h3 : (pre.map tpT).length ≤ 4096 := by
            have h4 := HO.out.many
            rw [er_len] at h4
            rw [List.length_map]
            omega
          unfold cntP
          omega
        omega
      rw [hcnt] at hcn
      have HCN := Lib.hid hcnt
      have hbl := validB_le v1
      obtain ⟨zz, hzz⟩ : ∃ zz, (if cols = true then c else d) = zz := ⟨_, rfl⟩
      have hzb : 1 ≤ zz ∧ zz ≤ manyL cols := by rw [← hzz]; cases cols <;> simp only [if_true, Bool.false_eq_true, if_false, manyL] <;> omega
      have hzm : manyL cols ≤ 4096 := (many_bd cols).2
      obtain ⟨y, hy⟩ : ∃ y, cG (c, d) = y := ⟨_, rfl⟩
      have hcf := cellF_z HLB.out (a := (c, d)) v1
      rw [HCG.out, hy] at hcf
      simp only [hzz] at hcf
      have hlz := lineZ_bool (k := k) (n := p) (m := manyL cols) (z := zz)
      obtain ⟨⟨y1, y2⟩, yo⟩ := y
      have HY := Lib.hid hy
      have HF : Hid (∀ V, Xt W V → (V.cell? ⟨B, 0, none⟩ = some (.bool cols) ∧ V.cell? ⟨R, 0, none⟩ = some (.int .i64 k) ∧ V.cell? ⟨R + 1, 0, none⟩ = some (.int .i64 p) ∧ V.cell? ⟨R5, 0, none⟩ = some (.pointer (some ⟨go, 0, none⟩)) ∧ V.cell? ⟨R5 + 1, 0, none⟩ = some (.int .i64 cnt) ∧ V.frozen? ⟨R5 + 1, 0, none⟩ = false) ∧ V.heap[By]? = some (.cells #[.int .i64 z.1.kind, .int .i64 z.1.v.kind, .float .f64 z.1.v.x, .string z.1.v.s, .bool z.1.v.b, .int .i64 z.1.v.f, .int .i64 z.1.t.kind, .int .i64 z.1.t.op, .float .f64 z.1.t.x, .string z.1.t.s, .bool z.1.t.b, .int .i64 z.1.t.f, .int .i64 z.1.t.ref.a.1, .int .i64 z.1.t.ref.a.2, .bool z.1.t.ref.cf, .bool z.1.t.ref.rf, .int .i64 z.1.t.to.a.1, .int .i64 z.1.t.to.a.2, .bool z.1.t.to.cf, .bool z.1.t.to.rf, .slice z.2 z.1.t.args.length z.1.t.args.length] 50 (0, 0)) ∧ V.cell? ⟨By, 0, none⟩ = some (.int .i64 z.1.kind) ∧ V.rangeAt By 6 [.int .i64 z.1.t.kind, .int .i64 z.1.t.op, .float .f64 z.1.t.x, .string z.1.t.s, .bool z.1.t.b, .int .i64 z.1.t.f, .int .i64 z.1.t.ref.a.1, .int .i64 z.1.t.ref.a.2, .bool z.1.t.ref.cf, .bool z.1.t.ref.rf, .int .i64 z.1.t.to.a.1, .int .i64 z.1.t.to.a.2, .bool z.1.t.to.cf, .bool z.1.t.to.rf, .slice z.2 z.1.t.args.length z.1.t.args.length] ∧ V.cell? ⟨Bx, 0, none⟩ = some (.int .i64 c) ∧ V.cell? ⟨Bx, 1, none⟩ = some (.int .i64 d)) := Lib.hid fun V hV => by
        obtain ⟨a1, _⟩ := one_row (rowX hV rB)
        obtain ⟨a2, _⟩ := one_row (rowX hV r10)
        obtain ⟨a3, _⟩ := one_row (rowX hV r11)
        obtain ⟨a4, _⟩ := one_row (rowX hV r12)
        obtain ⟨a5, a6⟩ := one_row (rowX hV hcn)
        have hb := rowX hV hBy
        obtain ⟨a7, a8, _, _⟩ := cells2 (rowX hV hBx)
        exact ⟨⟨a1, a2, a3, a4, a5, a6⟩, hb, by simp [World.cell?, hb], row_mid hb, a7, a8⟩
      have HRN := Lib.hid hcn
      have HGR := Lib.hid hgr
      have HBY := Lib.hid hBy
      obtain ⟨⟨cB, c10, c11, c12, c14, f14⟩, _, _, _, x0, x1⟩ := HF.out W (Xt.refl W)
      clear hcn hgr rB r10 r11 r12 hBx hBy hz1 hz2 hzs hzA hr hlt v1 v2 v3 v4 v5 hmem hy hcnt
      simp only [List.setIfInBounds_toArray, List.set_cons_zero, List.set_cons_succ]
      have hfa : Fence.wide.fn 17 := trivial
      have hfb : Fence.wide.fn 18 := trivial
      have hfc : Fence.wide.fn 19 := trivial
      have hfd : Fence.wide.fn 20 := trivial
      have hfe : Fence.wide.fn 8 := trivial
      have hff : Fence.wide.fn 10 := trivial
      gi_upto_if 60 with fail
      gi_cut [17] from 145 (fun s17 wc => s17 = .int .i64 zz ∧ W = wc)
      case first =>
        cases cols
        · simp only [Bool.false_eq_true, if_false] at hzz
          subst hzz
          gi_wp2_with fail
          gi_meet
          case rel => exact ⟨rfl, rfl⟩
        · simp only [if_true] at hzz
          subst hzz
          gi_wp2_with fail
          gi_meet
          case rel => exact ⟨rfl, rfl⟩
      case rest =>
        obtain ⟨rfl, rfl⟩ := hcut
        have hsub : IntKind.i64.wrap (k - p) = k - p := wrap_idz (by omega) (by omega)
        have hadd : IntKind.i64.wrap (zz + p) = zz + p := wrap_idz (by omega) (by omega)
        by_cases hsk : p < 0 ∧ k ≤ zz ∧ zz < k - p
        · obtain ⟨s1, s2, s3⟩ := hsk
          have hyo : yo = false := by
            cases yo
            · rfl
            · exact absurd (hlz.1 (congrArg Prod.snd hcf).symm) (by omega)
          have HYO := Lib.hid hyo
          clear hyo hcf hlz hzz
          gi_wp2_with fail
          refine ⟨keepsFrom_xt (Xt.refl _) _, ⟨(Xt.refl _).mono (by omega), KeepsT.of_xt (Xt.refl _)⟩, ⟨HGR.out, ?_⟩⟩
          rw [List.map_append, List.map_cons, List.map_nil, cntP_snoc, if_neg (by rw [show tpT ((c, d), tc, tp) = ((c, d), tc) from rfl, HY.out, HYO.out]; exact Bool.false_ne_true), HCN.out]
          exact HRN.out
        · have hyo : yo = true := by
            by_cases hpp : 0 < p
            · have h := goStop_all HST.out hpp _ HMEM.out
              simp only at h
              rw [HY.out] at h
              exact h
            · exact (congrArg Prod.snd hcf).trans (hlz.2 (by omega))
          subst hyo
          obtain ⟨z2, hz2⟩ : ∃ z2, (if zz < k then zz else zz + p) = z2 := ⟨_, rfl⟩
          have hlz1 : (lineZ k p (manyL cols) zz).1 = z2 := by rw [← hz2]; unfold lineZ; split <;> (try split) <;> rfl
          have hy12 : (y1, y2) = (if cols = true then (z2, d) else (c, z2)) := by
            have h := congrArg Prod.fst hcf
            simp only at h
            rw [h]
            cases cols
            · simp only [Bool.false_eq_true, if_false] at hzz ⊢; rw [hzz, hlz1]
            · simp only [if_true] at hzz ⊢; rw [hzz, hlz1]
          clear hcf hlz hlz1
          gi_upto_region 18 with fail
          gi_cut [76] from 145 (fun s76 wc => s76 = .bool false ∧ W = wc)
          case first =>
            by_cases s1 : p < 0
            · by_cases s2 : k ≤ zz
              · have s3 : ¬ zz < k - p := by omega
                gi_wp2_with fail
                gi_meet
                case rel => exact ⟨rfl, rfl⟩
              · gi_wp2_with fail
                gi_meet
                case rel => exact ⟨rfl, rfl⟩
            · gi_wp2_with fail
              gi_meet
              case rel => exact ⟨rfl, rfl⟩
          case rest =>
            obtain ⟨rfl, rfl⟩ := hcut
            gi_upto_if 79 with fail
            gi_cut [17, 79, 80, 81, 82] from 145 (fun s17 _ _ _ _ wc => s17 = .int .i64 z2 ∧ W = wc)
            case first =>
              by_cases s1 : zz < k
              · rw [if_pos s1] at hz2
                subst hz2
                have s2 : ¬ k ≤ zz := by omega
                gi_wp2_with fail
                gi_meet
                case rel => exact ⟨rfl, rfl⟩
              · rw [if_neg s1] at hz2
                subst hz2
                have s2 : k ≤ zz := by omega
                gi_wp2_with fail
                gi_meet
                case rel => exact ⟨rfl, rfl⟩
            case rest =>
              obtain ⟨rfl, rfl⟩ := hcut
              gi_upto_if 87 with (first
                | (gi_at_call 17; refine (callsIn_round (at_any (_, _) _)).mono ?_; rintro e v1 ⟨rfl, hg1⟩; obtain ⟨wy, hwy⟩ : ∃ wy, v1.alloc (.cells #[.int .i64 c, .int .i64 z2] 24) = wy := ⟨_, rfl⟩; have HXY : Hid (Xt W wy) := (by unfold Hid; rw [← hwy]; exact hg1.xt.alloc _); have HRY : Hid (wy.heap[v1.heap.size]? = some (.cells #[.int .i64 c, .int .i64 z2] 24 (0, 0))) := (by unfold Hid; rw [← hwy]; exact (MapKept.heap_alloc v1 _).1); have hvs := hg1.xt.size; obtain ⟨⟨cB', _, _, _, _, _⟩, _, _, _, x0', x1'⟩ := HF.out wy HXY.out; clear hg1 cB c10 c11 c12 c14 f14 x0 x1))
              gi_cut [88, 89, 90, 91] from 145 (fun _ _ _ _ wc => Hid (Xt W wc) ∧ Hid (wc.heap[v1.heap.size]? = some (.cells #[.int .i64 y1, .int .i64 y2] 24 (0, 0))))
              case first =>
                cases cols
                · simp only [Bool.false_eq_true, if_false, Prod.mk.injEq] at hy12
                  obtain ⟨rfl, rfl⟩ := hy12
                  gi_wp2_with fail
                  gi_meet
                  case rel => exact ⟨HXY, HRY⟩
                · simp only [if_true, Prod.mk.injEq] at hy12
                  obtain ⟨rfl, rfl⟩ := hy12
                  gi_wp2_with (first
                    | (gi_at_call 17; refine (callsIn_round (at_any (_, _) _)).mono ?_; rintro e v2 ⟨rfl, hg2⟩; have HXY2 : Hid (Xt W v2) := HXY.out.trans hg2.xt; have HRY2 := Lib.hid (rowX hg2.xt HRY.out); obtain ⟨g0, g1, h0, h1⟩ := cells2 HRY2.out; clear hg2))
                  gi_meet
                  case rel =>
                    refine ⟨(HXY2.out.grownB (setCell_grown _ _ _ _) (fun q hq => by cases hq; omega)).grownB (setCell_grown _ _ _ _) (fun q hq => by cases hq; omega), ?_⟩
                    exact setCell_row (setCell_row HRY2.out 0 _) 1 _
              case rest =>
                obtain ⟨HXc, HRc⟩ := hcut
                clear hy12 hz2 hzz hsk hadd hsub cB' x0' x1' HXY HRY
                have hzt : z.1 = tc := HZ.out.1
                have HRV : Hid (RoadV cG aG) := by unfold Hid; rw [← HCG.out, ← HAG.out]; exact lines_roadV HLB.out
                have HMC : Hid (MonoC cG) := by unfold Hid; rw [← HCG.out]; exact lines_monoC HLB.out
                obtain ⟨u, hu⟩ : ∃ u, contG cG aG z.1 = u := ⟨_, rfl⟩
                have HCT : Hid (copyC tc = tc) := (HO.out.each _ HMEM.out).2.2.2.1
                have HCU : Hid (copyC u = u) := by
                  unfold Hid
                  have := contG_copy cG aG tc
                  rw [HCT.out, ← hzt, hu] at this
                  exact this
                have HU : Hid (((lkM (y1, y2) Mo).getD (zeroC, none)).1 = u) := by
                  unfold Hid
                  have h := goP_get HRV.out HMC.out HO.out HMEM.out (by show (cG (c, d)).2 = true; rw [HY.out])
                  simp only [HY.out] at h
                  rw [er_getD, HEo.out, h, ← hu, hzt]; rfl
                have HVY : Hid (validB y1 y2 = true) := by
                  have h := HRV.out.cell (c, d) HV1.out (by rw [HY.out])
                  rw [HY.out] at h
                  exact h
                have HUZ := Lib.hid hu
                clear hu hzt
                obtain ⟨⟨cB, c10, c11, c12, c14, f14⟩, _, _, _, x0, x1⟩ := HF.out _ HXc.out
                obtain ⟨g0, g1, _, _⟩ := cells2 HRc.out
                rcases HK12.out with hk1 | hk2
                · have HK := Lib.hid hk1
                  clear hk1
                  gi_wp2_with (first
                    | (gi_at_call 18; refine (callsIn_round (gget_any go mo Mo (y1, y2) _ (HGW.out.xt HXc.out))).mono ?_; rintro e w7 ⟨n7, a7, rfl, hA7, hx7⟩; rw [HU.out] at hA7; rw [HU.out]; obtain ⟨zd, hd1, hd2⟩ : ∃ zd : CE, zd.1 = u ∧ zd.2 = a7 := ⟨(u, a7), rfl, rfl⟩; have hzv : copyCV u a7 = ceV zd := (by rw [← ceV_copy, HCU.out]; obtain ⟨zd1, zd2⟩ := zd; simp only at hd1 hd2; rw [hd1, hd2]); rw [hzv]; have HAD7 : Hid (ArgsIn w7 n7 (.slice zd.2 zd.1.t.args.length zd.1.t.args.length) zd.1.t.args) := (by unfold Hid; have h := hA7.args; rw [← copyT_args, show copyT u.t = u.t from congrArg ContT.t HCU.out] at h; rw [hd1, hd2]; exact h); have HD : Hid (zd.1 = contG cG aG z.1) := hd1.trans HUZ.out.symm; obtain ⟨wZ, wR, hwZ, hwR, hrZ, hrR, hxR, hsR, hxZ, hsZ⟩ := boxR w7 zd; have HXR : Hid (Xt W wR) := (HXc.out.trans hx7).trans hxR; have HRc := Lib.hid (rowX (hx7.trans hxR) HRc.out); have HAD : Hid (ArgsIn wR n7 (.slice zd.2 zd.1.t.args.length zd.1.t.args.length) zd.1.t.args) := HAD7.out.xt hxR; have HRZ := Lib.hid hrZ; have HRD := Lib.hid hrR; have HWR := Lib.hid hwR; clear g0 g1 cB c10 c11 c12 c14 f14 x0 x1; obtain ⟨g0, g1, _, _⟩ := cells2 HRc.out; clear hrZ hwR hrR hxR hxZ hA7 hx7 hzv hd1 hd2)
                    | (refine wpListIn_store_row (P := Tryz.prog) rfl 50 _ _ rfl w7.heap.size #[.int .i64 zd.1.kind, .int .i64 zd.1.v.kind, .float .f64 zd.1.v.x, .string zd.1.v.s, .bool zd.1.v.b, .int .i64 zd.1.v.f, .int .i64 zd.1.t.kind, .int .i64 zd.1.t.op, .float .f64 zd.1.t.x, .string zd.1.t.s, .bool zd.1.t.b, .int .i64 zd.1.t.f, .int .i64 zd.1.t.ref.a.1, .int .i64 zd.1.t.ref.a.2, .bool zd.1.t.ref.cf, .bool zd.1.t.ref.rf, .int .i64 zd.1.t.to.a.1, .int .i64 zd.1.t.to.a.2, .bool zd.1.t.to.cf, .bool zd.1.t.to.rf, .slice zd.2 zd.1.t.args.length zd.1.t.args.length] rfl rfl 50 _ HRZ.out (by kernel_rfl) rfl (by simp [Value.oneCell']) ?_; rw [HWR.out])
                    | (gi_at_call 19; refine (callsIn_round (valid_any y1 y2 _)).mono ?_; rintro e w' ⟨rfl, rfl⟩; obtain ⟨wV, hwV⟩ : ∃ wV, wR.alloc (.cells #[.int .i64 y1, .int .i64 y2] 24) = wV := ⟨_, rfl⟩; rw [HVY.out]; have HXRV : Hid (Xt wR wV) := (by unfold Hid; rw [← hwV]; exact (Xt.refl _).alloc _); have HXV : Hid (Xt W wV) := HXR.out.trans HXRV.out; have HRDV := Lib.hid (rowX HXRV.out HRD.out); have HDK : Hid (zd.1.kind = 1) := (by unfold Hid; rw [HD.out, contG_kind]; exact HK.out); have kd : wV.cell? ⟨w7.heap.size, 0, none⟩ = some (.int .i64 1) := (by rw [← HDK.out]; simp [World.cell?, HRDV.out]); obtain ⟨⟨cB, c10, c11, c12, c14, f14⟩, _, kz, _, x0, x1⟩ := HF.out wV HXV.out; rw [HK.out] at kz; clear g0 g1)
                    | (refine BigFrame.wpListIn_want (by rfl) (fun K hK => wpIn_load_row 50 _ rfl By rfl 50 _ (0, 0) _ (HF.out wV HXV.out).2.1 Tryz.underlying50 rfl (by kernel_rfl) (hK _ _ ?_)); clear hK K)
                    | (refine BigFrame.wpListIn_want (by rfl) (fun K hK => wpIn_load_row 50 _ rfl w7.heap.size rfl 50 _ (0, 0) _ HRDV.out Tryz.underlying50 rfl (by kernel_rfl) (hK _ _ ?_)); clear hK K)
                    | (gi_at_call 20; refine (callsIn_round (gsame_any (nT + n7) z.1 zd.1 z.2 zd.2 z.1.t.args.length zd.1.t.args.length wV (ArgsIn.upQ (by omega) (HZA.out.2.xt HXV.out)) (ArgsIn.upQ (by omega) (HAD.out.xt HXRV.out)))).mono ?_; rintro e w9 ⟨rfl, hg9⟩; rw [show sameCB z.1 zd.1 = true by rw [HD.out, cont_1 HK.out]; exact sameCB_refl _]; have HX9 : Hid (Xt W w9) := HXV.out.trans hg9.xt; clear cB c10 c11 c12 c14 f14 kz kd x0 x1 hg9; obtain ⟨⟨cB, c10, c11, c12, c14, f14⟩, _, kz, _, x0, x1⟩ := HF.out w9 HX9.out; rw [HK.out] at kz)
                    | (refine wpListIn_load_mid (P := Tryz.prog) rfl 29 _ rfl By 6 rfl [.int .i64 z.1.t.kind, .int .i64 z.1.t.op, .float .f64 z.1.t.x, .string z.1.t.s, .bool z.1.t.b, .int .i64 z.1.t.f, .int .i64 z.1.t.ref.a.1, .int .i64 z.1.t.ref.a.2, .bool z.1.t.ref.cf, .bool z.1.t.ref.rf, .int .i64 z.1.t.to.a.1, .int .i64 z.1.t.to.a.2, .bool z.1.t.to.cf, .bool z.1.t.to.rf, .slice z.2 z.1.t.args.length z.1.t.args.length] _ (HF.out w9 HX9.out).2.2.2.1 Tryz.underlying29 rfl (by kernel_rfl) ?_)
                    | (gi_at_call 8; refine (callsIn_round (formula_any nT z.1.t z.2 z.1.t.args.length cols k p w9 HOZ.out.2.1 (HT.out.xt (HXw.out.trans HX9.out)) HZA.out.1 (HZA.out.2.xt HX9.out))).mono ?_; obtain ⟨⟨r, cd⟩, hr0⟩ : ∃ r, formP cols k p z.1.t = r := ⟨_, rfl⟩; rw [hr0]; clear hr0; rintro e w10 ⟨a4, c4, n4, rfl, hS7, hx7⟩; obtain ⟨wd, hwd⟩ : ∃ wd, w10.alloc (.cells #[.int .i64 r.kind, .int .i64 r.op, .float .f64 r.x, .string r.s, .bool r.b, .int .i64 r.f, .int .i64 r.ref.a.1, .int .i64 r.ref.a.2, .bool r.ref.cf, .bool r.ref.rf, .int .i64 r.to.a.1, .int .i64 r.to.a.2, .bool r.to.cf, .bool r.to.rf, .slice a4 r.args.length c4] 29) = wd := ⟨_, rfl⟩; have hxd : Xt w9 wd := (by rw [← hwd]; exact hx7.alloc _); have HXD : Hid (Xt W wd) := HX9.out.trans hxd; have HRE : Hid (wd.heap[w10.heap.size]? = some (.cells #[.int .i64 r.kind, .int .i64 r.op, .float .f64 r.x, .string r.s, .bool r.b, .int .i64 r.f, .int .i64 r.ref.a.1, .int .i64 r.ref.a.2, .bool r.ref.cf, .bool r.ref.rf, .int .i64 r.to.a.1, .int .i64 r.to.a.2, .bool r.to.cf, .bool r.to.rf, .slice a4 r.args.length c4] 29 (0, 0))) := (by unfold Hid; rw [← hwd]; exact (MapKept.heap_alloc w10 _).1); have HSC : Hid (ArgsIn wd n4 (.slice a4 r.args.length c4) r.args) := (by unfold Hid; rw [← hwd]; exact hS7.own.args.xt ((Xt.refl _).alloc _)); have HXcd := Lib.hid hxd; clear cB c10 c11 c12 c14 f14 kz x0 x1 hS7 hx7 hxd; obtain ⟨⟨cB, c10, c11, c12, c14, f14⟩, _, kz, _, x0, x1⟩ := HF.out wd HXD.out; rw [HK.out] at kz))
                  all_goals first | (rename_i h1 h2; exact absurd (Option.some.inj h1) (by unfold undef; intro e; cases e)) | skip
                  all_goals
                    have hgW : Wr (fun b => b = R5 + 1) W (wd.setCell ⟨R5 + 1, 0, none⟩ (.int .i64 (cnt + 1))) := (Wr.of_xt HXD.out).trans (Wr.cell _ rfl)
                    exact round_end (l0 := W0.heap.size) (n0 := w6.heap.size) (f := fun pre => ((cntP cG (List.map tpT pre) : Nat) : Int)) (pre' := pre ++ [((c, d), tc, tp)]) HGR.out HRN.out (rowX HXD.out HRN.out) (by show ((cntP cG (List.map tpT (pre ++ [((c, d), tc, tp)])) : Nat) : Int) = cnt + 1; rw [List.map_append, List.map_cons, List.map_nil, cntP_snoc, if_pos (by rw [show tpT ((c, d), tc, tp) = ((c, d), tc) from rfl, HY.out]), ← HCN.out]; omega) hgW (by omega) (by omega)

                · have HK := Lib.hid hk2
                  clear hk2
                  gi_wp2_with (first
                    | (gi_at_call 18; refine (callsIn_round (gget_any go mo Mo (y1, y2) _ (HGW.out.xt HXc.out))).mono ?_; rintro e w7 ⟨n7, a7, rfl, hA7, hx7⟩; rw [HU.out] at hA7; rw [HU.out]; obtain ⟨zd, hd1, hd2⟩ : ∃ zd : CE, zd.1 = u ∧ zd.2 = a7 := ⟨(u, a7), rfl, rfl⟩; have hzv : copyCV u a7 = ceV zd := (by rw [← ceV_copy, HCU.out]; obtain ⟨zd1, zd2⟩ := zd; simp only at hd1 hd2; rw [hd1, hd2]); rw [hzv]; have HAD7 : Hid (ArgsIn w7 n7 (.slice zd.2 zd.1.t.args.length zd.1.t.args.length) zd.1.t.args) := (by unfold Hid; have h := hA7.args; rw [← copyT_args, show copyT u.t = u.t from congrArg ContT.t HCU.out] at h; rw [hd1, hd2]; exact h); have HD : Hid (zd.1 = contG cG aG z.1) := hd1.trans HUZ.out.symm; obtain ⟨wZ, wR, hwZ, hwR, hrZ, hrR, hxR, hsR, hxZ, hsZ⟩ := boxR w7 zd; have HXR : Hid (Xt W wR) := (HXc.out.trans hx7).trans hxR; have HRc := Lib.hid (rowX (hx7.trans hxR) HRc.out); have HAD : Hid (ArgsIn wR n7 (.slice zd.2 zd.1.t.args.length zd.1.t.args.length) zd.1.t.args) := HAD7.out.xt hxR; have HRZ := Lib.hid hrZ; have HRD := Lib.hid hrR; have HWR := Lib.hid hwR; clear g0 g1 cB c10 c11 c12 c14 f14 x0 x1; obtain ⟨g0, g1, _, _⟩ := cells2 HRc.out; clear hrZ hwR hrR hxR hxZ hA7 hx7 hzv hd1 hd2)
                    | (refine wpListIn_store_row (P := Tryz.prog) rfl 50 _ _ rfl w7.heap.size #[.int .i64 zd.1.kind, .int .i64 zd.1.v.kind, .float .f64 zd.1.v.x, .string zd.1.v.s, .bool zd.1.v.b, .int .i64 zd.1.v.f, .int .i64 zd.1.t.kind, .int .i64 zd.1.t.op, .float .f64 zd.1.t.x, .string zd.1.t.s, .bool zd.1.t.b, .int .i64 zd.1.t.f, .int .i64 zd.1.t.ref.a.1, .int .i64 zd.1.t.ref.a.2, .bool zd.1.t.ref.cf, .bool zd.1.t.ref.rf, .int .i64 zd.1.t.to.a.1, .int .i64 zd.1.t.to.a.2, .bool zd.1.t.to.cf, .bool zd.1.t.to.rf, .slice zd.2 zd.1.t.args.length zd.1.t.args.length] rfl rfl 50 _ HRZ.out (by kernel_rfl) rfl (by simp [Value.oneCell']) ?_; rw [HWR.out])
                    | (gi_at_call 19; refine (callsIn_round (valid_any y1 y2 _)).mono ?_; rintro e w' ⟨rfl, rfl⟩; obtain ⟨wV, hwV⟩ : ∃ wV, wR.alloc (.cells #[.int .i64 y1, .int .i64 y2] 24) = wV := ⟨_, rfl⟩; rw [HVY.out]; have HXRV : Hid (Xt wR wV) := (by unfold Hid; rw [← hwV]; exact (Xt.refl _).alloc _); have HXV : Hid (Xt W wV) := HXR.out.trans HXRV.out; have HRDV := Lib.hid (rowX HXRV.out HRD.out); have HDK : Hid (zd.1.kind = 2) := (by unfold Hid; rw [HD.out, contG_kind]; exact HK.out); have kd : wV.cell? ⟨w7.heap.size, 0, none⟩ = some (.int .i64 2) := (by rw [← HDK.out]; simp [World.cell?, HRDV.out]); obtain ⟨⟨cB, c10, c11, c12, c14, f14⟩, _, kz, _, x0, x1⟩ := HF.out wV HXV.out; rw [HK.out] at kz; clear g0 g1)
                    | (refine wpListIn_load_mid (P := Tryz.prog) rfl 29 _ rfl By 6 rfl [.int .i64 z.1.t.kind, .int .i64 z.1.t.op, .float .f64 z.1.t.x, .string z.1.t.s, .bool z.1.t.b, .int .i64 z.1.t.f, .int .i64 z.1.t.ref.a.1, .int .i64 z.1.t.ref.a.2, .bool z.1.t.ref.cf, .bool z.1.t.ref.rf, .int .i64 z.1.t.to.a.1, .int .i64 z.1.t.to.a.2, .bool z.1.t.to.cf, .bool z.1.t.to.rf, .slice z.2 z.1.t.args.length z.1.t.args.length] _ (HF.out wV HXV.out).2.2.2.1 Tryz.underlying29 rfl (by kernel_rfl) ?_)
                    | (gi_at_call 8; refine (callsIn_round (formula_any nT z.1.t z.2 z.1.t.args.length cols k p wV HOZ.out.2.1 (HT.out.xt (HXw.out.trans HXV.out)) HZA.out.1 (HZA.out.2.xt HXV.out))).mono ?_; rw [form_2 HLB.out HVZ.out HK.out, HCG.out, HAG.out, ← HD.out]; obtain ⟨r, hr0⟩ : ∃ r, zd.1.t = r := ⟨_, rfl⟩; rw [hr0]; have HRT := Lib.hid hr0; clear hr0; rintro e w10 ⟨a4, c4, n4, rfl, hS7, hx7⟩; obtain ⟨wd, hwd⟩ : ∃ wd, w10.alloc (.cells #[.int .i64 r.kind, .int .i64 r.op, .float .f64 r.x, .string r.s, .bool r.b, .int .i64 r.f, .int .i64 r.ref.a.1, .int .i64 r.ref.a.2, .bool r.ref.cf, .bool r.ref.rf, .int .i64 r.to.a.1, .int .i64 r.to.a.2, .bool r.to.cf, .bool r.to.rf, .slice a4 r.args.length c4] 29) = wd := ⟨_, rfl⟩; have hxd : Xt wV wd := (by rw [← hwd]; exact hx7.alloc _); have HXD : Hid (Xt W wd) := HXV.out.trans hxd; have HRE : Hid (wd.heap[w10.heap.size]? = some (.cells #[.int .i64 r.kind, .int .i64 r.op, .float .f64 r.x, .string r.s, .bool r.b, .int .i64 r.f, .int .i64 r.ref.a.1, .int .i64 r.ref.a.2, .bool r.ref.cf, .bool r.ref.rf, .int .i64 r.to.a.1, .int .i64 r.to.a.2, .bool r.to.cf, .bool r.to.rf, .slice a4 r.args.length c4] 29 (0, 0))) := (by unfold Hid; rw [← hwd]; exact (MapKept.heap_alloc w10 _).1); have HSC : Hid (ArgsIn wd n4 (.slice a4 r.args.length c4) r.args) := (by unfold Hid; rw [← hwd]; exact hS7.own.args.xt ((Xt.refl _).alloc _)); have HXcd := Lib.hid hxd; clear cB c10 c11 c12 c14 f14 kz kd x0 x1 hS7 hx7 hxd; obtain ⟨⟨cB, c10, c11, c12, c14, f14⟩, _, kz, _, x0, x1⟩ := HF.out wd HXD.out; rw [HK.out] at kz)
                    | (refine BigFrame.wpListIn_want (by rfl) (fun K hK => wpIn_load_row 29 _ rfl w10.heap.size rfl 29 _ (0, 0) _ HRE.out Tryz.underlying29 rfl (by kernel_rfl) (hK _ _ ?_)); clear hK K)
                    | (refine BigFrame.wpListIn_want (by rfl) (fun K hK => wpIn_load_mid 29 _ rfl w7.heap.size 6 rfl [.int .i64 zd.1.t.kind, .int .i64 zd.1.t.op, .float .f64 zd.1.t.x, .string zd.1.t.s, .bool zd.1.t.b, .int .i64 zd.1.t.f, .int .i64 zd.1.t.ref.a.1, .int .i64 zd.1.t.ref.a.2, .bool zd.1.t.ref.cf, .bool zd.1.t.ref.rf, .int .i64 zd.1.t.to.a.1, .int .i64 zd.1.t.to.a.2, .bool zd.1.t.to.cf, .bool zd.1.t.to.rf, .slice zd.2 zd.1.t.args.length zd.1.t.args.length] _ (row_mid (rowX HXcd.out HRDV.out)) Tryz.underlying29 rfl (by kernel_rfl) (hK _ _ ?_)); clear hK K)
                    | (gi_at_call 10; refine (callsIn_round (fsame_any (n4 + n7) r zd.1.t a4 zd.2 c4 zd.1.t.args.length wd (ArgsIn.upQ (by omega) HSC.out) (ArgsIn.upQ (by omega) (HAD.out.xt (HXRV.out.trans HXcd.out))))).mono ?_; rintro e w11 ⟨rfl, hg11⟩; rw [show sameTB r zd.1.t = true by rw [HRT.out]; exact (sameTB_iff _ _).2 rfl]; have HXE : Hid (Xt W w11) := HXD.out.trans hg11.xt; clear cB c10 c11 c12 c14 f14 kz x0 x1 hg11; obtain ⟨⟨cB, c10, c11, c12, c14, f14⟩, _, kz, _, x0, x1⟩ := HF.out w11 HXE.out; rw [HK.out] at kz))
                  all_goals
                    have hgW : Wr (fun b => b = R5 + 1) W (w11.setCell ⟨R5 + 1, 0, none⟩ (.int .i64 (cnt + 1))) := (Wr.of_xt HXE.out).trans (Wr.cell _ rfl)
                    exact round_end (l0 := W0.heap.size) (n0 := w6.heap.size) (f := fun pre => ((cntP cG (List.map tpT pre) : Nat) : Int)) (pre' := pre ++ [((c, d), tc, tp)]) HGR.out HRN.out (rowX HXE.out HRN.out) (by show ((cntP cG (List.map tpT (pre ++ [((c, d), tc, tp)])) : Nat) : Int) = cnt + 1; rw [List.map_append, List.map_cons, List.map_nil, cntP_snoc, if_pos (by rw [show tpT ((c, d), tc, tp) = ((c, d), tc) from rfl, HY.out]), ← HCN.out]; omega) hgW (by omega) (by omega)

end Go.Proofs.YtlgkaipgdhcajaaGreatDoor
/- formula.Nodes' iterator: each goes over a tree's nodes, one behind the other. -/
namespace Go.Proofs.YtlgkaipgdhcajaaGreatDoor
open Go.RowKit Go.Sort Go.Maps Go.Shelf
attribute [local go_sem] Oper.semAt_some

def leafN : NodeT → NodeT
  | .mk k o x s b f r q _ => .mk k o x s b f r q []
mutual
def flatT : NodeT → List NodeT
  | .mk k o x s b f r q l => .mk k o x s b f r q [] :: flatL l
def flatL : List NodeT → List NodeT
  | [] => []
  | t :: l => flatT t ++ flatL l
end
theorem flatT_eq (t : NodeT) : flatT t = leafN t :: flatL t.args := by cases t; rw [flatT]; rfl
theorem flatL_append : ∀ (l k : List NodeT), flatL (l ++ k) = flatL l ++ flatL k
  | [], k => by rw [flatL]; rfl
  | t :: l, k => by rw [List.cons_append, flatL, flatL, flatL_append l k, List.append_assoc]
theorem flatL_take {l : List NodeT} {i : Nat} {u : NodeT} (hu : l[i]? = some u) : flatL (l.take (i + 1)) = flatL (l.take i) ++ flatT u := by
  rw [List.take_add_one, hu, flatL_append]
  show _ ++ flatL [u] = _
  rw [flatL, flatL, List.append_nil]
theorem flatL_split {l : List NodeT} {i : Nat} {u : NodeT} (hu : l[i]? = some u) : ∃ r, flatL l = flatL (l.take i) ++ flatT u ++ r := by
  refine ⟨flatL (l.drop (i + 1)), ?_⟩
  rw [← flatL_take hu, ← flatL_append, List.take_append_drop]
/-- What a round keeps: rows of nodes. -/
structure KN (W W' : World) : Prop where
  size : W.heap.size ≤ W'.heap.size
  same : ∀ (k : Nat) (cs : Array Value) (fz : Nat × Nat), W.heap[k]? = some (.cells cs 29 fz) → W'.heap[k]? = some (.cells cs 29 fz)
theorem KN.refl (W : World) : KN W W := ⟨Nat.le_refl _, fun _ _ _ h => h⟩
theorem KN.trans {A B C : World} (h : KN A B) (k : KN B C) : KN A C := ⟨Nat.le_trans h.size k.size, fun b cs fz e => k.same b cs fz (h.same b cs fz e)⟩
theorem KN.of_xt {W W' : World} (h : Xt W W') : KN W W' := ⟨h.size, fun k _ _ e => (h.block k (Array.getElem?_eq_some_iff.1 e).1).trans e⟩
theorem OwnIn.kn {S : Nat → Prop} {w w' : World} (hk : KN w w') : ∀ {n : Nat} {av : Value} {l : List NodeT}, OwnIn S w n av l → OwnIn S w' n av l
  | 0, _, _, h => h
  | n + 1, _, _, h => by
    obtain ⟨a, cap, rfl, h1, h2, h3⟩ := h
    refine ⟨a, cap, rfl, h1, h2, fun hpos => ?_⟩
    obtain ⟨b, cur, K, rfl, hb, hr, hK, hcK, hc⟩ := h3 hpos
    have hr' := hk.same b cur (0, 0) hr
    refine ⟨b, cur, K, rfl, hb, hr', hK, hcK, fun k t ht => ?_⟩
    obtain ⟨av', q1, q2⟩ := hc k t ht
    exact ⟨av', fun i u hu => (World.cell?_of_block (w := w) (a := ⟨b, k * 15 + i, none⟩) (by rw [hr', hr])).trans (q1 i u hu), q2.kn hk⟩
theorem yield_any {m m' l : Nat} {P : Program} {args : Array Value} {W : World} {R : Ending → World → Prop} (h : YieldAt Fence.wide m P l args W R) : YieldAt Fence.wide m' P l args W R :=
  let ⟨fn, tmps, assign, body, hy, hR⟩ := h
  ⟨fn, tmps, assign, body, hy, ⟨hR.1, fun c cs _ => hR.2 c cs (room_wide _)⟩⟩
theorem OwnIn.up1 {S : Nat → Prop} {w : World} : ∀ {n : Nat} {av : Value} {l : List NodeT}, OwnIn S w n av l → ∃ a cap, av = .slice a l.length cap ∧ l.length ≤ cap ∧ cap ≤ 9223372036854775807
  | 0, _, _, h => by obtain ⟨rfl, a, rfl⟩ := h; exact ⟨a, 0, rfl, by simp, by omega⟩
  | n + 1, _, _, h => by obtain ⟨a, cap, rfl, h1, h2, _⟩ := h; exact ⟨a, cap, rfl, h1, h2⟩
theorem leaf_nodeV (t : NodeT) : nodeV (leafN t) none 0 0 = .agg #[.int .i64 t.kind, .int .i64 t.op, .float .f64 t.x, .string t.s, .bool t.b, .int .i64 t.f, .int .i64 t.ref.a.1, .int .i64 t.ref.a.2, .bool t.ref.cf, .bool t.ref.rf, .int .i64 t.to.a.1, .int .i64 t.to.a.2, .bool t.to.cf, .bool t.to.rf, .slice none 0 0] := by cases t; rfl
theorem flat_pos (t : NodeT) : 0 < (flatT t).length := by rw [flatT_eq]; simp
theorem own_at {S : Nat → Prop} {w : World} {d : Nat} {a : Option Addr} {n cap i : Nat} {l : List NodeT} {u : NodeT} (h : OwnIn S w d (.slice a n cap) l) (hu : l[i]? = some u) :
    ∃ d' b ua uc, d = d' + 1 ∧ a = some ⟨b, 0, none⟩ ∧ w.rangeAt b (i * 15) [.int .i64 u.kind, .int .i64 u.op, .float .f64 u.x, .string u.s, .bool u.b, .int .i64 u.f, .int .i64 u.ref.a.1, .int .i64 u.ref.a.2, .bool u.ref.cf, .bool u.ref.rf, .int .i64 u.to.a.1, .int .i64 u.to.a.2, .bool u.to.cf, .bool u.to.rf, .slice ua u.args.length uc] ∧ OwnIn S w d' (.slice ua u.args.length uc) u.args ∧ n = l.length := by
  cases d with
  | zero => obtain ⟨rfl, _⟩ := h; simp at hu
  | succ d =>
    obtain ⟨a', cap', e, h1, h2, h3⟩ := h
    cases e
    have hne := (List.getElem?_eq_some_iff.1 hu).1
    obtain ⟨b, cur, K, rfl, hb, hr, hK, hcK, hc⟩ := h3 (by omega)
    obtain ⟨av', q1, q2⟩ := hc i u hu
    obtain ⟨ua, uc, rfl, _, _⟩ := q2.up1
    exact ⟨d, b, ua, uc, rfl, rfl, fun j v hv => q1 j v hv, q2, rfl⟩
set_option maxRecDepth 100000 in
set_option maxHeartbeats 4000000 in
theorem each_in (l N : Nat) (J Jx : List NodeT → World → Prop) (hJ : ∀ pre W W', J pre W → Xt W W' → J pre W')
    (hY : ∀ (pre : List NodeT) (x : NodeT) (W1 : World), J pre W1 → pre.length < N → YieldAt Fence.wide 0 Tryz.prog l #[nodeV x none 0 0] W1 fun e W' => (e = .returned (.bool true) ∧ J (pre ++ [x]) W' ∧ KN W1 W') ∨ (e = .returned (.bool false) ∧ Jx (pre ++ [x]) W')) :
    ∀ (d : Nat) (S : Nat → Prop) (t : NodeT) (a : Option Addr) (cap : Nat) (W : World) (pre : List NodeT), OwnIn S W d (.slice a t.args.length cap) t.args → J pre W → pre.length + (flatT t).length ≤ N →
    Calls Tryz.prog 86 #[nodeV t a t.args.length cap, .func (.yield l) #[] #[]] W fun e W' => (e = .returned (.bool true) ∧ J (pre ++ flatT t) W' ∧ KN W W') ∨ (e = .returned (.bool false) ∧ ∃ p, p <+: pre ++ flatT t ∧ Jx p W') := by
  intro d
  induction d using Nat.strongRecOn with
  | ind d ih =>
    intro S t a cap W pre hO hJ0 hN
    have HO := Lib.hid hO
    have HJ0 := Lib.hid hJ0
    have HN := Lib.hid hN
    have HIH := Lib.hid ih
    have HJ := Lib.hid hJ
    obtain ⟨_, _, he, hcap, hcap2⟩ := hO.up1
    simp only [Value.slice.injEq] at he
    obtain ⟨rfl, -, rfl⟩ := he
    clear hO hJ0 hN ih hJ
    refine (callsIn_wide (n := 9)).1 ?_
    refine callsIn_of_wp Tryz.func86 rfl trivial ?_ rfl
    simp only [Tryz.ntmps86, List.size_toArray, List.length_cons, List.length_nil, Nat.reduceAdd, Nat.reduceSub, Array.replicate_succ, Array.replicate_zero, List.push_toArray, List.append_toArray, List.nil_append, List.cons_append]
    gi_upto_region 3 with fail
    obtain ⟨W1, hW1⟩ : ∃ W1, W.alloc (.cells #[.int .i64 t.kind, .int .i64 t.op, .float .f64 t.x, .string t.s, .bool t.b, .int .i64 t.f, .int .i64 t.ref.a.1, .int .i64 t.ref.a.2, .bool t.ref.cf, .bool t.ref.rf, .int .i64 t.to.a.1, .int .i64 t.to.a.2, .bool t.to.cf, .bool t.to.rf, .slice none 0 0] 29) = W1 := ⟨_, rfl⟩
    have hx1 : Xt W W1 := by rw [← hW1]; exact (Xt.refl W).alloc _
    have HR1 : Hid (W1.heap[W.heap.size]? = some (.cells #[.int .i64 t.kind, .int .i64 t.op, .float .f64 t.x, .string t.s, .bool t.b, .int .i64 t.f, .int .i64 t.ref.a.1, .int .i64 t.ref.a.2, .bool t.ref.cf, .bool t.ref.rf, .int .i64 t.to.a.1, .int .i64 t.to.a.2, .bool t.to.cf, .bool t.to.rf, .slice none 0 0] 29 (0, 0))) := by unfold Hid; rw [← hW1]; exact (MapKept.heap_alloc W _).1
    have HX1 := Lib.hid hx1
    have hlen := flat_pos t
    rw [hW1]
    obtain ⟨fn, tmps, assign, body, hy, hR⟩ := yield_any (m' := 9 - 1) (hY pre (leafN t) W1 (HJ.out _ _ _ HJ0.out hx1) (by have := HN.out; omega))
    rw [leaf_nodeV] at hy
    clear hx1 hW1
    gi_wp2_with (first | (refine wpListIn_load_row (P := Tryz.prog) rfl 29 _ rfl W.heap.size rfl 29 #[.int .i64 t.kind, .int .i64 t.op, .float .f64 t.x, .string t.s, .bool t.b, .int .i64 t.f, .int .i64 t.ref.a.1, .int .i64 t.ref.a.2, .bool t.ref.cf, .bool t.ref.rf, .int .i64 t.to.a.1, .int .i64 t.to.a.2, .bool t.to.cf, .bool t.to.rf, .slice none 0 0] (0, 0) _ HR1.out Tryz.underlying29 rfl (by kernel_rfl) ?_))
    refine hR.mono ?_
    rintro e w3 (⟨rfl, hJ3, hk3⟩ | ⟨rfl, hJ3⟩)
    · have HK3 : Hid (KN W w3) := (KN.of_xt HX1.out).trans hk3
      have HJ3 := Lib.hid hJ3
      clear hy hR hJ3 hk3
      have hf : Fence.wide.fn 86 := trivial
      gi_wp2
      gi_loopw [17] (fun s17 wr => ∃ i : Nat, i ≤ t.args.length ∧ s17 = .int .i64 i ∧ Hid (KN W wr) ∧ Hid (J (pre ++ leafN t :: flatL (t.args.take i)) wr)) (fun s17 _ => t.args.length - (intOf s17).toNat)
      case atStart => exact ⟨0, Nat.zero_le _, rfl, HK3, by unfold Hid; rw [List.take_zero, flatL]; exact HJ3.out⟩
      case round =>
        clear HK3 HJ3
        obtain ⟨i, hi, rfl, HK, HJi⟩ := hrel
        by_cases hlt : i < t.args.length
        · obtain ⟨u, hu⟩ : ∃ u, t.args[i]? = some u := ⟨t.args[i], by simp [hlt]⟩
          have hki : (i : Int) < (t.args.length : Int) := by omega
          obtain ⟨d', b, ua, uc, rfl, rfl, hr, hin, hdd⟩ := own_at (HO.out.kn HK.out) hu
          have HRowU := Lib.hid hr
          have HIN := Lib.hid hin
          obtain ⟨w4, hw4⟩ : ∃ w4, wr.alloc (.cells #[.int .i64 u.kind, .int .i64 u.op, .float .f64 u.x, .string u.s, .bool u.b, .int .i64 u.f, .int .i64 u.ref.a.1, .int .i64 u.ref.a.2, .bool u.ref.cf, .bool u.ref.rf, .int .i64 u.to.a.1, .int .i64 u.to.a.2, .bool u.to.cf, .bool u.to.rf, .slice ua u.args.length uc] 29) = w4 := ⟨_, rfl⟩
          have hx4 : Xt wr w4 := by rw [← hw4]; exact (Xt.refl wr).alloc _
          have HR4 : Hid (w4.heap[wr.heap.size]? = some (.cells #[.int .i64 u.kind, .int .i64 u.op, .float .f64 u.x, .string u.s, .bool u.b, .int .i64 u.f, .int .i64 u.ref.a.1, .int .i64 u.ref.a.2, .bool u.ref.cf, .bool u.ref.rf, .int .i64 u.to.a.1, .int .i64 u.to.a.2, .bool u.to.cf, .bool u.to.rf, .slice ua u.args.length uc] 29 (0, 0))) := by unfold Hid; rw [← hw4]; exact (MapKept.heap_alloc wr _).1
          have HX4 := Lib.hid hx4
          obtain ⟨rest, hrest⟩ := flatL_split hu
          have hfl : (pre ++ leafN t :: flatL (t.args.take i)).length + (flatT u).length ≤ N := by
            have h1 := HN.out
            rw [flatT_eq, hrest] at h1
            simp only [List.length_cons, List.length_append] at h1 ⊢
            omega
          have HC := Lib.hid (HIH.out d' (by omega) S u ua uc w4 (pre ++ leafN t :: flatL (t.args.take i)) (HIN.out.kn (KN.of_xt hx4)) (HJ.out _ _ _ HJi.out hx4) hfl)
          have HFL := Lib.hid (flatL_take hu)
          have HSP : Hid (∃ rest, flatT t = leafN t :: (flatL (t.args.take i) ++ flatT u ++ rest)) := ⟨rest, by rw [flatT_eq, hrest]⟩
          clear hr hin hx4 hrest hfl hu
          gi_wp2_with (first
            | (refine wpListIn_load_mid (P := Tryz.prog) rfl 29 _ rfl b (i * 15) (by go_num) [.int .i64 u.kind, .int .i64 u.op, .float .f64 u.x, .string u.s, .bool u.b, .int .i64 u.f, .int .i64 u.ref.a.1, .int .i64 u.ref.a.2, .bool u.ref.cf, .bool u.ref.rf, .int .i64 u.to.a.1, .int .i64 u.to.a.2, .bool u.to.cf, .bool u.to.rf, .slice ua u.args.length uc] _ HRowU.out Tryz.underlying29 rfl (by kernel_rfl) ?_)
            | (refine wpListIn_load_row (P := Tryz.prog) rfl 29 _ rfl wr.heap.size rfl 29 #[.int .i64 u.kind, .int .i64 u.op, .float .f64 u.x, .string u.s, .bool u.b, .int .i64 u.f, .int .i64 u.ref.a.1, .int .i64 u.ref.a.2, .bool u.ref.cf, .bool u.ref.rf, .int .i64 u.to.a.1, .int .i64 u.to.a.2, .bool u.to.cf, .bool u.to.rf, .slice ua u.args.length uc] (0, 0) _ HR4.out Tryz.underlying29 rfl (by kernel_rfl) ?_)
            | (gi_at_call 86; refine ((callsIn_wide (n := 9 - 1)).2 HC.out).mono ?_; rintro e w5 (⟨rfl, hJ5, hk5⟩ | ⟨rfl, p, hp, hJ5⟩)))
          · have HK5 : Hid (KN W w5) := (HK.out.trans (KN.of_xt HX4.out)).trans hk5
            have HJ5 : Hid (J (pre ++ leafN t :: flatL (t.args.take (i + 1))) w5) := by unfold Hid; rw [HFL.out]; simpa using hJ5
            go_roundw
            case rel => exact ⟨i + 1, by omega, by go_num, HK5, HJ5⟩
            case measure => simp [intOf]; omega
          · have HJ5 := Lib.hid hJ5
            have HP := Lib.hid hp
            clear hJ5 hp
            refine bodyPost_ret (results_tmp rfl _ _ _) rfl (Or.inr ⟨rfl, p, ?_, HJ5.out⟩)
            obtain ⟨rest, hrest⟩ := HSP.out
            obtain ⟨r2, hr2⟩ := HP.out
            exact ⟨r2 ++ rest, by rw [hrest, ← List.append_assoc, hr2]; simp⟩
        · obtain rfl : i = t.args.length := by omega
          gi_wp2
          refine bodyPost_ret (results_tmp rfl _ _ _) rfl (Or.inl ⟨rfl, ?_, HK.out⟩)
          have h := HJi.out
          rw [List.take_length] at h
          rw [flatT_eq]
          exact h
    · have HJ3 := Lib.hid hJ3
      clear hy hR hJ3
      gi_wp2
      refine bodyPost_ret (results_tmp rfl _ _ _) rfl (Or.inr ⟨rfl, pre ++ [leafN t], ⟨flatL t.args, ?_⟩, HJ3.out⟩)
      rw [flatT_eq]
      simp
end Go.Proofs.YtlgkaipgdhcajaaGreatDoor
/- quadrillelaw22's nodes and faults (made by mkq5.py). -/
namespace Go.Proofs.YtlgkaipgdhcajaaGreatDoor
open Go.RowKit Go.Sort Go.Maps Go.Shelf Go.MapKept
attribute [local go_sem] Oper.semAt_some

abbrev encN (x : NodeT) : Array Value := #[nodeV x none 0 0]
set_option maxRecDepth 100000 in
set_option maxHeartbeats 2000000 in
theorem nodes1_told (n b : Nat) (t : NodeT) (a : Option Addr) (cap dd : Nat) (S : Nat → Prop) (w0 : World) (hr : w0.heap[b]? = some (.cells #[.int .i64 t.kind, .int .i64 t.op, .float .f64 t.x, .string t.s, .bool t.b, .int .i64 t.f, .int .i64 t.ref.a.1, .int .i64 t.ref.a.2, .bool t.ref.cf, .bool t.ref.rf, .int .i64 t.to.a.1, .int .i64 t.to.a.2, .bool t.to.cf, .bool t.to.rf, .slice a t.args.length cap] 29 (0, 0))) (hO : OwnIn S w0 dd (.slice a t.args.length cap) t.args) :
    SeqTold n Tryz.prog 85 #[.pointer (some ⟨b, 0, none⟩)] encN KN (fun _ _ _ => True) (fun xs => xs = flatT t) (fun p => p <+: flatT t) (flatT t).length w0 := fun l J Jx W hB hJ _ hY h0 => by
  have hx : Xt w0 W := hB
  have HR := Lib.hid (rowX hx hr)
  have HC := Lib.hid (each_in l (flatT t).length J Jx (fun pre X Y h hx => hJ pre X Y none h hx.grownN (fun r e => by cases e)) (fun pre x W1 hj hl => yield_any (hY pre x W1 hj ⟨W1, hj, trivial⟩ hl)) dd S t a cap W [] (hO.kn (KN.of_xt hx)) h0 (by simp))
  clear hY h0 hJ hO hr hx hB
  refine callsIn_wide.2 ((callsIn_wide (n := 9)).1 ?_)
  have hf : Fence.wide.fn 86 := trivial
  refine callsIn_of_wp Tryz.func85 rfl trivial ?_ rfl
  simp only [Tryz.ntmps85, List.size_toArray, List.length_cons, List.length_nil, Nat.reduceAdd, Nat.reduceSub, Array.replicate_succ, Array.replicate_zero, List.push_toArray, List.append_toArray, List.nil_append, List.cons_append]
  gi_wp2_with (first
    | (refine wpListIn_load_row (P := Tryz.prog) rfl 29 _ rfl b rfl 29 #[.int .i64 t.kind, .int .i64 t.op, .float .f64 t.x, .string t.s, .bool t.b, .int .i64 t.f, .int .i64 t.ref.a.1, .int .i64 t.ref.a.2, .bool t.ref.cf, .bool t.ref.rf, .int .i64 t.to.a.1, .int .i64 t.to.a.2, .bool t.to.cf, .bool t.to.rf, .slice a t.args.length cap] (0, 0) _ HR.out Tryz.underlying29 rfl (by kernel_rfl) ?_)
    | (gi_at_call 86; refine ((callsIn_wide (n := 9 - 1)).2 HC.out).mono ?_; rintro e w5 (⟨rfl, hJ5, hk5⟩ | ⟨rfl, p, hp, hJ5⟩)))
  · go_end0
    exact ⟨⟨_, rfl⟩, Or.inl ⟨flatT t, rfl, by simpa using hJ5⟩⟩
  · go_end0
    exact ⟨⟨_, rfl⟩, Or.inr ⟨p, by simpa using hp, hJ5⟩⟩
/-- What goes over a formula's nodes: a closure over a copy, whose lists lie in whole rows. -/
def NodesO (t : NodeT) (w : World) (e : Ending) (w' : World) : Prop :=
  ∃ b a' dd, e = .returned (.func (.func 85) #[] #[.pointer (some ⟨b, 0, none⟩)]) ∧ w.heap.size ≤ b ∧ w'.heap[b]? = some (.cells #[.int .i64 (copyT t).kind, .int .i64 (copyT t).op, .float .f64 (copyT t).x, .string (copyT t).s, .bool (copyT t).b, .int .i64 (copyT t).f, .int .i64 (copyT t).ref.a.1, .int .i64 (copyT t).ref.a.2, .bool (copyT t).ref.cf, .bool (copyT t).ref.rf, .int .i64 (copyT t).to.a.1, .int .i64 (copyT t).to.a.2, .bool (copyT t).to.cf, .bool (copyT t).to.rf, .slice a' (copyT t).args.length (copyT t).args.length] 29 (0, 0)) ∧
    OwnIn (fun c => w.heap.size ≤ c) w' dd (.slice a' (copyT t).args.length (copyT t).args.length) (copyT t).args ∧ Xt w w'
set_option maxRecDepth 100000 in
set_option maxHeartbeats 2000000 in
theorem nodesO_any (n : Nat) (t : NodeT) (a : Option Addr) (cap : Nat) (w : World) (hsm : smallT t) (hin : ArgsIn w n (.slice a t.args.length cap) t.args) :
    Calls Tryz.prog 48 #[nodeV t a t.args.length cap] w (NodesO t w) := by
  obtain ⟨w0, hw0, hg0, hs0, hN⟩ := boxN w t a t.args.length cap 29
  obtain ⟨c0, c1, c2, c3, c4, c5, c6, c7, c8, c9, c10, c11, c12, c13, c14⟩ := hN
  simp only [Nat.zero_add] at c0 c1 c2 c3 c4 c5 c6 c7 c8 c9 c10 c11 c12 c13 c14
  have HC := Lib.hid (fcopyS_any n t a cap w0 hsm (hin.xt hg0.xt))
  have HG0 := Lib.hid hg0
  clear hg0 hsm hin
  go_enter Tryz.func48, Tryz.ntmps48
  go_wp2_with (first | (go_at_call 7; refine (HC.out).mono ?_; rintro e w1 ⟨a', rfl, hS, hx⟩; have HS := Lib.hid hS; have HX := Lib.hid hx; clear hS hx))
  go_ret
  have hx2 : Xt w w1 := HG0.out.xt.trans HX.out
  refine ⟨w1.heap.size, a', n, rfl, hx2.size, ?_, ?_, hx2.alloc _⟩
  · obtain ⟨k, o, x, s, bb, f, r, q, l⟩ := t
    rw [copyT_len]
    exact (MapKept.heap_alloc w1 _).1
  · rw [copyT_len, copyT_args]
    exact (HS.out.own.kn (KN.of_xt ((Xt.refl _).alloc _))).keep (fun b hb _ => by have := HG0.out.xt.size; have := hb.1; omega) (fun _ _ _ => rfl)
set_option maxRecDepth 100000 in
set_option maxHeartbeats 2000000 in
theorem nodes22_any (n : Nat) (t : NodeT) (a : Option Addr) (cap : Nat) (w : World) (hsm : smallT t) (hin : ArgsIn w n (.slice a t.args.length cap) t.args) :
    Calls Tryz.prog 55 #[nodeV t a t.args.length cap] w (NodesO t w) := by
  have hqn := fun w f lb => run_eql_func_nil (P := Tryz.prog) w 99 _ _ _ (.func f) #[] lb Tryz.underlying99
  obtain ⟨w0, hw0⟩ : ∃ w0, w.alloc (.cells #[.int .i64 t.kind, .int .i64 t.op, .float .f64 t.x, .string t.s, .bool t.b, .int .i64 t.f, .int .i64 t.ref.a.1, .int .i64 t.ref.a.2, .bool t.ref.cf, .bool t.ref.rf, .int .i64 t.to.a.1, .int .i64 t.to.a.2, .bool t.to.cf, .bool t.to.rf, .slice a t.args.length cap] 29) = w0 := ⟨_, rfl⟩
  have hx0 : Xt w w0 := by rw [← hw0]; exact (Xt.refl w).alloc _
  have HR0 : Hid (w0.heap[w.heap.size]? = some (.cells #[.int .i64 t.kind, .int .i64 t.op, .float .f64 t.x, .string t.s, .bool t.b, .int .i64 t.f, .int .i64 t.ref.a.1, .int .i64 t.ref.a.2, .bool t.ref.cf, .bool t.ref.rf, .int .i64 t.to.a.1, .int .i64 t.to.a.2, .bool t.to.cf, .bool t.to.rf, .slice a t.args.length cap] 29 (0, 0))) := by unfold Hid; rw [← hw0]; exact (MapKept.heap_alloc w _).1
  have HC := Lib.hid (nodesO_any n t a cap w0 hsm (hin.xt hx0))
  have HX0 := Lib.hid hx0
  clear hsm hin hx0
  go_enter Tryz.func55, Tryz.ntmps55
  go_wp2_with (first
    | (refine wpList_load_row (P := Tryz.prog) rfl 29 _ rfl w.heap.size rfl 29 #[.int .i64 t.kind, .int .i64 t.op, .float .f64 t.x, .string t.s, .bool t.b, .int .i64 t.f, .int .i64 t.ref.a.1, .int .i64 t.ref.a.2, .bool t.ref.cf, .bool t.ref.rf, .int .i64 t.to.a.1, .int .i64 t.to.a.2, .bool t.to.cf, .bool t.to.rf, .slice a t.args.length cap] (0, 0) _ HR0.out Tryz.underlying29 rfl (by kernel_rfl) ?_)
    | (go_at_call 48; refine (HC.out).mono ?_; rintro e w1 ⟨b, a', dd, rfl, hb, hr, hO, hx⟩))
  go_ret
  have hs := HX0.out.size
  exact ⟨b, a', dd, rfl, by omega, hr, hO.keep (fun c hc _ => by omega) (fun _ _ _ => rfl), HX0.out.trans hx⟩
end Go.Proofs.YtlgkaipgdhcajaaGreatDoor
/- quadrillelaw22's faults: how many nodes of a formula are one (made by mkq6.py). -/
namespace Go.Proofs.YtlgkaipgdhcajaaGreatDoor
open Go.RowKit Go.Sort Go.Maps Go.Shelf Go.MapKept
attribute [local go_sem] Oper.semAt_some

def cntK (l : List NodeT) : Nat := (l.filter fun x => decide (x.kind = 4)).length
theorem cntK_snoc (l : List NodeT) (x : NodeT) : cntK (l ++ [x]) = if x.kind = 4 then cntK l + 1 else cntK l := by
  unfold cntK
  rw [List.filter_append]
  split <;> simp_all
theorem cntK_le (l : List NodeT) : cntK l ≤ l.length := List.length_filter_le ..
def faultsT (t : NodeT) : Nat := cntK (flatT t)
mutual
theorem flat_copy : ∀ t : NodeT, flatT (copyT t) = (flatT t).map copyT
  | .mk k o x s b f r q l => by
    rw [copyT, flatT, flatT, List.map_cons, flatL_copy l]
    rfl
theorem flatL_copy : ∀ l : List NodeT, flatL (copyL l) = (flatL l).map copyT
  | [] => rfl
  | t :: l => by rw [copyL, flatL, flatL, List.map_append, flat_copy t, flatL_copy l]
end
theorem faultsT_copy (t : NodeT) : faultsT (copyT t) = faultsT t := by
  unfold faultsT cntK
  rw [flat_copy, List.filter_map, List.length_map]
  refine congrArg List.length (List.filter_congr fun x _ => ?_)
  show decide ((copyT x).kind = 4) = _
  rw [copyT_kind]
/-- What holds while something is counted in a cell. -/
structure LJ {α : Type} (W0 : World) (R : Nat) (f : List α → Int) (pre : List α) (W : World) : Prop where
  grown : W0.grownBy W (some R)
  cnt : W.heap[R]? = some (.cells #[.int .i64 (f pre)] 3 (0, 0))
theorem LJ.own {α : Type} {W0 : World} {R : Nat} {f : List α → Int} : OwnFrom W0.heap.size (fun pre W => LJ W0 R f pre W) := fun s X Y row hs hg hr => by
  obtain ⟨h1, h2⟩ := hs
  exact ⟨grownBy_far h1 hg (fun r e => (hr r e).1), rowCells_own h2 hg (fun r e => (hr r e).2)⟩
theorem KN.putObj {W : World} {l : Nat} {o : Obj} (o' : Obj) (ho : W.heap[l]? = some o) (hc : o.isCells = false) : KN W (W.putObj l o') :=
  ⟨by simp, fun k cs fz hk => (World.putObj_heap_other (fun e => by subst e; rw [ho] at hk; cases hk; cases hc)).trans hk⟩
theorem round_endJ {α : Type} {W0 W wz : World} {R l0 : Nat} {f : List α → Int} {pre' : List α} {cnt cnt' : Int} (hg : W0.grownBy W (some R)) (hr : W.heap[R]? = some (.cells #[.int .i64 cnt] 3 (0, 0))) (hz : wz.heap[R]? = some (.cells #[.int .i64 cnt] 3 (0, 0))) (hf : f pre' = cnt')
    (hW : Wr (fun b => b = R) W (wz.setCell ⟨R, 0, none⟩ (.int .i64 cnt'))) (hl : R < l0) :
    KeepsFrom l0 W (wz.setCell ⟨R, 0, none⟩ (.int .i64 cnt')) ∧ KN W (wz.setCell ⟨R, 0, none⟩ (.int .i64 cnt')) ∧ LJ W0 R f pre' (wz.setCell ⟨R, 0, none⟩ (.int .i64 cnt')) := by
  have hgW : W.grownBy (wz.setCell ⟨R, 0, none⟩ (.int .i64 cnt')) (some R) := ⟨hW.os, hW.tape, hW.output, hW.size, fun i hi hn => hW.block i hi (fun e => hn (by rw [e]))⟩
  refine ⟨⟨hW.size, fun k o hB hk _ => (hW.block k (Array.getElem?_eq_some_iff.1 hk).1 (fun e => by omega)).trans hk⟩, ⟨hW.size, fun k cs fz hk => (hW.block k (Array.getElem?_eq_some_iff.1 hk).1 (fun e => by rw [e, hr] at hk; cases hk)).trans hk⟩, ⟨grownBy_two hg hgW, ?_⟩⟩
  rw [hf]
  exact setCell_row hz 0 _
set_option maxRecDepth 100000 in
set_option maxHeartbeats 4000000 in
theorem faults_any (n : Nat) (t : NodeT) (a : Option Addr) (cap : Nat) (w : World) (hsm : smallT t) (hin : ArgsIn w n (.slice a t.args.length cap) t.args) (hbk : (flatT t).length ≤ 1048576) :
    Calls Tryz.prog 54 #[nodeV t a t.args.length cap] w fun e w' => e = .returned (.int .i64 (faultsT t)) ∧ Xt w w' := by
  obtain ⟨B, hB⟩ : ∃ B, w.heap.size = B := ⟨_, rfl⟩
  obtain ⟨w0, hw0⟩ : ∃ w0, w.alloc (.cells #[.int .i64 t.kind, .int .i64 t.op, .float .f64 t.x, .string t.s, .bool t.b, .int .i64 t.f, .int .i64 t.ref.a.1, .int .i64 t.ref.a.2, .bool t.ref.cf, .bool t.ref.rf, .int .i64 t.to.a.1, .int .i64 t.to.a.2, .bool t.to.cf, .bool t.to.rf, .slice a t.args.length cap] 29) = w0 := ⟨_, rfl⟩
  have hs0 : w0.heap.size = B + 1 := by rw [← hw0, ← hB]; simp
  obtain ⟨w1, hw1⟩ : ∃ w1, w0.alloc (.cells #[.int .i64 0] 3) = w1 := ⟨_, rfl⟩
  have hx0 : Xt w w0 := by rw [← hw0]; exact (Xt.refl w).alloc _
  have hx1 : Xt w0 w1 := by rw [← hw1]; exact (Xt.refl w0).alloc _
  have HR0 : Hid (w1.heap[B]? = some (.cells #[.int .i64 t.kind, .int .i64 t.op, .float .f64 t.x, .string t.s, .bool t.b, .int .i64 t.f, .int .i64 t.ref.a.1, .int .i64 t.ref.a.2, .bool t.ref.cf, .bool t.ref.rf, .int .i64 t.to.a.1, .int .i64 t.to.a.2, .bool t.to.cf, .bool t.to.rf, .slice a t.args.length cap] 29 (0, 0))) := rowX hx1 (by rw [← hw0, ← hB]; exact (MapKept.heap_alloc w _).1)
  have HR1 : Hid (w1.heap[B + 1]? = some (.cells #[.int .i64 0] 3 (0, 0))) := by unfold Hid; rw [← hw1, ← hs0]; exact (MapKept.heap_alloc w0 _).1
  have HC := Lib.hid (nodes22_any n t a cap w1 hsm (hin.xt (hx0.trans hx1)))
  have HX1 := Lib.hid (hx0.trans hx1)
  have HBK : Hid ((flatT (copyT t)).length ≤ 1048576) := by unfold Hid; rw [flat_copy, List.length_map]; exact hbk
  have HFC := Lib.hid (faultsT_copy t)
  obtain ⟨ans, hans⟩ : ∃ ans, faultsT t = ans := ⟨_, rfl⟩
  rw [hans] at HFC ⊢
  clear hsm hin hbk hx0 hx1 hans
  have HW1 := Lib.hid hw1
  clear hw1
  refine (callsIn_wide (n := 25)).1 ?_
  refine callsIn_of_wp_marks Tryz.func54 rfl trivial ?_ rfl
  simp only [Tryz.ntmps54, List.size_toArray, List.length_cons, List.length_nil, Nat.reduceAdd, Nat.reduceSub, Array.replicate_succ, Array.replicate_zero, List.push_toArray, List.append_toArray, List.nil_append, List.cons_append]
  refine wpIn_wide.2 ?_
  refine wp_mono (Q := noPanic (bodyPostM Fence.wide 25 Tryz.prog Tryz.f54 (fun e w' => e = .returned (.int .i64 ans) ∧ Xt w w'))) ?_ noPanic_le
  go_wp2_with (first
    | (refine wpList_load_row (P := Tryz.prog) rfl 29 _ rfl B rfl 29 #[.int .i64 t.kind, .int .i64 t.op, .float .f64 t.x, .string t.s, .bool t.b, .int .i64 t.f, .int .i64 t.ref.a.1, .int .i64 t.ref.a.2, .bool t.ref.cf, .bool t.ref.rf, .int .i64 t.to.a.1, .int .i64 t.to.a.2, .bool t.to.cf, .bool t.to.rf, .slice a t.args.length cap] (0, 0) _ (by rw [HW1.out]; exact HR0.out) Tryz.underlying29 rfl (by kernel_rfl) ?_; rw [HW1.out])
    | (go_at_call 55; refine (HC.out).mono ?_; rintro e w2 ⟨b, a', dd, rfl, hb, hr, hO, hx⟩; have HR := Lib.hid hr; have HO := Lib.hid hO; have HX := Lib.hid hx; clear hr hO hx))
  obtain ⟨tt, htt⟩ : ∃ tt, copyT t = tt := ⟨_, rfl⟩
  rw [htt] at HR HO HBK HFC
  have HRB : Hid (w2.heap[B + 1]? = some (.cells #[.int .i64 0] 3 (0, 0))) := rowX HX.out HR1.out
  have HXw : Hid (Xt w w2) := HX1.out.trans HX.out
  have hs2 : B + 1 < w2.heap.size := (Array.getElem?_eq_some_iff.1 HRB.out).1
  clear htt
  generalize hA0 : Act.mk _ _ = a0
  refine (wpIn_wide (n := 25)).1 ?_
  refine rangeFunc_told (n := 25) (by omega) (gf := 85) (lb := #[.pointer (some ⟨b, 0, none⟩)]) (by subst hA0; rfl) (enters_of Tryz.func85 (by kernel_rfl) rfl)
    (nodes1_told (25 - 1) b tt a' tt.args.length dd _ w2 HR.out HO.out) (fun h k => h.trans k) (fun W l o o' hl ho hc hw => KN.putObj o' ho hc) (Below.refl _ _) (fun _ => rfl)
    (fun pre W => LJ w2 (B + 1) (fun pre => (cntK pre : Int)) pre W) (fun c pre W => False) LJ.own (fun c s X Y row hs hg hr => hs.elim) ⟨⟨rfl, rfl, rfl, Nat.le_refl _, fun _ _ _ => rfl⟩, HRB.out⟩
    (fun x a' W => ∃ Bx, Bx ≠ B + 1 ∧ W.heap[Bx]? = some (.cells #[.int .i64 x.kind, .int .i64 x.op, .float .f64 x.x, .string x.s, .bool x.b, .int .i64 x.f, .int .i64 x.ref.a.1, .int .i64 x.ref.a.2, .bool x.ref.cf, .bool x.ref.rf, .int .i64 x.to.a.1, .int .i64 x.to.a.2, .bool x.to.cf, .bool x.to.rf, .slice none 0 0] 29 (0, 0)) ∧ a' = { tmps := (a0.tmps.setIfInBounds 7 (nodeV x none 0 0)).setIfInBounds 4 (.pointer (some ⟨Bx, 0, none⟩)), defers := [] })
    (fun x a' _ X Y row hs hg hr => let ⟨Bx, n1, h1, h2⟩ := hs; ⟨Bx, n1, rowCells_own h1 hg (fun r e => (hr r e).2), h2⟩)
    ?assign ?body ?done ?stop
  case stop =>
    rintro D c pre W hD hS hF hK
    exact hF.elim
  case done =>
    rintro D xs W hD hS hI hK
    subst hA0
    obtain ⟨hgr, hcn⟩ := hI
    rw [hS] at hcn
    rw [show ((cntK (flatT tt) : Nat) : Int) = (ans : Int) from congrArg Int.ofNat HFC.out] at hcn
    obtain ⟨c3, _⟩ := one_row hcn
    have HK := Lib.hid hK
    have HGR := Lib.hid hgr
    clear hcn hgr hK hS
    go_wp2_with fail
    refine ⟨by simp, .inl ⟨_, _, rfl, run_takeDeferred HK.out, ?_⟩⟩
    refine ⟨_, results_tmp rfl _ _ _, rfl, ?_⟩
    exact (HXw.out.grownB HGR.out (fun q hq => by cases hq; omega)).grownB (grownBy_putObj' _ D _) (fun q hq => by cases hq; have := HXw.out.size; omega)
  case assign =>
    rintro l0 pre x W K hI ⟨V, hIV, _⟩ hK
    subst hA0
    obtain ⟨wZ, hwZ⟩ : ∃ wZ, W.alloc (.cells #[.int .i64 0, .int .i64 0, .float .f64 0, .string ⟨#[]⟩, .bool false, .int .i64 0, .int .i64 0, .int .i64 0, .bool false, .bool false, .int .i64 0, .int .i64 0, .bool false, .bool false, .slice none 0 0] 29) = wZ := ⟨_, rfl⟩
    have hrZ : wZ.heap[W.heap.size]? = some (.cells #[.int .i64 0, .int .i64 0, .float .f64 0, .string ⟨#[]⟩, .bool false, .int .i64 0, .int .i64 0, .int .i64 0, .bool false, .bool false, .int .i64 0, .int .i64 0, .bool false, .bool false, .slice none 0 0] 29 (0, 0)) := by rw [← hwZ]; exact (MapKept.heap_alloc W _).1
    obtain ⟨wA, hwA⟩ : ∃ wA, wZ.setRow W.heap.size #[.int .i64 x.kind, .int .i64 x.op, .float .f64 x.x, .string x.s, .bool x.b, .int .i64 x.f, .int .i64 x.ref.a.1, .int .i64 x.ref.a.2, .bool x.ref.cf, .bool x.ref.rf, .int .i64 x.to.a.1, .int .i64 x.to.a.2, .bool x.to.cf, .bool x.to.rf, .slice none 0 0] = wA := ⟨_, rfl⟩
    have hx : Xt W wA := by rw [← hwA, ← hwZ]; exact ((Xt.refl W).alloc _).grownB (setRow_grown _ _ _) (fun m hm => by cases hm; exact Nat.le_refl _)
    have hrA : wA.heap[W.heap.size]? = some (.cells #[.int .i64 x.kind, .int .i64 x.op, .float .f64 x.x, .string x.s, .bool x.b, .int .i64 x.f, .int .i64 x.ref.a.1, .int .i64 x.ref.a.2, .bool x.ref.cf, .bool x.ref.rf, .int .i64 x.to.a.1, .int .i64 x.to.a.2, .bool x.to.cf, .bool x.to.rf, .slice none 0 0] 29 (0, 0)) := by rw [← hwA]; exact setRow_heap _ _ _ _ _ _ hrZ
    have HRZ := Lib.hid hrZ
    have HWA := Lib.hid hwA
    clear hwA hrZ
    have hWs : B + 1 < W.heap.size := (Array.getElem?_eq_some_iff.1 hI.cnt).1
    have HX2 := Lib.hid hx
    have HRA := Lib.hid hrA
    have HI := Lib.hid hI
    clear hx hrA hIV hI
    gi_wp2_with (first | (refine wpListIn_store_row (P := Tryz.prog) rfl 29 _ _ rfl W.heap.size #[.int .i64 x.kind, .int .i64 x.op, .float .f64 x.x, .string x.s, .bool x.b, .int .i64 x.f, .int .i64 x.ref.a.1, .int .i64 x.ref.a.2, .bool x.ref.cf, .bool x.ref.rf, .int .i64 x.to.a.1, .int .i64 x.to.a.2, .bool x.to.cf, .bool x.to.rf, .slice none 0 0] rfl rfl 29 _ HRZ.out (by kernel_rfl) rfl (by simp [Value.oneCell']) ?_; rw [HWA.out]))
    have hx := HX2.out
    refine hK _ _ (keepsFrom_xt hx _) (KN.of_xt hx) ⟨grownBy_far HI.out.grown hx.grownN (fun r e => by cases e), rowX hx HI.out.cnt⟩ ?_
    refine ⟨W.heap.size, by omega, HRA.out, ?_⟩
    simp only [List.setIfInBounds_toArray, List.set_cons_zero, List.set_cons_succ]
  case body =>
    rintro l0 pre x a' W hl0 ⟨r, hr⟩ hI ⟨Bx, nBx, hBx, rfl⟩ hlt
    subst hA0
    obtain ⟨hgr, hcn⟩ := hI
    obtain ⟨cnt, hcnt⟩ : ∃ cnt : Int, ((cntK pre : Nat) : Int) = cnt := ⟨_, rfl⟩
    have hcb : 0 ≤ cnt ∧ cnt ≤ 1048576 := by
      have h1 := cntK_le pre
      have h2 := HBK.out
      omega
    rw [hcnt] at hcn
    have HCN := Lib.hid hcnt
    have HGR := Lib.hid hgr
    have HRN := Lib.hid hcn
    obtain ⟨c3, f3⟩ := one_row hcn
    have kx : W.cell? ⟨Bx, 0, none⟩ = some (.int .i64 x.kind) := by simp [World.cell?, hBx]
    clear hr hgr hcn hBx hcnt hlt
    simp only [List.setIfInBounds_toArray, List.set_cons_zero, List.set_cons_succ]
    have hcw : IntKind.i64.wrap (cnt + 1) = cnt + 1 := by rw [IntKind.wrap_i64]; omega
    by_cases hk : x.kind = 4
    · have HK := Lib.hid hk
      rw [hk] at kx
      clear hk
      gi_wp2_with fail
      have hgW : Wr (fun b => b = B + 1) W (W.setCell ⟨B + 1, 0, none⟩ (.int .i64 (cnt + 1))) := Wr.cell _ rfl
      exact round_endJ (l0 := w2.heap.size) (f := fun pre => ((cntK pre : Nat) : Int)) (pre' := pre ++ [x]) HGR.out HRN.out HRN.out (by show ((cntK (pre ++ [x]) : Nat) : Int) = cnt + 1; rw [cntK_snoc, if_pos HK.out, ← HCN.out]; omega) hgW (by omega)
    · have HK := Lib.hid hk
      gi_wp2_with fail
      refine ⟨keepsFrom_xt (Xt.refl _) _, KN.refl _, ⟨HGR.out, ?_⟩⟩
      show W.heap[B + 1]? = some (.cells #[.int .i64 ((cntK (pre ++ [x]) : Nat) : Int)] 3 (0, 0))
      rw [cntK_snoc, if_neg HK.out, HCN.out]
      exact HRN.out
end Go.Proofs.YtlgkaipgdhcajaaGreatDoor
/- quadrillelaw22's lost: how many faults all formulas of a grid have (made by mkq7.py). -/
namespace Go.Proofs.YtlgkaipgdhcajaaGreatDoor
open Go.RowKit Go.Sort Go.Maps Go.Shelf Go.MapKept
attribute [local go_sem] Oper.semAt_some

def lostP : PG → Nat
  | [] => 0
  | x :: r => faultsT x.2.t + lostP r
theorem lostP_snoc (l : PG) (x : Ad × ContT) : lostP (l ++ [x]) = lostP l + faultsT x.2.t := by
  induction l with
  | nil => simp [lostP]
  | cons y r ih => rw [List.cons_append, lostP, lostP, ih]; omega
/-- Each formula's nodes can be counted. -/
def BulkP (l : PG) : Prop := ∀ x ∈ l, (flatT x.2.t).length ≤ 1048576
theorem lostP_le {l : PG} (h : BulkP l) : lostP l ≤ l.length * 1048576 := by
  induction l with
  | nil => simp [lostP]
  | cons y r ih =>
    have h1 := cntK_le (flatT y.2.t)
    have h2 := h y List.mem_cons_self
    have h3 := ih (fun z hz => h z (List.mem_cons_of_mem _ hz))
    rw [lostP, List.length_cons]
    unfold faultsT
    omega
theorem round_endT {W0 W wz : World} {R l0 n0 : Nat} {f : List TE → Int} {pre' : List TE} {cnt cnt' : Int} (hg : W0.grownBy W (some R)) (hr : W.heap[R]? = some (.cells #[.int .i64 cnt] 3 (0, 0))) (hz : wz.heap[R]? = some (.cells #[.int .i64 cnt] 3 (0, 0))) (hf : f pre' = cnt')
    (hW : Wr (fun b => b = R) W (wz.setCell ⟨R, 0, none⟩ (.int .i64 cnt'))) (hl : R < l0) (hn : n0 ≤ R) :
    KeepsFrom l0 W (wz.setCell ⟨R, 0, none⟩ (.int .i64 cnt')) ∧ (Below n0 W (wz.setCell ⟨R, 0, none⟩ (.int .i64 cnt')) ∧ KeepsT (fun _ => false) W (wz.setCell ⟨R, 0, none⟩ (.int .i64 cnt'))) ∧ LJ W0 R f pre' (wz.setCell ⟨R, 0, none⟩ (.int .i64 cnt')) := by
  have hgW : W.grownBy (wz.setCell ⟨R, 0, none⟩ (.int .i64 cnt')) (some R) := ⟨hW.os, hW.tape, hW.output, hW.size, fun i hi hn => hW.block i hi (fun e => hn (by rw [e]))⟩
  refine ⟨⟨hW.size, fun k o hB hk _ => (hW.block k (Array.getElem?_eq_some_iff.1 hk).1 (fun e => by omega)).trans hk⟩, ⟨⟨hW.os, hW.tape, hW.output, hW.size, fun k hk => ?_⟩, KeepsT.of_grown hgW (fun j o e ho => ?_)⟩, ⟨grownBy_two hg hgW, ?_⟩⟩
  · have hlt := (Array.getElem?_eq_some_iff.1 hr).1
    exact hW.block k (by omega) (fun e => by omega)
  · cases e
    rw [hr] at ho
    cases ho
    rfl
  · rw [hf]
    exact setCell_row hz 0 _
theorem row_mid6 {V : World} {b : Nat} {z : CE} (h : V.heap[b]? = some (.cells #[.int .i64 z.1.kind, .int .i64 z.1.v.kind, .float .f64 z.1.v.x, .string z.1.v.s, .bool z.1.v.b, .int .i64 z.1.v.f, .int .i64 z.1.t.kind, .int .i64 z.1.t.op, .float .f64 z.1.t.x, .string z.1.t.s, .bool z.1.t.b, .int .i64 z.1.t.f, .int .i64 z.1.t.ref.a.1, .int .i64 z.1.t.ref.a.2, .bool z.1.t.ref.cf, .bool z.1.t.ref.rf, .int .i64 z.1.t.to.a.1, .int .i64 z.1.t.to.a.2, .bool z.1.t.to.cf, .bool z.1.t.to.rf, .slice z.2 z.1.t.args.length z.1.t.args.length] 50 (0, 0))) : V.rangeAt b 6 [.int .i64 z.1.t.kind, .int .i64 z.1.t.op, .float .f64 z.1.t.x, .string z.1.t.s, .bool z.1.t.b, .int .i64 z.1.t.f, .int .i64 z.1.t.ref.a.1, .int .i64 z.1.t.ref.a.2, .bool z.1.t.ref.cf, .bool z.1.t.ref.rf, .int .i64 z.1.t.to.a.1, .int .i64 z.1.t.to.a.2, .bool z.1.t.to.cf, .bool z.1.t.to.rf, .slice z.2 z.1.t.args.length z.1.t.args.length] := fun j v hj => by
  have e : (#[.int .i64 z.1.kind, .int .i64 z.1.v.kind, .float .f64 z.1.v.x, .string z.1.v.s, .bool z.1.v.b, .int .i64 z.1.v.f, .int .i64 z.1.t.kind, .int .i64 z.1.t.op, .float .f64 z.1.t.x, .string z.1.t.s, .bool z.1.t.b, .int .i64 z.1.t.f, .int .i64 z.1.t.ref.a.1, .int .i64 z.1.t.ref.a.2, .bool z.1.t.ref.cf, .bool z.1.t.ref.rf, .int .i64 z.1.t.to.a.1, .int .i64 z.1.t.to.a.2, .bool z.1.t.to.cf, .bool z.1.t.to.rf, .slice z.2 z.1.t.args.length z.1.t.args.length] : Array Value).toList.drop 6 = [.int .i64 z.1.t.kind, .int .i64 z.1.t.op, .float .f64 z.1.t.x, .string z.1.t.s, .bool z.1.t.b, .int .i64 z.1.t.f, .int .i64 z.1.t.ref.a.1, .int .i64 z.1.t.ref.a.2, .bool z.1.t.ref.cf, .bool z.1.t.ref.rf, .int .i64 z.1.t.to.a.1, .int .i64 z.1.t.to.a.2, .bool z.1.t.to.cf, .bool z.1.t.to.rf, .slice z.2 z.1.t.args.length z.1.t.args.length] := rfl
  rw [← e, List.getElem?_drop] at hj
  simp only [World.cell?, h]
  rw [← Array.getElem?_toList]
  exact hj
set_option maxRecDepth 100000 in
set_option maxHeartbeats 4000000 in
theorem lost_any (gb mb : Nat) (M : GM) (w : World) (hG : GridIs w gb mb M) (hK : BulkP (er M)) :
    Calls Tryz.prog 22 #[.pointer (some ⟨gb, 0, none⟩)] w fun e w' => e = .returned (.int .i64 (lostP (er M))) ∧ Xt w w' := by
  obtain ⟨B, hB⟩ : ∃ B, w.heap.size = B := ⟨_, rfl⟩
  have HG := Lib.hid hG
  have HKB := Lib.hid hK
  have hgl := hG.lt
  clear hG hK
  refine (callsIn_wide (n := 25)).1 ?_
  refine callsIn_of_wp_marks Tryz.func22 rfl trivial ?_ rfl
  simp only [Tryz.ntmps22, List.size_toArray, List.length_cons, List.length_nil, Nat.reduceAdd, Nat.reduceSub, Array.replicate_succ, Array.replicate_zero, List.push_toArray, List.append_toArray, List.nil_append, List.cons_append]
  refine wpIn_wide.2 ?_
  refine wp_mono (Q := noPanic (bodyPostM Fence.wide 25 Tryz.prog Tryz.f22 (fun e w' => e = .returned (.int .i64 (lostP (er M))) ∧ Xt w w'))) ?_ noPanic_le
  go_wp2_with (first
    | (go_at_call 16; refine (all22_any gb _).mono ?_; rintro e w' ⟨rfl, rfl⟩))
  obtain ⟨w1, hw1⟩ : ∃ w1, w.alloc (.cells #[.int .i64 0] 3) = w1 := ⟨_, rfl⟩
  have hs1 : w1.heap.size = B + 1 := by rw [← hw1, ← hB]; simp
  have HR1 : Hid (w1.heap[B]? = some (.cells #[.int .i64 0] 3 (0, 0))) := by unfold Hid; rw [← hw1, ← hB]; exact (MapKept.heap_alloc w _).1
  have HX1 : Hid (Xt w w1) := by unfold Hid; rw [← hw1]; exact (Xt.refl w).alloc _
  obtain ⟨W0, hW0⟩ : ∃ W0, (w1.alloc (.cells #[.pointer (some ⟨gb, 0, none⟩)] 38)).alloc (.cells #[.func (.func 84) #[] #[]] 53) = W0 := ⟨_, rfl⟩
  have hsW : W0.heap.size = B + 3 := by rw [← hW0]; simp [hs1]
  have HX1W : Hid (Xt w1 W0) := by unfold Hid; rw [← hW0]; exact ((Xt.refl _).alloc _).alloc _
  have HcgW : W0.cell? ⟨B + 1, 0, none⟩ = some (.pointer (some ⟨gb, 0, none⟩)) := by
    have := rowX (w := w1.alloc (.cells #[.pointer (some ⟨gb, 0, none⟩)] 38)) (w' := W0) (by rw [← hW0]; exact (Xt.refl _).alloc _) (MapKept.heap_alloc w1 _).1
    rw [hs1] at this
    exact (one_row this).1
  have rBw : W0.heap[B + 2]? = some (.cells #[.func (.func 84) #[] #[]] 53 (0, 0)) := by
    rw [← hW0]
    have := (MapKept.heap_alloc (w1.alloc (.cells #[.pointer (some ⟨gb, 0, none⟩)] 38)) (.cells #[.func (.func 84) #[] #[]] 53)).1
    simpa [hs1] using this
  have HXW : Hid (Xt w W0) := HX1.out.trans HX1W.out
  have HRW := Lib.hid (rowX HX1W.out HR1.out)
  have hsz : (w.alloc (.cells #[.int .i64 0] 3)).heap.size = B + 1 := by rw [hw1, hs1]
  try simp only [hsz]
  simp only [hw1, hW0]
  clear hW0 hw1 hsz
  generalize hA0 : Act.mk _ _ = a0
  refine (wpIn_wide (n := 25)).1 ?_
  refine rangeFunc_told (n := 25) (by omega) (gf := 98) (lb := #[.pointer (some ⟨B + 1, 0, none⟩), .pointer (some ⟨B + 2, 0, none⟩)]) (by subst hA0; rfl) (enters_of Tryz.func98 (by kernel_rfl) rfl)
    (some1_told (fun _ => false) 84 #[] (enters_of Tryz.func84 (by kernel_rfl) rfl) (fun _ => true) w.heap.size w rfl (fun _ => True) (fun _ _ _ _ _ => trivial) (fun a W _ => all1_any a W) (25 - 1) (by omega) (B + 1) (B + 2) gb mb M HG.out W0 HXW.out trivial (by omega) HcgW rBw)
    (fun h k => ⟨h.1.trans k.1, h.2.trans k.2⟩) (fun W l o o' hl ho hc hw => ⟨belowK_b (w := W0) (by omega) W l o o' hl ho hc hw, KeepsT.of_grown (grownBy_putObj' W l o') (fun j o2 e h2 => by cases e; rw [ho] at h2; cases h2; cases o <;> simp_all [keptO, Obj.isCells, Obj.isWalk])⟩) (Below.refl _ _) (fun _ => rfl)
    (fun pre W => LJ W0 B (fun pre => (lostP (pre.map tpT) : Int)) pre W ∧ ∀ y ∈ pre.map tpT, y ∈ er M)
    (fun c pre W => False) (fun s X Y row hs hg hr => ⟨LJ.own s X Y row hs.1 hg hr, hs.2⟩) (fun c s X Y row hs hg hr => hs.elim)
    ⟨⟨⟨rfl, rfl, rfl, Nat.le_refl _, fun _ _ _ => rfl⟩, HRW.out⟩, by simp⟩
    (fun x a' W => ∃ (z : CE) (By nT : Nat), z.1 = copyC x.2.1 ∧ z.2 = x.2.2 ∧ By ≠ B ∧ W.heap[By]? = some (.cells #[.int .i64 z.1.kind, .int .i64 z.1.v.kind, .float .f64 z.1.v.x, .string z.1.v.s, .bool z.1.v.b, .int .i64 z.1.v.f, .int .i64 z.1.t.kind, .int .i64 z.1.t.op, .float .f64 z.1.t.x, .string z.1.t.s, .bool z.1.t.b, .int .i64 z.1.t.f, .int .i64 z.1.t.ref.a.1, .int .i64 z.1.t.ref.a.2, .bool z.1.t.ref.cf, .bool z.1.t.ref.rf, .int .i64 z.1.t.to.a.1, .int .i64 z.1.t.to.a.2, .bool z.1.t.to.cf, .bool z.1.t.to.rf, .slice z.2 z.1.t.args.length z.1.t.args.length] 50 (0, 0)) ∧ smallT z.1.t ∧ ArgsIn W nT (.slice z.2 z.1.t.args.length z.1.t.args.length) z.1.t.args ∧ (x.1, x.2.1) ∈ er M ∧
      a' = { tmps := ((a0.tmps.setIfInBounds 8 (adW x.1)).setIfInBounds 9 (ceV z)).setIfInBounds 5 (.pointer (some ⟨By, 0, none⟩)), defers := [] })
    (fun x a' _ X Y row hs hg hr => by
      obtain ⟨z, By, nT, e1, e2, n2, h2, h3, h4, h5⟩ := hs
      exact ⟨z, By, nT, e1, e2, n2, rowCells_own h2 hg (fun r e => (hr r e).2), h3, h4.kept (cellsIn_walk hg (fun r e => (hr r e).2)), h5⟩)
    ?assign ?body ?done ?stop
  case stop =>
    rintro D c pre W hD hS hF hK
    exact hF.elim
  case done =>
    rintro D xs W hD hS hI hK
    subst hA0
    obtain ⟨⟨hgr, hcn⟩, _⟩ := hI
    rw [told_all hS] at hcn
    obtain ⟨c3, _⟩ := one_row hcn
    have HK := Lib.hid hK
    have HGR := Lib.hid hgr
    clear hcn hgr hK hS
    go_wp2_with fail
    refine ⟨by simp, .inl ⟨_, _, rfl, run_takeDeferred HK.out, ?_⟩⟩
    refine ⟨_, results_tmp rfl _ _ _, rfl, ?_⟩
    exact (HXW.out.grownB HGR.out (fun q hq => by cases hq; omega)).grownB (grownBy_putObj' _ D _) (fun q hq => by cases hq; omega)
  case assign =>
    rintro l0 pre x W K hI ⟨V, hIV, ⟨hxV, hsm, nT, hA⟩, hmem⟩ hK
    subst hA0
    obtain ⟨⟨c, d⟩, tc, tp⟩ := x
    obtain ⟨z, hz1, hz2⟩ : ∃ z : CE, z.1 = copyC tc ∧ z.2 = tp := ⟨(copyC tc, tp), rfl, rfl⟩
    have hzv : copyCV tc tp = ceV z := by rw [← ceV_copy]; obtain ⟨z1, z2⟩ := z; simp only at hz1 hz2; rw [hz1, hz2]
    have hzA : smallT z.1.t ∧ ArgsIn W nT (.slice z.2 z.1.t.args.length z.1.t.args.length) z.1.t.args := by
      rw [hz1, hz2]
      refine ⟨smallT_copy _ hsm, ?_⟩
      show ArgsIn _ _ (.slice tp (copyT tc.t).args.length (copyT tc.t).args.length) (copyT tc.t).args
      rw [copyT_len, copyT_args]
      exact hA.args
    have HZ := Lib.hid (show z.1 = copyC tc ∧ z.2 = tp from ⟨hz1, hz2⟩)
    have HZA := Lib.hid hzA
    simp only [teV, hzv]
    clear hz1 hz2 hzv hzA hA hsm hIV hxV
    have hWs : B + 3 ≤ W.heap.size := by have := hI.1.grown.size; omega
    obtain ⟨wZ, wR, hwZ, hwR, hrZ, hrR, hxR, hsR, hxZ, hsZ⟩ := boxR W z
    have HXR := Lib.hid hxR
    have HRZ := Lib.hid hrZ
    have HRR := Lib.hid hrR
    have HWR := Lib.hid hwR
    have HWs := Lib.hid hWs
    clear hrZ hwR hrR hxZ hxR hWs
    gi_wp2_with (first | (refine wpListIn_store_row (P := Tryz.prog) rfl 50 _ _ rfl W.heap.size #[.int .i64 z.1.kind, .int .i64 z.1.v.kind, .float .f64 z.1.v.x, .string z.1.v.s, .bool z.1.v.b, .int .i64 z.1.v.f, .int .i64 z.1.t.kind, .int .i64 z.1.t.op, .float .f64 z.1.t.x, .string z.1.t.s, .bool z.1.t.b, .int .i64 z.1.t.f, .int .i64 z.1.t.ref.a.1, .int .i64 z.1.t.ref.a.2, .bool z.1.t.ref.cf, .bool z.1.t.ref.rf, .int .i64 z.1.t.to.a.1, .int .i64 z.1.t.to.a.2, .bool z.1.t.to.cf, .bool z.1.t.to.rf, .slice z.2 z.1.t.args.length z.1.t.args.length] rfl rfl 50 _ HRZ.out (by kernel_rfl) rfl (by simp [Value.oneCell']) ?_; rw [HWR.out]))
    have hx := HXR.out
    have hWs := HWs.out
    refine hK _ _ (keepsFrom_xt hx _) ⟨hx.mono (by omega), KeepsT.of_xt hx⟩ ⟨⟨grownBy_far hI.1.grown hx.grownN (fun r e => by cases e), rowX hx hI.1.cnt⟩, hI.2⟩ ?_
    refine ⟨z, W.heap.size, nT, HZ.out.1, HZ.out.2, by omega, HRR.out, HZA.out.1, HZA.out.2.xt hx, hmem, ?_⟩
    simp only [List.setIfInBounds_toArray, List.set_cons_zero, List.set_cons_succ]
  case body =>
    rintro l0 pre x a' W hl0 ⟨r, hr⟩ hI ⟨z, By, nT, hz1, hz2, nBy, hBy, hzs, hzA, hmem, rfl⟩ hlt
    subst hA0
    obtain ⟨⟨c, d⟩, tc, tp⟩ := x
    simp only at hz1 hz2
    obtain ⟨⟨hgr, hcn⟩, hI2⟩ := hI
    obtain ⟨cnt, hcnt⟩ : ∃ cnt : Int, ((lostP (pre.map tpT) : Nat) : Int) = cnt := ⟨_, rfl⟩
    have hbt := HKB.out _ hmem
    simp only at hbt
    have hbz : (flatT z.1.t).length ≤ 1048576 := by
      rw [hz1]
      show (flatT (copyT tc.t)).length ≤ 1048576
      rw [flat_copy, List.length_map]; exact hbt
    obtain ⟨fz, hfz⟩ : ∃ fz : Int, ((faultsT tc.t : Nat) : Int) = fz := ⟨_, rfl⟩
    have hfzz : ((faultsT z.1.t : Nat) : Int) = fz := by rw [hz1]; show ((faultsT (copyT tc.t) : Nat) : Int) = fz; rw [faultsT_copy]; exact hfz
    have hfb : 0 ≤ fz ∧ fz ≤ 1048576 := by
      have h1 := cntK_le (flatT tc.t)
      have h2 : faultsT tc.t = cntK (flatT tc.t) := rfl
      omega
    have hpre : ∀ y ∈ pre.map tpT, (flatT y.2.t).length ≤ 1048576 := fun y hy => HKB.out y (hI2 y hy)
    have HMM : Hid (∀ y ∈ (pre ++ [((c, d), tc, tp)]).map tpT, y ∈ er M) := Lib.hid fun y hy => by
      rw [List.map_append, List.mem_append] at hy
      rcases hy with hy | hy
      · exact hI2 y hy
      · simp only [List.map_cons, List.map_nil, List.mem_singleton] at hy
        rw [hy]; exact hmem
    have hcb : 0 ≤ cnt ∧ cnt ≤ 4294967296 := by
      have h1 := lostP_le (l := pre.map tpT) (fun y hy => hpre y hy)
      have h2 : (pre.map tpT).length ≤ 4096 := by
        have := HG.out.many
        rw [List.length_map]; omega
      have h3 : (pre.map tpT).length * 1048576 ≤ 4096 * 1048576 := Nat.mul_le_mul_right _ h2
      omega
    rw [hcnt] at hcn
    have HCN := Lib.hid hcnt
    have HFZ := Lib.hid hfz
    have HGR := Lib.hid hgr
    have HRN := Lib.hid hcn
    have HXD : Hid (Xt W W.drew) := (Xt.refl W).drew
    have HF : Hid (∀ V, Xt W V → V.rangeAt By 6 [.int .i64 z.1.t.kind, .int .i64 z.1.t.op, .float .f64 z.1.t.x, .string z.1.t.s, .bool z.1.t.b, .int .i64 z.1.t.f, .int .i64 z.1.t.ref.a.1, .int .i64 z.1.t.ref.a.2, .bool z.1.t.ref.cf, .bool z.1.t.ref.rf, .int .i64 z.1.t.to.a.1, .int .i64 z.1.t.to.a.2, .bool z.1.t.to.cf, .bool z.1.t.to.rf, .slice z.2 z.1.t.args.length z.1.t.args.length]) := Lib.hid fun V hV => row_mid6 (rowX hV hBy)
    have HS : Hid (∀ V, Xt W V → (V.setCell ⟨B, 0, none⟩ (.int .i64 (cnt + fz))).rangeAt By 6 [.int .i64 z.1.t.kind, .int .i64 z.1.t.op, .float .f64 z.1.t.x, .string z.1.t.s, .bool z.1.t.b, .int .i64 z.1.t.f, .int .i64 z.1.t.ref.a.1, .int .i64 z.1.t.ref.a.2, .bool z.1.t.ref.cf, .bool z.1.t.ref.rf, .int .i64 z.1.t.to.a.1, .int .i64 z.1.t.to.a.2, .bool z.1.t.to.cf, .bool z.1.t.to.rf, .slice z.2 z.1.t.args.length z.1.t.args.length]) := Lib.hid fun V hV j v hj => (World.cell?_setCell_other _ _ _ _ (by simp)).trans (row_mid6 (rowX hV hBy) j v hj)
    have HC := Lib.hid (faults_any nT z.1.t z.2 z.1.t.args.length W.drew hzs (hzA.xt HXD.out) hbz)
    rw [hfzz] at HC
    obtain ⟨c3, f3⟩ := one_row (rowX HXD.out hcn)
    clear hr hgr hcn hBy hz1 hz2 hzs hzA hmem hlt hcnt hfz hfzz hbt hbz hI2 hpre
    simp only [List.setIfInBounds_toArray, List.set_cons_zero, List.set_cons_succ]
    have hcw : IntKind.i64.wrap (cnt + fz) = cnt + fz := by rw [IntKind.wrap_i64]; omega
    have hff : Fence.wide.fn 54 := trivial
    gi_wp2_with fail
    refine region_round (S := fun V => V.rangeAt By 6 [.int .i64 z.1.t.kind, .int .i64 z.1.t.op, .float .f64 z.1.t.x, .string z.1.t.s, .bool z.1.t.b, .int .i64 z.1.t.f, .int .i64 z.1.t.ref.a.1, .int .i64 z.1.t.ref.a.2, .bool z.1.t.ref.cf, .bool z.1.t.ref.rf, .int .i64 z.1.t.to.a.1, .int .i64 z.1.t.to.a.2, .bool z.1.t.to.cf, .bool z.1.t.to.rf, .slice z.2 z.1.t.args.length z.1.t.args.length]) (by kernel_rfl) (by kernel_rfl) (fun _ _ h => h) (HF.out _ HXD.out) (fun hHeld => ?_)
    refine wpAnyH_take (i := 1) (oi := _) (v := ?_) rfl (by kernel_rfl) (by kernel_rfl) (by kernel_rfl) (fun _ _ _ h => h) (Or.inl ⟨by rfl, ?_⟩) (by assumption) ?_
    rotate_left
    · intro V hSw; clear hSw; go_simp; first | done | with_reducible rfl
    try simp only [Act.put, List.getElem_toArray, List.setIfInBounds_toArray]
    refine wpAnyH_take (i := 2) (oi := _) (v := .agg #[.int .i64 z.1.t.kind, .int .i64 z.1.t.op, .float .f64 z.1.t.x, .string z.1.t.s, .bool z.1.t.b, .int .i64 z.1.t.f, .int .i64 z.1.t.ref.a.1, .int .i64 z.1.t.ref.a.2, .bool z.1.t.ref.cf, .bool z.1.t.ref.rf, .int .i64 z.1.t.to.a.1, .int .i64 z.1.t.to.a.2, .bool z.1.t.to.cf, .bool z.1.t.to.rf, .slice z.2 z.1.t.args.length z.1.t.args.length]) rfl (by kernel_rfl) (by kernel_rfl) (by kernel_rfl) (fun _ _ _ h => h) (Or.inl ⟨by rfl, ?_⟩) (by assumption) ?_
    · intro V hSw; exact exec_load_mid 29 _ (by rfl) By 6 (by rfl) [.int .i64 z.1.t.kind, .int .i64 z.1.t.op, .float .f64 z.1.t.x, .string z.1.t.s, .bool z.1.t.b, .int .i64 z.1.t.f, .int .i64 z.1.t.ref.a.1, .int .i64 z.1.t.ref.a.2, .bool z.1.t.ref.cf, .bool z.1.t.ref.rf, .int .i64 z.1.t.to.a.1, .int .i64 z.1.t.to.a.2, .bool z.1.t.to.cf, .bool z.1.t.to.rf, .slice z.2 z.1.t.args.length z.1.t.args.length] _ hSw Tryz.underlying29 rfl (by kernel_rfl)
    try simp only [Act.put, List.getElem_toArray, List.getElem_cons_zero, List.getElem_cons_succ, List.setIfInBounds_toArray, List.set_cons_zero, List.set_cons_succ]
    refine wpAnyH_ready (rs := [0, 3]) (by kernel_rfl) (by simp) ?_
    refine AllReadyH.cons (o := _) rfl (fun K hK => ?_) (AllReadyH.cons (o := _) rfl (fun K hK => ?_) AllReadyH.nil)
    · go_simp
      refine hK.out _ _ (by assumption) (fun hHeldA => ?_)
      clear hK K
      try simp only [Act.put, List.getElem_toArray, List.getElem_cons_zero, List.getElem_cons_succ, List.setIfInBounds_toArray, List.set_cons_zero, List.set_cons_succ]
      refine wpAnyH_ready (rs := [3]) (by kernel_rfl) (by simp) ?_
      refine AllReadyH.cons (o := _) rfl (fun K hK => ?_) AllReadyH.nil
      go_simp
      refine (HC.out).mono ?_
      rintro e w7 ⟨rfl, hx7⟩
      have HX7 : Hid (Xt W w7) := HXD.out.trans hx7
      obtain ⟨c3, f3⟩ := one_row (rowX HX7.out HRN.out)
      refine hK.out _ _ (HF.out _ HX7.out) (fun hHeldB => ?_)
      clear hK K hx7
      try simp only [Act.put, List.getElem_toArray, List.getElem_cons_zero, List.getElem_cons_succ, List.setIfInBounds_toArray, List.set_cons_zero, List.set_cons_succ]
      refine wpAnyH_take (i := 4) (oi := _) (v := ?_) rfl (by kernel_rfl) (by kernel_rfl) (by kernel_rfl) (fun _ _ _ h => h) (Or.inl ⟨by rfl, ?_⟩) (by assumption) ?_
      rotate_left
      · intro V hSw; clear hSw; go_simp; first | done | with_reducible rfl
      try simp only [Act.put, List.getElem_toArray, List.getElem_cons_zero, List.getElem_cons_succ, List.setIfInBounds_toArray, List.set_cons_zero, List.set_cons_succ]
      refine wpAnyH_ready (rs := [5]) (by kernel_rfl) (by simp) ?_
      refine AllReadyH.cons (o := _) rfl (fun K hK => ?_) AllReadyH.nil
      go_simp
      refine hK.out _ _ (HS.out _ HX7.out) (fun hHeldC => ?_)
      clear hK K
      refine wpAnyH_done (by kernel_rfl) ?_ _
      gi_wp2_with fail
      have hgW : Wr (fun b => b = B) W (w7.setCell ⟨B, 0, none⟩ (.int .i64 (cnt + fz))) := (Wr.of_xt HX7.out).trans (Wr.cell _ rfl)
      obtain ⟨re1, re2, re3⟩ := round_endT (l0 := W0.heap.size) (n0 := w.heap.size) (f := fun pre => ((lostP (List.map tpT pre) : Nat) : Int)) (pre' := pre ++ [((c, d), tc, tp)]) HGR.out HRN.out (rowX HX7.out HRN.out) (by show ((lostP (List.map tpT (pre ++ [((c, d), tc, tp)])) : Nat) : Int) = cnt + fz; rw [List.map_append, List.map_cons, List.map_nil, lostP_snoc, ← HCN.out, ← HFZ.out]; rfl) hgW (by omega) (by omega)
      exact ⟨re1, re2, re3, HMM.out⟩
    · go_simp
      refine (HC.out).mono ?_
      rintro e w7 ⟨rfl, hx7⟩
      have HX7 : Hid (Xt W w7) := HXD.out.trans hx7
      obtain ⟨c3, f3⟩ := one_row (rowX HX7.out HRN.out)
      refine hK.out _ _ (HF.out _ HX7.out) (fun hHeldB => ?_)
      clear hK K hx7
      try simp only [Act.put, List.getElem_toArray, List.getElem_cons_zero, List.getElem_cons_succ, List.setIfInBounds_toArray, List.set_cons_zero, List.set_cons_succ]
      refine wpAnyH_ready (rs := [0]) (by kernel_rfl) (by simp) ?_
      refine AllReadyH.cons (o := _) rfl (fun K hK => ?_) AllReadyH.nil
      go_simp
      refine hK.out _ _ (by assumption) (fun hHeldA => ?_)
      clear hK K
      try simp only [Act.put, List.getElem_toArray, List.getElem_cons_zero, List.getElem_cons_succ, List.setIfInBounds_toArray, List.set_cons_zero, List.set_cons_succ]
      refine wpAnyH_take (i := 4) (oi := _) (v := ?_) rfl (by kernel_rfl) (by kernel_rfl) (by kernel_rfl) (fun _ _ _ h => h) (Or.inl ⟨by rfl, ?_⟩) (by assumption) ?_
      rotate_left
      · intro V hSw; clear hSw; go_simp; first | done | with_reducible rfl
      try simp only [Act.put, List.getElem_toArray, List.getElem_cons_zero, List.getElem_cons_succ, List.setIfInBounds_toArray, List.set_cons_zero, List.set_cons_succ]
      refine wpAnyH_ready (rs := [5]) (by kernel_rfl) (by simp) ?_
      refine AllReadyH.cons (o := _) rfl (fun K hK => ?_) AllReadyH.nil
      go_simp
      refine hK.out _ _ (HS.out _ HX7.out) (fun hHeldC => ?_)
      clear hK K
      refine wpAnyH_done (by kernel_rfl) ?_ _
      gi_wp2_with fail
      have hgW : Wr (fun b => b = B) W (w7.setCell ⟨B, 0, none⟩ (.int .i64 (cnt + fz))) := (Wr.of_xt HX7.out).trans (Wr.cell _ rfl)
      obtain ⟨re1, re2, re3⟩ := round_endT (l0 := W0.heap.size) (n0 := w.heap.size) (f := fun pre => ((lostP (List.map tpT pre) : Nat) : Int)) (pre' := pre ++ [((c, d), tc, tp)]) HGR.out HRN.out (rowX HX7.out HRN.out) (by show ((lostP (List.map tpT (pre ++ [((c, d), tc, tp)])) : Nat) : Int) = cnt + fz; rw [List.map_append, List.map_cons, List.map_nil, lostP_snoc, ← HCN.out, ← HFZ.out]; rfl) hgW (by omega) (by omega)
      exact ⟨re1, re2, re3, HMM.out⟩
end Go.Proofs.YtlgkaipgdhcajaaGreatDoor
/- quadrillelaw22's low: has an area of a formula one of the last lines (made by mkq8.py). -/
namespace Go.Proofs.YtlgkaipgdhcajaaGreatDoor
open Go.RowKit Go.Sort Go.Maps Go.Shelf Go.MapKept
attribute [local go_sem] Oper.semAt_some

def lowN (cols : Bool) (n : Int) (x : NodeT) : Bool := decide (x.kind = 6) && (if cols = true then decide (256 - n < x.to.a.1) else decide (4096 - n < x.to.a.2))
def lowL (cols : Bool) (n : Int) (l : List NodeT) : Bool := l.any (lowN cols n)
theorem lowL_snoc (cols : Bool) (n : Int) (l : List NodeT) (x : NodeT) : lowL cols n (l ++ [x]) = (lowL cols n l || lowN cols n x) := by unfold lowL; simp
def lowT (cols : Bool) (n : Int) (t : NodeT) : Bool := (flatT t).any (lowN cols n)
def lowP (cols : Bool) (n : Int) (l : PG) : Bool := l.any fun x => lowT cols n x.2.t
theorem lowP_snoc (cols : Bool) (n : Int) (l : PG) (x : Ad × ContT) : lowP cols n (l ++ [x]) = (lowP cols n l || lowT cols n x.2.t) := by unfold lowP; simp
theorem lowT_copy (cols : Bool) (n : Int) (t : NodeT) : lowT cols n (copyT t) = lowT cols n t := by
  unfold lowT
  rw [flat_copy, List.any_map]
  refine congrArg (fun f => (flatT t).any f) (funext fun x => ?_)
  show lowN cols n (copyT x) = lowN cols n x
  unfold lowN
  rw [copyT_kind, copyT_to]
/-- What holds while a cell is not, or is, set. -/
structure LV (W0 : World) (R : Nat) (v : Bool) (W : World) : Prop where
  grown : W0.grownBy W (some R)
  row : W.heap[R]? = some (.cells #[.bool v] 4 (0, 0))
theorem LV.own {W0 : World} {R B : Nat} {v : Bool} (hB : W0.heap.size ≤ B) {X Y : World} {row : Option Nat} (hs : LV W0 R v X) (hg : X.grownBy Y row) (hr : ∀ r, row = some r → B ≤ r ∧ ∃ o : Obj, X.heap[r]? = some o ∧ o.isCells = false) : LV W0 R v Y :=
  ⟨grownBy_far hs.grown hg (fun r e => Nat.le_trans hB (hr r e).1), rowCells_own hs.row hg (fun r e => (hr r e).2)⟩
theorem LV.refl {W : World} {R : Nat} {v : Bool} (h : W.heap[R]? = some (.cells #[.bool v] 4 (0, 0))) : LV W R v W := ⟨⟨rfl, rfl, rfl, Nat.le_refl _, fun _ _ _ => rfl⟩, h⟩
theorem nodes1_stops (n b : Nat) (t : NodeT) (a : Option Addr) (cap dd : Nat) (S : Nat → Prop) (w0 : World) (hr : w0.heap[b]? = some (.cells #[.int .i64 t.kind, .int .i64 t.op, .float .f64 t.x, .string t.s, .bool t.b, .int .i64 t.f, .int .i64 t.ref.a.1, .int .i64 t.ref.a.2, .bool t.ref.cf, .bool t.ref.rf, .int .i64 t.to.a.1, .int .i64 t.to.a.2, .bool t.to.cf, .bool t.to.rf, .slice a t.args.length cap] 29 (0, 0))) (hO : OwnIn S w0 dd (.slice a t.args.length cap) t.args) :
    SeqStopsK Fence.wide n Tryz.prog 85 #[.pointer (some ⟨b, 0, none⟩)] encN KN (fun xs => xs = flatT t) (fun p => p <+: flatT t) (flatT t).length w0 := fun l J Jx W hB hJ hJx hY h0 =>
  nodes1_told n b t a cap dd S w0 hr hO l J Jx W hB hJ hJx (fun pre x W1 hj _ hl => hY pre x W1 hj hl) h0
theorem results_one6 {fn : Func} {p : Tmp} {t1 : TypeId} (h : fn.results = #[.cell p t1]) (tmps : Array Value) (w : World) (b1 : Nat) (u : Value) (hp : tmps.getD p undef = .pointer (some ⟨b1, 0, none⟩))
    (l1 : (loadVar t1 ⟨b1, 0, none⟩).run Tryz.prog w = .ok u w) : (results fn tmps).run Tryz.prog w = .ok u w := by
  have hp' : tmps[p]?.getD undef = .pointer (some ⟨b1, 0, none⟩) := by simpa using hp
  simp [results, h, hp', asAddr, l1]
theorem load_bool6 (w : World) (b : Nat) (u : Value) (h : w.cell? ⟨b, 0, none⟩ = some u) : (loadVar 4 ⟨b, 0, none⟩).run Tryz.prog w = .ok u w := by go_simp
theorem any_prefix {α : Type} {p : α → Bool} {l k : List α} (h : l <+: k) (hl : l.any p = true) : k.any p = true := by
  obtain ⟨r, rfl⟩ := h
  rw [List.any_append, hl]; rfl
set_option maxRecDepth 100000 in
set_option maxHeartbeats 8000000 in
theorem low_any (gb mb : Nat) (M : GM) (cols : Bool) (n : Int) (w : World) (hG : GridIs w gb mb M) (hn : 0 ≤ n ∧ n ≤ 1000) :
    Calls Tryz.prog 23 #[.pointer (some ⟨gb, 0, none⟩), .bool cols, .int .i64 n] w fun e w' => e = .returned (.bool (lowP cols n (er M))) ∧ Xt w w' := by
  obtain ⟨B, hB⟩ : ∃ B, w.heap.size = B := ⟨_, rfl⟩
  have HG := Lib.hid hG
  have hgl := hG.lt
  obtain ⟨w1, hw1⟩ : ∃ w1, w.alloc (.cells #[.bool cols] 4) = w1 := ⟨_, rfl⟩
  have hs1 : w1.heap.size = B + 1 := by rw [← hw1, ← hB]; simp
  obtain ⟨w2, hw2⟩ : ∃ w2, w1.alloc (.cells #[.int .i64 n] 3) = w2 := ⟨_, rfl⟩
  have hs2 : w2.heap.size = B + 1 + 1 := by rw [← hw2]; simp [hs1]
  obtain ⟨w3, hw3⟩ : ∃ w3, w2.alloc (.cells #[.bool false] 4) = w3 := ⟨_, rfl⟩
  have hs3 : w3.heap.size = B + 1 + 1 + 1 := by rw [← hw3]; simp [hs2]
  have HX3 : Hid (Xt w w3) := by unfold Hid; rw [← hw3, ← hw2, ← hw1]; exact (((Xt.refl _).alloc _).alloc _).alloc _
  have HR1 : Hid (w3.heap[B]? = some (.cells #[.bool cols] 4 (0, 0))) := rowX (w := w1) (by rw [← hw3, ← hw2]; exact ((Xt.refl _).alloc _).alloc _) (by rw [← hw1, ← hB]; exact (MapKept.heap_alloc w _).1)
  have HR2 : Hid (w3.heap[B + 1]? = some (.cells #[.int .i64 n] 3 (0, 0))) := rowX (w := w2) (by rw [← hw3]; exact (Xt.refl _).alloc _) (by rw [← hw2, ← hs1]; exact (MapKept.heap_alloc w1 _).1)
  have HR3 : Hid (w3.heap[B + 1 + 1]? = some (.cells #[.bool false] 4 (0, 0))) := by unfold Hid; rw [← hw3, ← hs2]; exact (MapKept.heap_alloc w2 _).1
  clear hG
  refine (callsIn_wide (n := 25)).1 ?_
  refine callsIn_of_wp_marks Tryz.func23 rfl trivial ?_ rfl
  simp only [Tryz.ntmps23, List.size_toArray, List.length_cons, List.length_nil, Nat.reduceAdd, Nat.reduceSub, Array.replicate_succ, Array.replicate_zero, List.push_toArray, List.append_toArray, List.nil_append, List.cons_append]
  refine wpIn_wide.2 ?_
  refine wp_mono (Q := noPanic (bodyPostM Fence.wide 25 Tryz.prog Tryz.f23 (fun e w' => e = .returned (.bool (lowP cols n (er M))) ∧ Xt w w'))) ?_ noPanic_le
  go_wp2_with (first
    | (go_at_call 16; refine (all22_any gb _).mono ?_; rintro e w' ⟨rfl, rfl⟩))
  obtain ⟨W0, hW0⟩ : ∃ W0, (w3.alloc (.cells #[.pointer (some ⟨gb, 0, none⟩)] 38)).alloc (.cells #[.func (.func 84) #[] #[]] 53) = W0 := ⟨_, rfl⟩
  have hsW : W0.heap.size = B + 5 := by rw [← hW0]; simp [hs3]
  have HX3W : Hid (Xt w3 W0) := by unfold Hid; rw [← hW0]; exact ((Xt.refl _).alloc _).alloc _
  have HcgW : W0.cell? ⟨B + 3, 0, none⟩ = some (.pointer (some ⟨gb, 0, none⟩)) := by
    have := rowX (w := w3.alloc (.cells #[.pointer (some ⟨gb, 0, none⟩)] 38)) (w' := W0) (by rw [← hW0]; exact (Xt.refl _).alloc _) (MapKept.heap_alloc w3 _).1
    rw [hs3] at this
    exact (one_row this).1
  have rBw : W0.heap[B + 4]? = some (.cells #[.func (.func 84) #[] #[]] 53 (0, 0)) := by
    rw [← hW0]
    have := (MapKept.heap_alloc (w3.alloc (.cells #[.pointer (some ⟨gb, 0, none⟩)] 38)) (.cells #[.func (.func 84) #[] #[]] 53)).1
    simpa [hs3] using this
  have HXW : Hid (Xt w W0) := HX3.out.trans HX3W.out
  have HR1W := Lib.hid (rowX HX3W.out HR1.out)
  have HR2W := Lib.hid (rowX HX3W.out HR2.out)
  have HR3W := Lib.hid (rowX HX3W.out HR3.out)
  try simp only [hs3]
  simp only [hW0]
  clear hW0 hw1 hw2 hw3 hs1 hs2 hs3
  generalize hA0 : Act.mk _ _ = a0
  refine (wpIn_wide (n := 25)).1 ?_
  refine rangeFunc_told (n := 25) (by omega) (gf := 98) (lb := #[.pointer (some ⟨B + 3, 0, none⟩), .pointer (some ⟨B + 4, 0, none⟩)]) (by subst hA0; rfl) (enters_of Tryz.func98 (by kernel_rfl) rfl)
    (some1_told (fun _ => false) 84 #[] (enters_of Tryz.func84 (by kernel_rfl) rfl) (fun _ => true) w.heap.size w rfl (fun _ => True) (fun _ _ _ _ _ => trivial) (fun a W _ => all1_any a W) (25 - 1) (by omega) (B + 3) (B + 4) gb mb M HG.out W0 HXW.out trivial (by omega) HcgW rBw)
    (fun h k => ⟨h.1.trans k.1, h.2.trans k.2⟩) (fun W l o o' hl ho hc hw => ⟨belowK_b (w := W0) (by omega) W l o o' hl ho hc hw, KeepsT.of_grown (grownBy_putObj' W l o') (fun j o2 e h2 => by cases e; rw [ho] at h2; cases h2; cases o <;> simp_all [keptO, Obj.isCells, Obj.isWalk])⟩) (Below.refl _ _) (fun _ => rfl)
    (fun pre W => LV W0 (B + 1 + 1) false W ∧ lowP cols n (pre.map tpT) = false)
    (fun c pre W => c = .ret ∧ LV W0 (B + 1 + 1) true W ∧ lowP cols n (pre.map tpT) = true)
    (fun s X Y row hs hg hr => ⟨hs.1.own (Nat.le_refl _) hg hr, hs.2⟩) (fun c s X Y row hs hg hr => ⟨hs.1, hs.2.1.own (Nat.le_refl _) hg hr, hs.2.2⟩)
    ⟨LV.refl HR3W.out, rfl⟩
    (fun x a' W => ∃ (z : CE) (By nT : Nat), z.1 = copyC x.2.1 ∧ z.2 = x.2.2 ∧ By ≠ B + 1 + 1 ∧ W.heap[By]? = some (.cells #[.int .i64 z.1.kind, .int .i64 z.1.v.kind, .float .f64 z.1.v.x, .string z.1.v.s, .bool z.1.v.b, .int .i64 z.1.v.f, .int .i64 z.1.t.kind, .int .i64 z.1.t.op, .float .f64 z.1.t.x, .string z.1.t.s, .bool z.1.t.b, .int .i64 z.1.t.f, .int .i64 z.1.t.ref.a.1, .int .i64 z.1.t.ref.a.2, .bool z.1.t.ref.cf, .bool z.1.t.ref.rf, .int .i64 z.1.t.to.a.1, .int .i64 z.1.t.to.a.2, .bool z.1.t.to.cf, .bool z.1.t.to.rf, .slice z.2 z.1.t.args.length z.1.t.args.length] 50 (0, 0)) ∧ smallT z.1.t ∧ ArgsIn W nT (.slice z.2 z.1.t.args.length z.1.t.args.length) z.1.t.args ∧ (x.1, x.2.1) ∈ er M ∧
      a' = { tmps := ((a0.tmps.setIfInBounds 12 (adW x.1)).setIfInBounds 13 (ceV z)).setIfInBounds 8 (.pointer (some ⟨By, 0, none⟩)), defers := [] })
    (fun x a' _ X Y row hs hg hr => by
      obtain ⟨z, By, nT, e1, e2, n2, h2, h3, h4, h5⟩ := hs
      exact ⟨z, By, nT, e1, e2, n2, rowCells_own h2 hg (fun r e => (hr r e).2), h3, h4.kept (cellsIn_walk hg (fun r e => (hr r e).2)), h5⟩)
    ?assign ?body ?done ?stop
  case stop =>
    rintro D c pre W hD ⟨i, hS⟩ ⟨rfl, hL, hany⟩ hK
    subst hA0
    have hres : lowP cols n (er M) = true := by
      rw [told_all hS] at hany
      refine any_prefix (l := er (M.take i)) ?_ hany
      unfold er
      rw [List.map_take]
      exact List.take_prefix ..
    obtain ⟨hgr, hrow⟩ := hL
    refine (wpIn_wide (n := 25)).2 ?_
    go_wp2_with fail
    refine ⟨by simp, .inl ⟨_, _, rfl, run_takeDeferred hK, ?_⟩⟩
    have k2' : (W.putObj D (.deferred none)).heap[B + 1 + 1]? = some (.cells #[.bool true] 4 (0, 0)) := (World.putObj_heap_other (by omega)).trans hrow
    exact ⟨_, results_one6 rfl _ _ (B + 1 + 1) (.bool true) rfl (load_bool6 _ _ _ (one_row k2').1), by rw [hres], (HXW.out.grownB hgr (fun q hq => by cases hq; omega)).grownB (grownBy_putObj' W D _) (fun q hq => by cases hq; omega)⟩
  case done =>
    rintro D xs W hD hS ⟨hL, hany⟩ hK
    subst hA0
    rw [told_all hS] at hany
    have hres : lowP cols n (er M) = false := hany
    obtain ⟨hgr, hrow⟩ := hL
    obtain ⟨c3, f3⟩ := one_row hrow
    have HK := Lib.hid hK
    have HGR := Lib.hid hgr
    have HRW := Lib.hid hrow
    have HRES := Lib.hid hres
    clear hgr hK hS hrow hres hany
    go_wp2_with fail
    obtain ⟨W', hW'⟩ : ∃ W', W.setCell ⟨B + 1 + 1, 0, none⟩ (.bool false) = W' := ⟨_, rfl⟩
    have k1 : W'.cell? ⟨B + 1 + 1, 0, none⟩ = some (.bool false) := by rw [← hW']; exact World.cell?_setCell_same _ _ _ c3
    have hKW : W'.heap[D]? = some (.deferred (some [])) := by rw [← hW']; exact (Below.heap_setCell _ _ _ _ (fun e => by simp at e; omega)).trans HK.out
    have hxE : Xt w (W'.putObj D (.deferred none)) := by
      rw [← hW']
      exact ((HXW.out.grownB HGR.out (fun q hq => by cases hq; omega)).grownB (setCell_grown _ _ _ _) (fun q hq => by cases hq; omega)).grownB (grownBy_putObj' _ D _) (fun q hq => by cases hq; omega)
    have k8' : (W'.putObj D (.deferred none)).cell? ⟨B + 1 + 1, 0, none⟩ = some (.bool false) := (World.cell?_of_block (w := W') (a := ⟨B + 1 + 1, 0, none⟩) (World.putObj_heap_other (by show B + 1 + 1 ≠ D; omega))).trans k1
    rw [hW']
    refine ⟨by simp, .inl ⟨_, _, rfl, run_takeDeferred hKW, ?_⟩⟩
    exact ⟨_, results_one6 rfl _ _ (B + 1 + 1) (.bool false) rfl (load_bool6 _ _ _ k8'), by rw [HRES.out], hxE⟩
  case assign =>
    rintro l0 pre x W K ⟨hI, hIA⟩ ⟨V, hIV, ⟨hxV, hsm, nT, hA⟩, hmem⟩ hK
    subst hA0
    obtain ⟨⟨c, d⟩, tc, tp⟩ := x
    obtain ⟨z, hz1, hz2⟩ : ∃ z : CE, z.1 = copyC tc ∧ z.2 = tp := ⟨(copyC tc, tp), rfl, rfl⟩
    have hzv : copyCV tc tp = ceV z := by rw [← ceV_copy]; obtain ⟨z1, z2⟩ := z; simp only at hz1 hz2; rw [hz1, hz2]
    have hzA : smallT z.1.t ∧ ArgsIn W nT (.slice z.2 z.1.t.args.length z.1.t.args.length) z.1.t.args := by
      rw [hz1, hz2]
      refine ⟨smallT_copy _ hsm, ?_⟩
      show ArgsIn _ _ (.slice tp (copyT tc.t).args.length (copyT tc.t).args.length) (copyT tc.t).args
      rw [copyT_len, copyT_args]
      exact hA.args
    have HZ := Lib.hid (show z.1 = copyC tc ∧ z.2 = tp from ⟨hz1, hz2⟩)
    have HZA := Lib.hid hzA
    have HIA := Lib.hid hIA
    simp only [teV, hzv]
    clear hz1 hz2 hzv hzA hA hsm hIV hxV hIA
    have hWs : B + 5 ≤ W.heap.size := by have := hI.grown.size; omega
    obtain ⟨wZ, wR, hwZ, hwR, hrZ, hrR, hxR, hsR, hxZ, hsZ⟩ := boxR W z
    have HXR := Lib.hid hxR
    have HRZ := Lib.hid hrZ
    have HRR := Lib.hid hrR
    have HWR := Lib.hid hwR
    have HWs := Lib.hid hWs
    clear hrZ hwR hrR hxZ hxR hWs
    gi_wp2_with (first | (refine wpListIn_store_row (P := Tryz.prog) rfl 50 _ _ rfl W.heap.size #[.int .i64 z.1.kind, .int .i64 z.1.v.kind, .float .f64 z.1.v.x, .string z.1.v.s, .bool z.1.v.b, .int .i64 z.1.v.f, .int .i64 z.1.t.kind, .int .i64 z.1.t.op, .float .f64 z.1.t.x, .string z.1.t.s, .bool z.1.t.b, .int .i64 z.1.t.f, .int .i64 z.1.t.ref.a.1, .int .i64 z.1.t.ref.a.2, .bool z.1.t.ref.cf, .bool z.1.t.ref.rf, .int .i64 z.1.t.to.a.1, .int .i64 z.1.t.to.a.2, .bool z.1.t.to.cf, .bool z.1.t.to.rf, .slice z.2 z.1.t.args.length z.1.t.args.length] rfl rfl 50 _ HRZ.out (by kernel_rfl) rfl (by simp [Value.oneCell']) ?_; rw [HWR.out]))
    have hx := HXR.out
    have hWs := HWs.out
    refine hK _ _ (keepsFrom_xt hx _) ⟨hx.mono (by omega), KeepsT.of_xt hx⟩ ⟨⟨grownBy_far hI.grown hx.grownN (fun r e => by cases e), rowX hx hI.row⟩, HIA.out⟩ ?_
    refine ⟨z, W.heap.size, nT, HZ.out.1, HZ.out.2, by omega, HRR.out, HZA.out.1, HZA.out.2.xt hx, hmem, ?_⟩
    simp only [List.setIfInBounds_toArray, List.set_cons_zero, List.set_cons_succ]
  case body =>
    rintro l0 pre x a' W hl0 ⟨r, hr⟩ ⟨hI, hIA⟩ ⟨z, By, nT, hz1, hz2, nBy, hBy, hzs, hzA, hmem, rfl⟩ hlt
    subst hA0
    obtain ⟨⟨c, d⟩, tc, tp⟩ := x
    simp only at hz1 hz2
    have HLT : Hid (lowT cols n (copyT z.1.t) = lowT cols n tc.t) := by
      unfold Hid; rw [hz1, lowT_copy]; exact lowT_copy cols n tc.t
    have HIA : Hid (lowP cols n (pre.map tpT) = false) := hIA
    have HBY := Lib.hid hBy
    have HI := Lib.hid hI
    have HLR := Lib.hid hr
    have HC := Lib.hid (nodes22_any nT z.1.t z.2 z.1.t.args.length W hzs hzA)
    have hff : Fence.wide.fn 55 := trivial
    have hWs : B + 5 ≤ W.heap.size := by have := hI.grown.size; omega
    clear hr hI hIA hBy hz1 hz2 hzs hzA hlt hmem
    simp only [List.setIfInBounds_toArray, List.set_cons_zero, List.set_cons_succ]
    gi_wp2_with (first
      | (refine wpListIn_load_mid (P := Tryz.prog) rfl 29 _ rfl By 6 rfl [.int .i64 z.1.t.kind, .int .i64 z.1.t.op, .float .f64 z.1.t.x, .string z.1.t.s, .bool z.1.t.b, .int .i64 z.1.t.f, .int .i64 z.1.t.ref.a.1, .int .i64 z.1.t.ref.a.2, .bool z.1.t.ref.cf, .bool z.1.t.ref.rf, .int .i64 z.1.t.to.a.1, .int .i64 z.1.t.to.a.2, .bool z.1.t.to.cf, .bool z.1.t.to.rf, .slice z.2 z.1.t.args.length z.1.t.args.length] _ (row_mid6 HBY.out) Tryz.underlying29 rfl (by kernel_rfl) ?_)
      | (gi_at_call 55; refine (callsIn_round HC.out).mono ?_; rintro e W1 ⟨b, a', dd, rfl, hb, hr, hO, hx⟩; have HR := Lib.hid hr; have HO := Lib.hid hO; have HX := Lib.hid hx; clear hr hO hx))
    obtain ⟨tt, htt⟩ : ∃ tt, copyT z.1.t = tt := ⟨_, rfl⟩
    rw [htt] at HR HO HLT
    have hl1 : W1.heap[l0]? = some (.loop r) := (HX.out.block l0 (Array.getElem?_eq_some_iff.1 HLR.out).1).trans HLR.out
    have HI1 : Hid (LV W0 (B + 1 + 1) false W1) := ⟨grownBy_far HI.out.grown HX.out.grownN (fun r e => by cases e), rowX HX.out HI.out.row⟩
    have hW1s := HX.out.size
    have hb1 : B + 5 ≤ W1.heap.size := by omega
    clear htt
    generalize hA1 : Act.mk _ _ = a1
    refine wpIn_rangeFunc_ownN (l₀ := l0) (r₀ := r) rfl hl1 (by omega) (gf := 85) (lb := #[.pointer (some ⟨b, 0, none⟩)]) (by subst hA1; rfl) trivial (enters_of Tryz.func85 (by kernel_rfl) rfl)
      (SeqStopsK.inRound l0 (nodes1_stops (25 - 1 - 1 - 1) b tt a' tt.args.length dd _ W1 HR.out HO.out)) (fun h k => h.trans k) (fun W l o o' hl ho hc hw => KN.putObj o' ho hc) (Below.refl _ _) (fun _ => rfl)
      (fun pre W => LV W1 (B + 1 + 1) false W ∧ lowL cols n pre = false)
      (fun c pre W => c = .ret ∧ LV W1 (B + 1 + 1) true W ∧ lowL cols n pre = true)
      (fun s X Y row hs hg hr => ⟨hs.1.own (Nat.le_refl _) hg hr, hs.2⟩) (fun c s X Y row hs hg hr => ⟨hs.1, hs.2.1.own (Nat.le_refl _) hg hr, hs.2.2⟩)
      ⟨LV.refl HI1.out.row, rfl⟩
      (fun x a' W => ∃ Bx, Bx ≠ B + 1 + 1 ∧ W.heap[Bx]? = some (.cells #[.int .i64 x.kind, .int .i64 x.op, .float .f64 x.x, .string x.s, .bool x.b, .int .i64 x.f, .int .i64 x.ref.a.1, .int .i64 x.ref.a.2, .bool x.ref.cf, .bool x.ref.rf, .int .i64 x.to.a.1, .int .i64 x.to.a.2, .bool x.to.cf, .bool x.to.rf, .slice none 0 0] 29 (0, 0)) ∧ a' = { tmps := (a1.tmps.setIfInBounds 17 (nodeV x none 0 0)).setIfInBounds 9 (.pointer (some ⟨Bx, 0, none⟩)), defers := [] })
      (fun x a' _ X Y row hs hg hr => let ⟨Bx, n1, h1, h2⟩ := hs; ⟨Bx, n1, rowCells_own h1 hg (fun r e => (hr r e).2), h2⟩)
      ?assign2 ?body2 ?done2 ?stop2
    case stop2 =>
      rintro c' p2 Wd hSp ⟨rfl, hL, hany⟩
      subst hA1
      have hg : W.grownBy Wd (some (B + 1 + 1)) := grownBy_two (HX.out.grown (some (B + 1 + 1))) hL.grown
      have hall := any_prefix hSp hany
      have HALL : Hid (lowT cols n tc.t = true) := by unfold Hid; rw [← HLT.out]; exact hall
      have HL := Lib.hid hL
      have HG2 := Lib.hid hg
      clear hL hg hall hany hSp
      gi_wp2_with fail
      refine ⟨KeepsFrom.of_grownBy HG2.out (fun j e => by cases e; omega), rfl, ⟨grownBy_two HI1.out.grown HL.out.grown, HL.out.row⟩, ?_⟩
      rw [List.map_append, List.map_cons, List.map_nil, lowP_snoc, show (tpT ((c, d), tc, tp)).2.t = tc.t from rfl, HALL.out, Bool.or_true]
    case done2 =>
      rintro xs Wd rfl ⟨hL, hany⟩
      subst hA1
      have hg : W.grownBy Wd (some (B + 1 + 1)) := grownBy_two (HX.out.grown (some (B + 1 + 1))) hL.grown
      have HALL : Hid (lowT cols n tc.t = false) := by unfold Hid; rw [← HLT.out]; exact hany
      have HL := Lib.hid hL
      have HG2 := Lib.hid hg
      clear hL hg hany
      gi_wp2_with fail
      have hg := HG2.out
      have hrow := HI.out.row
      refine ⟨KeepsFrom.of_grownBy hg (fun j e => by cases e; omega), ⟨⟨hg.os, hg.tape, hg.output, hg.size, fun k hk => hg.block k (by omega) (fun e => by have := Option.some.inj e; omega)⟩, KeepsT.of_grown hg (fun j o e ho => by cases e; rw [hrow] at ho; cases ho; rfl)⟩, ⟨grownBy_two HI1.out.grown HL.out.grown, HL.out.row⟩, ?_⟩
      rw [List.map_append, List.map_cons, List.map_nil, lowP_snoc, show (tpT ((c, d), tc, tp)).2.t = tc.t from rfl, HALL.out, HIA.out]; rfl
    case assign2 =>
      rintro l2 pre2 x W K ⟨hI2, hIA2⟩ hK
      subst hA1
      obtain ⟨wZ, hwZ⟩ : ∃ wZ, W.alloc (.cells #[.int .i64 0, .int .i64 0, .float .f64 0, .string ⟨#[]⟩, .bool false, .int .i64 0, .int .i64 0, .int .i64 0, .bool false, .bool false, .int .i64 0, .int .i64 0, .bool false, .bool false, .slice none 0 0] 29) = wZ := ⟨_, rfl⟩
      have hrZ : wZ.heap[W.heap.size]? = some (.cells #[.int .i64 0, .int .i64 0, .float .f64 0, .string ⟨#[]⟩, .bool false, .int .i64 0, .int .i64 0, .int .i64 0, .bool false, .bool false, .int .i64 0, .int .i64 0, .bool false, .bool false, .slice none 0 0] 29 (0, 0)) := by rw [← hwZ]; exact (MapKept.heap_alloc W _).1
      obtain ⟨wA, hwA⟩ : ∃ wA, wZ.setRow W.heap.size #[.int .i64 x.kind, .int .i64 x.op, .float .f64 x.x, .string x.s, .bool x.b, .int .i64 x.f, .int .i64 x.ref.a.1, .int .i64 x.ref.a.2, .bool x.ref.cf, .bool x.ref.rf, .int .i64 x.to.a.1, .int .i64 x.to.a.2, .bool x.to.cf, .bool x.to.rf, .slice none 0 0] = wA := ⟨_, rfl⟩
      have hx : Xt W wA := by rw [← hwA, ← hwZ]; exact ((Xt.refl W).alloc _).grownB (setRow_grown _ _ _) (fun m hm => by cases hm; exact Nat.le_refl _)
      have hrA : wA.heap[W.heap.size]? = some (.cells #[.int .i64 x.kind, .int .i64 x.op, .float .f64 x.x, .string x.s, .bool x.b, .int .i64 x.f, .int .i64 x.ref.a.1, .int .i64 x.ref.a.2, .bool x.ref.cf, .bool x.ref.rf, .int .i64 x.to.a.1, .int .i64 x.to.a.2, .bool x.to.cf, .bool x.to.rf, .slice none 0 0] 29 (0, 0)) := by rw [← hwA]; exact setRow_heap _ _ _ _ _ _ hrZ
      have HRZ := Lib.hid hrZ
      have HWA := Lib.hid hwA
      have HX2 := Lib.hid hx
      have HRA := Lib.hid hrA
      have HI2 := Lib.hid hI2
      have HIA2 := Lib.hid hIA2
      have hWs2 : B + 1 + 1 < W.heap.size := (Array.getElem?_eq_some_iff.1 hI2.row).1
      clear hwA hrZ hx hrA hI2 hIA2
      gi_wp2_with (first | (refine wpListIn_store_row (P := Tryz.prog) rfl 29 _ _ rfl W.heap.size #[.int .i64 x.kind, .int .i64 x.op, .float .f64 x.x, .string x.s, .bool x.b, .int .i64 x.f, .int .i64 x.ref.a.1, .int .i64 x.ref.a.2, .bool x.ref.cf, .bool x.ref.rf, .int .i64 x.to.a.1, .int .i64 x.to.a.2, .bool x.to.cf, .bool x.to.rf, .slice none 0 0] rfl rfl 29 _ HRZ.out (by kernel_rfl) rfl (by simp [Value.oneCell']) ?_; rw [HWA.out]))
      have hx := HX2.out
      refine hK _ _ (keepsFrom_xt hx _) (KN.of_xt hx) ⟨⟨grownBy_far HI2.out.grown hx.grownN (fun r e => by cases e), rowX hx HI2.out.row⟩, HIA2.out⟩ ?_
      refine ⟨W.heap.size, by omega, HRA.out, ?_⟩
      simp only [List.setIfInBounds_toArray, List.set_cons_zero, List.set_cons_succ]
    case body2 =>
      rintro l2 pre2 x a2 W hl2 ⟨r2, hr2⟩ ⟨hI2, hIA2⟩ ⟨Bx, nBx, hBx, rfl⟩ hlt2
      subst hA1
      have HI2 := Lib.hid hI2
      have HIA2 := Lib.hid hIA2
      have hX0 : Hid (W0.grownBy W (some (B + 1 + 1))) := grownBy_two HI1.out.grown hI2.grown
      have rB := (hX0.out.block B (by omega) (fun e => by have := Option.some.inj e; omega)).trans HR1W.out
      have rB1 := (hX0.out.block (B + 1) (by omega) (fun e => by have := Option.some.inj e; omega)).trans HR2W.out
      obtain ⟨c1, _⟩ := one_row rB
      obtain ⟨c2, _⟩ := one_row rB1
      obtain ⟨c3, f3⟩ := one_row hI2.row
      have kx : W.cell? ⟨Bx, 0, none⟩ = some (.int .i64 x.kind) := by simp [World.cell?, hBx]
      have ky : W.cell? ⟨Bx, 10, none⟩ = some (.int .i64 x.to.a.1) := by simp [World.cell?, hBx]
      have kz : W.cell? ⟨Bx, 11, none⟩ = some (.int .i64 x.to.a.2) := by simp [World.cell?, hBx]
      have w1 : IntKind.i64.wrap (256 - n) = 256 - n := by rw [IntKind.wrap_i64]; omega
      have w2 : IntKind.i64.wrap (4096 - n) = 4096 - n := by rw [IntKind.wrap_i64]; omega
      obtain ⟨v, hv⟩ : ∃ v, lowN cols n x = v := ⟨_, rfl⟩
      have HV := Lib.hid hv
      unfold lowN at hv
      have hW1g : B + 1 + 1 < W1.heap.size := by omega
      clear hr2 hI2 hIA2 hBx hlt2 rB rB1
      simp only [List.setIfInBounds_toArray, List.set_cons_zero, List.set_cons_succ]
      have HN2 : Hid (v = false → KeepsFrom W1.heap.size W W ∧ KN W W ∧ LV W1 (B + 1 + 1) false W ∧ lowL cols n (pre2 ++ [x]) = false) := Lib.hid fun e => ⟨keepsFrom_xt (Xt.refl _) _, KN.refl _, HI2.out, by rw [lowL_snoc, HIA2.out, HV.out, e]; rfl⟩
      have HY2 : Hid (v = true → KeepsFrom W1.heap.size W (W.setCell ⟨B + 1 + 1, 0, none⟩ (.bool true)) ∧ LV W1 (B + 1 + 1) true (W.setCell ⟨B + 1 + 1, 0, none⟩ (.bool true)) ∧ lowL cols n (pre2 ++ [x]) = true) := Lib.hid fun e => by
        have hgs : W.grownBy (W.setCell ⟨B + 1 + 1, 0, none⟩ (.bool true)) (some (B + 1 + 1)) := setCell_grown _ _ _ _
        refine ⟨KeepsFrom.of_grownBy hgs (fun j e => by cases e; omega), ⟨grownBy_two HI2.out.grown hgs, setCell_row HI2.out.row 0 _⟩, ?_⟩
        rw [lowL_snoc, HV.out, e, Bool.or_true]
      by_cases hk : x.kind = 6
      · rw [hk] at kx
        cases cols
        · by_cases hb : 4096 - n < x.to.a.2
          · have he : v = true := by rw [← hv]; simp [hk, hb]
            clear hv hk
            gi_wp2_with fail
            all_goals first | (rename_i h1 h2; exact absurd (Option.some.inj h1) (by unfold undef; intro e; cases e)) | exact ⟨(HY2.out he).1, rfl, (HY2.out he).2⟩
          · have he : v = false := by rw [← hv]; simp [hk, hb]
            clear hv hk
            gi_wp2_with fail
            all_goals first | (rename_i h1 h2; exact absurd (Option.some.inj h1) (by unfold undef; intro e; cases e)) | exact HN2.out he
        · by_cases hb : 256 - n < x.to.a.1
          · have he : v = true := by rw [← hv]; simp [hk, hb]
            clear hv hk
            gi_wp2_with fail
            all_goals first | (rename_i h1 h2; exact absurd (Option.some.inj h1) (by unfold undef; intro e; cases e)) | exact ⟨(HY2.out he).1, rfl, (HY2.out he).2⟩
          · have he : v = false := by rw [← hv]; simp [hk, hb]
            clear hv hk
            gi_wp2_with fail
            all_goals first | (rename_i h1 h2; exact absurd (Option.some.inj h1) (by unfold undef; intro e; cases e)) | exact HN2.out he
      · have he : v = false := by rw [← hv]; simp [hk]
        clear hv
        gi_wp2_with fail
        all_goals first | (rename_i h1 h2; exact absurd (Option.some.inj h1) (by unfold undef; intro e; cases e)) | exact HN2.out he
end Go.Proofs.YtlgkaipgdhcajaaGreatDoor
/- move, plain: lines there and back, twice and at once; what is lost. -/
namespace Go.Proofs.YtlgkaipgdhcajaaGreatDoor
open Go.RowKit Go.Sort

/-! ### lines and spans -/
theorem spanZ_eq {k n m a b : Int} : spanZ k n m a b = if loZ k n a ≤ hiZ k n m b then ((if loZ k n a < k then loZ k n a else loZ k n a + n), (if hiZ k n m b < k then hiZ k n m b else hiZ k n m b + n), true) else (0, 0, false) := by
  unfold spanZ
  rw [lineZ_val, lineZ_val]
theorem line_back {k p m z : Int} (hp : 0 < p) (_hz : z ≤ m) : lineZ k (-p) m (lineZ k p m z).1 = (z, true) := by
  rw [lineZ_val]
  unfold lineZ
  by_cases h : z < k
  · rw [if_pos h, if_pos h]
  · rw [if_neg h, if_neg (by omega), if_neg (by omega)]
    exact Prod.ext (by simp only; omega) (decide_eq_true (by omega))
theorem line_add {k p q m z : Int} (hp : 0 < p) (hq : 0 < q) (_ho : (lineZ k p m z).2 = true) : lineZ k q m (lineZ k p m z).1 = lineZ k (p + q) m z := by
  rw [lineZ_val]
  unfold lineZ
  by_cases h : z < k
  · rw [if_pos h, if_pos h, if_pos h]
  · rw [if_neg h, if_neg (by omega), if_pos (by omega), if_neg h, if_pos (by omega), Int.add_assoc]
theorem line_sub {k p q m z : Int} (hp : 0 < p) (hq : 0 < q) : (lineZ k (-p) m z).2 = true → lineZ k (-q) m (lineZ k (-p) m z).1 = lineZ k (-p - q) m z := by
  intro ho
  rw [lineZ_bool] at ho
  rw [lineZ_val]
  unfold lineZ
  by_cases h : z < k
  · rw [if_pos h, if_pos h, if_pos h]
  · rw [if_neg h, if_neg (by omega), if_neg (by omega), if_neg h, if_neg (by omega)]
    exact Prod.ext (by simp only; omega) (decide_eq_decide.2 (by omega))
theorem line_sub_no {k p q m z : Int} (hp : 0 < p) (hq : 0 < q) (ho : ¬ (lineZ k (-p) m z).2 = true) : ¬ (lineZ k (-p - q) m z).2 = true := by
  rw [lineZ_bool] at *
  omega
theorem line_ok_add {k p q m z : Int} (hp : 0 < p) (hq : 0 < q) (ho : (lineZ k (p + q) m z).2 = true) : (lineZ k p m z).2 = true := by
  rw [lineZ_bool] at *
  omega
theorem span_ins {k p m a b : Int} (hp : 0 < p) (hab : a ≤ b) (hb : b ≤ m - p) : spanZ k p m a b = ((if a < k then a else a + p), (if b < k then b else b + p), true) := by
  have h1 : loZ k p a = a := by unfold loZ; rw [if_pos (by omega)]
  have h2 : hiZ k p m b = b := by unfold hiZ; rw [if_pos (by omega)]; split <;> (try split) <;> omega
  rw [spanZ_eq, h1, h2, if_pos hab]
theorem span_back {k p m a b : Int} (hp : 0 < p) (hab : a ≤ b) (hb : b ≤ m - p) : spanZ k (-p) m (spanZ k p m a b).1 (spanZ k p m a b).2.1 = (a, b, true) := by
  rw [span_ins hp hab hb]
  simp only
  have h1 : loZ k (-p) (if a < k then a else a + p) = if a < k then a else a + p := by
    unfold loZ
    rw [if_neg (by omega)]
    by_cases h : a < k
    · simp only [h, if_true]
    · simp only [h, if_false]; rw [if_neg (by omega), if_neg (by omega)]
  have h2 : hiZ k (-p) m (if b < k then b else b + p) = if b < k then b else b + p := by
    unfold hiZ
    rw [if_neg (by omega)]
    by_cases h : b < k
    · simp only [h, if_true]; rw [if_neg (by omega)]
    · simp only [h, if_false]; rw [if_pos (by omega)]
  rw [spanZ_eq, h1, h2]
  have e1 : (if (if a < k then a else a + p) < k then (if a < k then a else a + p) else (if a < k then a else a + p) + -p) = a := by split <;> split at * <;> omega
  have e2 : (if (if b < k then b else b + p) < k then (if b < k then b else b + p) else (if b < k then b else b + p) + -p) = b := by split <;> split at * <;> omega
  rw [if_pos (by split <;> split <;> omega), e1, e2]
theorem span_add {k p q m a b : Int} (hp : 0 < p) (hq : 0 < q) (hab : a ≤ b) (hb : b ≤ m - (p + q)) : spanZ k q m (spanZ k p m a b).1 (spanZ k p m a b).2.1 = spanZ k (p + q) m a b := by
  rw [span_ins hp hab (by omega), span_ins (p := p + q) (by omega) hab hb]
  simp only
  rw [span_ins hq (by split <;> split <;> omega) (by split <;> omega)]
  refine Prod.ext ?_ (Prod.ext ?_ rfl)
  · by_cases h : a < k
    · simp only [h, if_true]
    · simp only [h, if_false]; rw [if_neg (by omega)]; omega
  · by_cases h : b < k
    · simp only [h, if_true]
    · simp only [h, if_false]; rw [if_neg (by omega)]; omega
/-! ### taken out -/
def dLo (k p a : Int) : Int := if a < k then a else if a < k + p then k else a - p
def dHi (k p b : Int) : Int := if k + p ≤ b then b - p else if b < k then b else k - 1
theorem loZ_del {k p a : Int} (hp : 0 < p) : loZ k (-p) a = if a < k then a else if a < k + p then k + p else a := by
  unfold loZ
  rw [if_neg (by omega), show k - -p = k + p by omega]
theorem hiZ_del {k p m b : Int} (hp : 0 < p) : hiZ k (-p) m b = if k + p ≤ b then b else if b < k then b else k - 1 := by
  unfold hiZ
  rw [if_neg (by omega), show k - -p = k + p by omega]
theorem dLo_line {k p a : Int} (hp : 0 < p) : (if loZ k (-p) a < k then loZ k (-p) a else loZ k (-p) a + -p) = dLo k p a := by
  rw [loZ_del hp]
  unfold dLo
  by_cases h1 : a < k
  · simp only [h1, if_true]
  · by_cases h2 : a < k + p
    · simp only [h1, h2, if_true, if_false]; rw [if_neg (by omega)]; omega
    · simp only [h1, h2, if_false]; omega
theorem dHi_line {k p m b : Int} (hp : 0 < p) : (if hiZ k (-p) m b < k then hiZ k (-p) m b else hiZ k (-p) m b + -p) = dHi k p b := by
  rw [hiZ_del hp]
  unfold dHi
  by_cases h1 : k + p ≤ b
  · simp only [h1, if_true]; rw [if_neg (by omega)]; omega
  · by_cases h2 : b < k
    · simp only [h1, h2, if_true, if_false]
    · simp only [h1, h2, if_false]; rw [if_pos (by omega)]
theorem del_le {k p m a b : Int} (hp : 0 < p) : loZ k (-p) a ≤ hiZ k (-p) m b ↔ dLo k p a ≤ dHi k p b := by
  rw [loZ_del hp, hiZ_del hp]
  unfold dLo dHi
  by_cases h1 : a < k <;> by_cases h2 : a < k + p <;> by_cases h3 : k + p ≤ b <;> by_cases h4 : b < k <;> simp only [h1, h2, h3, h4, if_true, if_false] <;> first | omega | (constructor <;> intro h <;> first | omega | trivial) | (simp only [true_iff, iff_true, false_iff, iff_false]; omega)
theorem spanZ_del {k p m a b : Int} (hp : 0 < p) : spanZ k (-p) m a b = if dLo k p a ≤ dHi k p b then (dLo k p a, dHi k p b, true) else (0, 0, false) := by
  rw [spanZ_eq, dLo_line hp, dHi_line hp]
  by_cases h : dLo k p a ≤ dHi k p b
  · rw [if_pos h, if_pos ((del_le hp).2 h)]
  · rw [if_neg h, if_neg (fun e => h ((del_le hp).1 e))]
theorem dLo_two {k p q a : Int} (_hp : 0 < p) (hq : 0 < q) : dLo k q (dLo k p a) = dLo k (p + q) a := by
  unfold dLo
  by_cases h1 : a < k
  · simp only [h1, if_true]
  · by_cases h2 : a < k + p
    · simp only [h1, h2, if_true, if_false]; rw [if_neg (by omega), if_pos (by omega), if_pos (by omega)]
    · by_cases h3 : a < k + (p + q)
      · simp only [h1, h2, h3, if_true, if_false]; rw [if_neg (by omega), if_pos (by omega)]
      · simp only [h1, h2, h3, if_false]; rw [if_neg (by omega), if_neg (by omega)]; omega
theorem dHi_two {k p q b : Int} (hp : 0 < p) (hq : 0 < q) : dHi k q (dHi k p b) = dHi k (p + q) b := by
  unfold dHi
  by_cases h1 : k + p ≤ b
  · by_cases h2 : k + (p + q) ≤ b
    · simp only [h1, h2, if_true]; rw [if_pos (by omega)]; omega
    · simp only [h1, h2, if_true, if_false]; rw [if_neg (by omega), if_neg (by omega), if_neg (by omega)]
  · by_cases h2 : b < k
    · simp only [h1, h2, if_true, if_false]; rw [if_neg (by omega), if_neg (by omega)]
    · simp only [h1, h2, if_false]; rw [if_neg (by omega), if_pos (by omega), if_neg (by omega)]
theorem span_sub {k p q m a b : Int} (hp : 0 < p) (hq : 0 < q) (ho : (spanZ k (-p) m a b).2.2 = true) : spanZ k (-q) m (spanZ k (-p) m a b).1 (spanZ k (-p) m a b).2.1 = spanZ k (-p - q) m a b := by
  have e : -p - q = -(p + q) := by omega
  rw [spanZ_del hp] at ho ⊢
  by_cases h : dLo k p a ≤ dHi k p b
  · rw [if_pos h, e, spanZ_del hq, spanZ_del (p := p + q) (by omega)]
    simp only
    rw [dLo_two hp hq, dHi_two hp hq]
  · rw [if_neg h] at ho; cases ho
theorem span_sub_no {k p q m a b : Int} (hp : 0 < p) (hq : 0 < q) (_hab : a ≤ b) (ho : ¬ (spanZ k (-p) m a b).2.2 = true) : ¬ (spanZ k (-p - q) m a b).2.2 = true := by
  have e : -p - q = -(p + q) := by omega
  rw [spanZ_del hp] at ho
  have h : ¬ dLo k p a ≤ dHi k p b := fun h => ho (by rw [if_pos h])
  rw [e, spanZ_del (p := p + q) (by omega)]
  have h2 : ¬ dLo k (p + q) a ≤ dHi k (p + q) b := by
    rw [← dLo_two hp hq, ← dHi_two hp hq]
    revert h
    generalize dLo k p a = x
    generalize dHi k p b = y
    unfold dLo dHi
    intro h
    by_cases h1 : x < k <;> by_cases h2 : x < k + q <;> by_cases h3 : k + q ≤ y <;> by_cases h4 : y < k <;> simp only [h1, h2, h3, h4, if_true, if_false] <;> omega
  rw [if_neg h2]
  decide
end Go.Proofs.YtlgkaipgdhcajaaGreatDoor
/- move, plain: formulas and grids there and back, twice and at once. -/
namespace Go.Proofs.YtlgkaipgdhcajaaGreatDoor
open Go.RowKit Go.Sort

/-! ### a formula's nodes -/
theorem turnH_else {cG : Ad → Ad × Bool} {aG : ArT → ArT × Bool} {k o : Int} {x : Nat} {s : ByteArray} {b : Bool} {f : Int} {r q : RefT} {l : List NodeT} (h5 : k ≠ 5) (h6 : k ≠ 6) : turnH cG aG (.mk k o x s b f r q l) = .mk k o x s b f r q l := by
  rw [turnH, if_neg h5, if_neg h6]
theorem turn_leaf {cG : Ad → Ad × Bool} {aG : ArT → ArT × Bool} {t : NodeT} (h : t.args = []) : turnT cG aG t = turnH cG aG t := by
  obtain ⟨k, o, x, s, b, f, r, q, l⟩ := t
  have h : l = [] := h
  subst h
  rw [turnT, turnL]
theorem turnH_noargs {cG : Ad → Ad × Bool} {aG : ArT → ArT × Bool} {t : NodeT} (h : t.args = []) : (turnH cG aG t).args = [] := by
  rcases turnH_form cG aG t with e | ⟨r, q, e⟩
  · rw [e]; rfl
  · rw [e]; exact h
def okN (x : NodeT) : Prop := (x.kind = 5 → validB x.ref.a.1 x.ref.a.2 = true) ∧ (x.kind = 6 → vA (arOf x.ref x.to) = true)
/-- What a valid node's kind says: a cell's or an area's has no parts; another one's parts are valid. -/
theorem fault_cases {k o : Int} {x : Nat} {s : ByteArray} {b : Bool} {f : Int} {r q : RefT} {l : List NodeT} {ins : Bool} (h : faultT (.mk k o x s b f r q l) ins = 0) :
    ((k = 5 ∨ k = 6) ∧ l = [] ∧ okN (.mk k o x s b f r q [])) ∨ (k ≠ 5 ∧ k ≠ 6 ∧ faultL l (k == 9) = 0) := by
  rw [faultT] at h
  by_cases hm : madeB (.mk k o x s b f r q l) = true
  · rw [if_pos hm] at h
    by_cases h5 : k = 5
    · subst h5
      rw [if_pos (by rfl)] at h
      obtain ⟨rfl, _⟩ := made_ref (r' := r) hm
      refine Or.inl ⟨Or.inl rfl, rfl, fun _ => ?_, fun e => absurd (show (5 : Int) = 6 from e) (by decide)⟩
      show validB r.a.1 r.a.2 = true
      by_cases hv : validB r.a.1 r.a.2 = true
      · exact hv
      · rw [if_neg hv] at h; omega
    · rw [if_neg (by simpa using h5)] at h
      by_cases h6 : k = 6
      · subst h6
        rw [if_pos (by rfl)] at h
        obtain ⟨rfl, _⟩ := made_area (r' := r) (q' := q) hm
        refine Or.inl ⟨Or.inr rfl, rfl, fun e => absurd (show (6 : Int) = 5 from e) (by decide), fun _ => ?_⟩
        show (validB r.a.1 r.a.2 && validB q.a.1 q.a.2 && decide (r.a.1 ≤ q.a.1) && decide (r.a.2 ≤ q.a.2)) = true
        by_cases hv : (validB r.a.1 r.a.2 && validB q.a.1 q.a.2 && decide (r.a.1 ≤ q.a.1) && decide (r.a.2 ≤ q.a.2)) = true
        · exact hv
        · rw [if_neg hv] at h; omega
      · rw [if_neg (by simpa using h6)] at h
        refine Or.inr ⟨h5, h6, ?_⟩
        split at h
        · split at h
          · split at h
            · omega
            · split at h
              · omega
              · exact h
          · omega
        · exact h
  · rw [if_neg hm] at h; omega
theorem faultL_cons {t : NodeT} {l : List NodeT} {c : Bool} (h : faultL (t :: l) c = 0) : faultT t c = 0 ∧ faultL l c = 0 := by
  rw [faultL] at h
  split at h
  · rename_i e; exact ⟨e, h⟩
  · rename_i e; exact absurd h e
mutual
theorem flat_okN : ∀ (t : NodeT) (ins : Bool), faultT t ins = 0 → ∀ x ∈ flatT t, okN x
  | .mk k o x s b f r q l, ins, h => by
    rw [flatT]
    rcases fault_cases h with ⟨_, rfl, hk⟩ | ⟨h5, h6, hL⟩
    · intro y hy
      rw [flatL] at hy
      rw [List.mem_singleton.1 hy]; exact hk
    · intro y hy
      rcases List.mem_cons.1 hy with e | hy
      · rw [e]; exact ⟨fun e => absurd e h5, fun e => absurd e h6⟩
      · exact flatL_okN l _ hL y hy
theorem flatL_okN : ∀ (l : List NodeT) (c : Bool), faultL l c = 0 → ∀ x ∈ flatL l, okN x
  | [], _, _ => fun x hx => by rw [flatL] at hx; cases hx
  | t :: l, c, h => fun x hx => by
    obtain ⟨h1, h2⟩ := faultL_cons h
    rw [flatL] at hx
    rcases List.mem_append.1 hx with hx | hx
    · exact flat_okN t c h1 x hx
    · exact flatL_okN l c h2 x hx
end
mutual
theorem turn_comp {cG1 cG2 cG3 : Ad → Ad × Bool} {aG1 aG2 aG3 : ArT → ArT × Bool} : ∀ (t : NodeT) (ins : Bool), faultT t ins = 0 → (∀ x ∈ flatT t, x.kind = 5 ∨ x.kind = 6 → turnH cG2 aG2 (turnH cG1 aG1 x) = turnH cG3 aG3 x) → turnT cG2 aG2 (turnT cG1 aG1 t) = turnT cG3 aG3 t
  | .mk k o x s b f r q l, ins, h, H => by
    rcases fault_cases h with ⟨hk, rfl, _⟩ | ⟨h5, h6, hL⟩
    · have := H (.mk k o x s b f r q []) (by rw [flatT]; exact List.mem_cons_self) hk
      rw [turn_leaf (t := .mk k o x s b f r q []) rfl, turn_leaf (turnH_noargs rfl), turn_leaf (t := .mk k o x s b f r q []) rfl]
      exact this
    · rw [turnT, turnH_else h5 h6, turnT, turnH_else h5 h6, turnT, turnH_else h5 h6, turnL_comp l _ hL (fun y hy => H y (by rw [flatT]; exact List.mem_cons_of_mem _ hy))]
theorem turnL_comp {cG1 cG2 cG3 : Ad → Ad × Bool} {aG1 aG2 aG3 : ArT → ArT × Bool} : ∀ (l : List NodeT) (c : Bool), faultL l c = 0 → (∀ x ∈ flatL l, x.kind = 5 ∨ x.kind = 6 → turnH cG2 aG2 (turnH cG1 aG1 x) = turnH cG3 aG3 x) → turnL cG2 aG2 (turnL cG1 aG1 l) = turnL cG3 aG3 l
  | [], _, _, _ => rfl
  | t :: l, c, h, H => by
    obtain ⟨h1, h2⟩ := faultL_cons h
    rw [turnL, turnL, turnL, turn_comp t c h1 (fun y hy => H y (by rw [flatL]; exact List.mem_append_left _ hy)), turnL_comp l c h2 (fun y hy => H y (by rw [flatL]; exact List.mem_append_right _ hy))]
end
abbrev cI : Ad → Ad × Bool := fun a => (a, true)
abbrev aI : ArT → ArT × Bool := fun x => (x, true)
theorem turnH_id (t : NodeT) : turnH cI aI t = t := by
  obtain ⟨k, o, x, s, b, f, r, q, l⟩ := t
  rw [turnH]
  split
  · rfl
  · split
    · rfl
    · rfl
mutual
theorem turn_id : ∀ t : NodeT, turnT cI aI t = t
  | .mk k o x s b f r q l => by rw [turnT, turnL_id l, turnH_id]
theorem turnL_id : ∀ l : List NodeT, turnL cI aI l = l
  | [] => rfl
  | t :: l => by rw [turnL, turn_id t, turnL_id l]
end
/-! ### what is lost -/
def lostH (cG : Ad → Ad × Bool) (aG : ArT → ArT × Bool) (x : NodeT) : Bool := (decide (x.kind = 5) && !(cG x.ref.a).2) || (decide (x.kind = 6) && !(aG (arOf x.ref x.to)).2)
def lostC (cG : Ad → Ad × Bool) (aG : ArT → ArT × Bool) (l : List NodeT) : Nat := (l.filter (lostH cG aG)).length
theorem lostC_zero {cG : Ad → Ad × Bool} {aG : ArT → ArT × Bool} {l : List NodeT} (h : lostC cG aG l = 0) : ∀ x ∈ l, lostH cG aG x = false := fun x hx => by
  cases e : lostH cG aG x
  · rfl
  · have : x ∈ l.filter (lostH cG aG) := List.mem_filter.2 ⟨hx, e⟩
    rw [List.eq_nil_of_length_eq_zero h] at this
    cases this
theorem cntK_cons (x : NodeT) (l : List NodeT) : cntK (x :: l) = (if x.kind = 4 then 1 else 0) + cntK l := by
  unfold cntK
  rw [List.filter_cons]
  by_cases h : x.kind = 4
  · rw [if_pos (by simpa using h), if_pos h, List.length_cons]; omega
  · rw [if_neg (by simpa using h), if_neg h]; omega
theorem cntK_append (l k : List NodeT) : cntK (l ++ k) = cntK l + cntK k := by unfold cntK; rw [List.filter_append, List.length_append]
theorem lostC_append (cG : Ad → Ad × Bool) (aG : ArT → ArT × Bool) (l k : List NodeT) : lostC cG aG (l ++ k) = lostC cG aG l + lostC cG aG k := by unfold lostC; rw [List.filter_append, List.length_append]
theorem lostC_cons (cG : Ad → Ad × Bool) (aG : ArT → ArT × Bool) (x : NodeT) (l : List NodeT) : lostC cG aG (x :: l) = (if lostH cG aG x = true then 1 else 0) + lostC cG aG l := by
  unfold lostC
  rw [List.filter_cons]
  split
  · rw [List.length_cons]; omega
  · omega
mutual
theorem turn_faults {cG : Ad → Ad × Bool} {aG : ArT → ArT × Bool} : ∀ (t : NodeT) (ins : Bool), faultT t ins = 0 → cntK (flatT (turnT cG aG t)) = cntK (flatT t) + lostC cG aG (flatT t)
  | .mk k o x s b f r q l, ins, h => by
    rcases fault_cases h with ⟨hk, rfl, _⟩ | ⟨h5, h6, hL⟩
    · rw [turn_leaf (t := .mk k o x s b f r q []) rfl, flatT_eq, turnH_noargs rfl, flatT, flatL, cntK_cons, cntK_cons, lostC_cons]
      have e0 : cntK [] = 0 := rfl
      have e1 : lostC cG aG [] = 0 := rfl
      rw [e0, e1]
      rcases hk with rfl | rfl
      · rw [turnH, if_pos rfl]
        cases ho : (cG r.a).2
        · simp [lostT, leafN, NodeT.kind, lostH, NodeT.ref, ho]
        · simp [leafN, NodeT.kind, lostH, NodeT.ref, ho]
      · have e6 : turnH cG aG (.mk 6 o x s b f r q []) = if (aG (arOf r q)).2 = true then .mk 6 o x s b f ⟨((aG (arOf r q)).1.a, (aG (arOf r q)).1.b), r.cf, r.rf⟩ ⟨((aG (arOf r q)).1.c, (aG (arOf r q)).1.d), q.cf, q.rf⟩ [] else lostT := by
          rw [turnH, if_neg (show ¬ (6 : Int) = 5 by decide), if_pos rfl]
        rw [e6]
        cases ho : (aG (arOf r q)).2
        · simp [lostT, leafN, NodeT.kind, lostH, NodeT.ref, NodeT.to, ho]
        · simp [leafN, NodeT.kind, lostH, NodeT.ref, NodeT.to, ho]
    · rw [turnT, turnH_else h5 h6, flatT, flatT, cntK_cons, cntK_cons, lostC_cons, turnL_faults l _ hL]
      have : lostH cG aG (.mk k o x s b f r q []) = false := by unfold lostH; simp [NodeT.kind, h5, h6]
      simp only [this, Bool.false_eq_true, if_false]
      omega
theorem turnL_faults {cG : Ad → Ad × Bool} {aG : ArT → ArT × Bool} : ∀ (l : List NodeT) (c : Bool), faultL l c = 0 → cntK (flatL (turnL cG aG l)) = cntK (flatL l) + lostC cG aG (flatL l)
  | [], _, _ => rfl
  | t :: l, c, h => by
    obtain ⟨h1, h2⟩ := faultL_cons h
    rw [turnL, flatL, flatL, cntK_append, cntK_append, lostC_append, turn_faults t c h1, turnL_faults l c h2]
    omega
end
/-! ### contents -/
/-- What is asked of a content that a grid has. -/
def okCt (c : ContT) : Prop := gvalidB c = true ∧ (c.kind == 0) = false ∧ copyC c = c
theorem okCt.fault {c : ContT} (h : okCt c) (hk : c.kind = 2) : faultT c.t false = 0 := by
  have hv := h.1
  unfold gvalidB at hv
  simp only [hk, Int.reduceBEq, Bool.false_eq_true, if_false, if_true, Bool.and_eq_true] at hv
  exact checkT_zero (by simpa using hv.2)
theorem okCt.copyT {c : ContT} (h : okCt c) : copyT c.t = c.t := congrArg ContT.t h.2.2
theorem okCt.plain {c : ContT} (h : okCt c) (hk : c.kind ≠ 2) : flatT c.t = [leafN c.t] ∧ c.t.kind = 0 := by
  have hv := h.1
  have h0 := h.2.1
  unfold gvalidB at hv
  rw [h0] at hv
  simp only [Bool.false_eq_true, if_false] at hv
  by_cases h1 : (c.kind == 1) = true
  · rw [if_pos h1] at hv
    simp only [Bool.and_eq_true] at hv
    have hn := hv.1.1
    unfold noNodeB at hn
    simp only [Bool.and_eq_true] at hn
    have hk0 : c.t.kind = 0 := of_decide_eq_true hn.1.1.1.1.1.1.1.1
    have hl : c.t.args = [] := List.length_eq_zero_iff.1 (by have := hn.2; simp at this; simpa using this)
    exact ⟨by rw [flatT_eq, hl, flatL], hk0⟩
  · rw [if_neg h1, if_neg (by simpa using hk)] at hv; cases hv
theorem contG_faults {cG : Ad → Ad × Bool} {aG : ArT → ArT × Bool} {c : ContT} (h : okCt c) : faultsT (contG cG aG c).t = faultsT c.t + lostC cG aG (flatT c.t) := by
  unfold faultsT contG
  by_cases hk : c.kind = 2
  · rw [if_pos hk]
    show cntK (flatT (turnT cG aG (Proofs.YtlgkaipgdhcajaaGreatDoor.copyT c.t))) = _
    rw [h.copyT]
    exact turn_faults c.t false (h.fault hk)
  · rw [if_neg hk]
    obtain ⟨e1, e2⟩ := h.plain hk
    have : lostC cG aG (flatT c.t) = 0 := by
      rw [e1, lostC_cons]
      have : lostH cG aG (leafN c.t) = false := by
        unfold lostH
        have hk2 : (leafN c.t).kind = c.t.kind := by cases c.t; rfl
        rw [hk2, e2]; rfl
      rw [this]; rfl
    omega
theorem contG_comp {cG1 cG2 cG3 : Ad → Ad × Bool} {aG1 aG2 aG3 : ArT → ArT × Bool} {c : ContT} (h : okCt c) (H : c.kind = 2 → ∀ x ∈ flatT c.t, x.kind = 5 ∨ x.kind = 6 → turnH cG2 aG2 (turnH cG1 aG1 x) = turnH cG3 aG3 x) :
    contG cG2 aG2 (copyC (contG cG1 aG1 (copyC c))) = contG cG3 aG3 (copyC c) := by
  rw [contG_copy, h.2.2]
  unfold contG
  by_cases hk : c.kind = 2
  · rw [if_pos hk, if_pos hk]
    simp only
    rw [if_pos hk]
    have e : turnT cG2 aG2 (Proofs.YtlgkaipgdhcajaaGreatDoor.copyT (turnT cG1 aG1 (Proofs.YtlgkaipgdhcajaaGreatDoor.copyT c.t))) = turnT cG3 aG3 (Proofs.YtlgkaipgdhcajaaGreatDoor.copyT c.t) := by
      rw [← turn_copy, h.copyT, h.copyT]
      exact turn_comp c.t false (h.fault hk) (H hk)
    rw [e]
  · rw [if_neg hk, if_neg hk, if_neg hk]
theorem contG_id {c : ContT} (h : okCt c) : contG cI aI (copyC c) = c := by
  rw [h.2.2]
  unfold contG
  split
  · rw [turn_id, h.copyT]
  · rfl
/-! ### grids -/
theorem goP_nil (cG : Ad → Ad × Bool) (aG : ArT → ArT × Bool) : goP cG aG [] = [] := rfl
theorem goP_cons (cG : Ad → Ad × Bool) (aG : ArT → ArT × Bool) (x : Ad × ContT) (l : PG) : goP cG aG (x :: l) = if (cG x.1).2 = true then ((cG x.1).1, contG cG aG (copyC x.2)) :: goP cG aG l else goP cG aG l := by
  unfold goP
  rw [List.filter_cons]
  split <;> rfl
theorem goP_comp {cG1 cG2 cG3 : Ad → Ad × Bool} {aG1 aG2 aG3 : ArT → ArT × Bool} : ∀ {l : PG}, (∀ x ∈ l, ((cG1 x.1).2 = true → cG2 (cG1 x.1).1 = cG3 x.1 ∧ contG cG2 aG2 (copyC (contG cG1 aG1 (copyC x.2))) = contG cG3 aG3 (copyC x.2)) ∧ (¬ (cG1 x.1).2 = true → ¬ (cG3 x.1).2 = true)) → goP cG2 aG2 (goP cG1 aG1 l) = goP cG3 aG3 l
  | [], _ => rfl
  | x :: l, h => by
    have ih := goP_comp (l := l) (fun y hy => h y (List.mem_cons_of_mem _ hy))
    obtain ⟨h1, h2⟩ := h x List.mem_cons_self
    rw [goP_cons, goP_cons]
    by_cases ho : (cG1 x.1).2 = true
    · obtain ⟨e1, e2⟩ := h1 ho
      rw [if_pos ho, goP_cons]
      simp only
      rw [e1, e2, ih]
    · rw [if_neg ho, if_neg (h2 ho), ih]
theorem goP_id : ∀ {l : PG}, (∀ x ∈ l, okCt x.2) → goP cI aI l = l
  | [], _ => rfl
  | x :: l, h => by
    rw [goP_cons, if_pos rfl, goP_id (fun y hy => h y (List.mem_cons_of_mem _ hy)), contG_id (h x List.mem_cons_self)]
/-- Where no cell goes: what is lost in all. -/
theorem lostP_goP {cG : Ad → Ad × Bool} {aG : ArT → ArT × Bool} : ∀ {l : PG}, (∀ x ∈ l, okCt x.2 ∧ (cG x.1).2 = true) → lostP l ≤ lostP (goP cG aG l) ∧ (lostP (goP cG aG l) = lostP l → ∀ x ∈ l, ∀ y ∈ flatT x.2.t, lostH cG aG y = false)
  | [], _ => ⟨Nat.le_refl _, fun _ x hx => by cases hx⟩
  | x :: l, h => by
    obtain ⟨i1, i2⟩ := lostP_goP (cG := cG) (aG := aG) (l := l) (fun y hy => h y (List.mem_cons_of_mem _ hy))
    obtain ⟨h1, h2⟩ := h x List.mem_cons_self
    have e := contG_faults (cG := cG) (aG := aG) h1
    rw [goP_cons, if_pos h2, lostP, lostP]
    simp only
    rw [h1.2.2, e]
    refine ⟨by omega, fun hs y hy => ?_⟩
    rcases List.mem_cons.1 hy with rfl | hy
    · exact lostC_zero (by omega)
    · exact i2 (by omega) y hy
end Go.Proofs.YtlgkaipgdhcajaaGreatDoor
/- move, plain: MoveBack's law. -/
namespace Go.Proofs.YtlgkaipgdhcajaaGreatDoor
open Go.RowKit Go.Sort

/-! ### cells and areas of valid ones -/
theorem cell_f {k n : Int} (h : LB 4096 k n) {a : Ad} (hv : validB a.1 a.2 = true) : cellF false ⟨k, n, 4096⟩ a = ((a.1, (lineZ k n 4096 a.2).1), (lineZ k n 4096 a.2).2) := by
  have v := validB_le hv
  unfold cellF
  rw [if_neg (by decide), lineF_eq h (by omega)]
theorem cell_t {k n : Int} (h : LB 256 k n) {a : Ad} (hv : validB a.1 a.2 = true) : cellF true ⟨k, n, 256⟩ a = (((lineZ k n 256 a.1).1, a.2), (lineZ k n 256 a.1).2) := by
  have v := validB_le hv
  unfold cellF
  rw [if_pos rfl, lineF_eq h (by omega)]
theorem area_f {k n : Int} (h : LB 4096 k n) {x : ArT} (hv : vA x = true) : areaF false ⟨k, n, 4096⟩ x = (⟨x.a, (spanZ k n 4096 x.b x.d).1, x.c, (spanZ k n 4096 x.b x.d).2.1⟩, (spanZ k n 4096 x.b x.d).2.2) := by
  have v := vA_le hv
  unfold areaF
  rw [if_neg (by decide), spanF_eq h (by omega)]
theorem area_t {k n : Int} (h : LB 256 k n) {x : ArT} (hv : vA x = true) : areaF true ⟨k, n, 256⟩ x = (⟨(spanZ k n 256 x.a x.c).1, x.b, (spanZ k n 256 x.a x.c).2.1, x.d⟩, (spanZ k n 256 x.a x.c).2.2) := by
  have v := vA_le hv
  unfold areaF
  rw [if_pos rfl, spanF_eq h (by omega)]
abbrev cL (cols : Bool) (k n : Int) : Ad → Ad × Bool := cellF cols ⟨k, n, manyL cols⟩
abbrev aL (cols : Bool) (k n : Int) : ArT → ArT × Bool := areaF cols ⟨k, n, manyL cols⟩
section
variable {cols : Bool} {k p q : Int}
theorem cell_back (h1 : LB (manyL cols) k p) (h2 : LB (manyL cols) k (-p)) (hp : 0 < p) {a : Ad} (hv : validB a.1 a.2 = true) (ho : (cL cols k p a).2 = true) : cL cols k (-p) (cL cols k p a).1 = (a, true) := by
  have hv2 := (lines_roadV h1).cell a hv ho
  have v := validB_le hv
  cases cols
  · have g1 : LB 4096 k p := h1
    have g2 : LB 4096 k (-p) := h2
    show cellF false ⟨k, -p, 4096⟩ (cellF false ⟨k, p, 4096⟩ a).1 = _
    have hv2 : validB (cellF false ⟨k, p, 4096⟩ a).1.1 (cellF false ⟨k, p, 4096⟩ a).1.2 = true := hv2
    rw [cell_f g2 hv2, cell_f g1 hv]
    simp only
    rw [line_back hp (by omega)]
  · have g1 : LB 256 k p := h1
    have g2 : LB 256 k (-p) := h2
    show cellF true ⟨k, -p, 256⟩ (cellF true ⟨k, p, 256⟩ a).1 = _
    have hv2 : validB (cellF true ⟨k, p, 256⟩ a).1.1 (cellF true ⟨k, p, 256⟩ a).1.2 = true := hv2
    rw [cell_t g2 hv2, cell_t g1 hv]
    simp only
    rw [line_back hp (by omega)]
theorem cell_add (h1 : LB (manyL cols) k p) (h2 : LB (manyL cols) k q) (h3 : LB (manyL cols) k (p + q)) (hp : 0 < p) (hq : 0 < q) {a : Ad} (hv : validB a.1 a.2 = true) (ho : (cL cols k p a).2 = true) : cL cols k q (cL cols k p a).1 = cL cols k (p + q) a := by
  have hv2 := (lines_roadV h1).cell a hv ho
  cases cols
  · have g1 : LB 4096 k p := h1
    have g2 : LB 4096 k q := h2
    have g3 : LB 4096 k (p + q) := h3
    show cellF false ⟨k, q, 4096⟩ (cellF false ⟨k, p, 4096⟩ a).1 = cellF false ⟨k, p + q, 4096⟩ a
    have hv2 : validB (cellF false ⟨k, p, 4096⟩ a).1.1 (cellF false ⟨k, p, 4096⟩ a).1.2 = true := hv2
    have ho : (cellF false ⟨k, p, 4096⟩ a).2 = true := ho
    rw [cell_f g1 hv] at ho
    rw [cell_f g2 hv2, cell_f g1 hv, cell_f g3 hv]
    simp only
    rw [line_add hp hq ho]
  · have g1 : LB 256 k p := h1
    have g2 : LB 256 k q := h2
    have g3 : LB 256 k (p + q) := h3
    show cellF true ⟨k, q, 256⟩ (cellF true ⟨k, p, 256⟩ a).1 = cellF true ⟨k, p + q, 256⟩ a
    have hv2 : validB (cellF true ⟨k, p, 256⟩ a).1.1 (cellF true ⟨k, p, 256⟩ a).1.2 = true := hv2
    have ho : (cellF true ⟨k, p, 256⟩ a).2 = true := ho
    rw [cell_t g1 hv] at ho
    rw [cell_t g2 hv2, cell_t g1 hv, cell_t g3 hv]
    simp only
    rw [line_add hp hq ho]
theorem cell_sub (h1 : LB (manyL cols) k (-p)) (h2 : LB (manyL cols) k (-q)) (h3 : LB (manyL cols) k (-p - q)) (hp : 0 < p) (hq : 0 < q) {a : Ad} (hv : validB a.1 a.2 = true) :
    ((cL cols k (-p) a).2 = true → cL cols k (-q) (cL cols k (-p) a).1 = cL cols k (-p - q) a) ∧ (¬ (cL cols k (-p) a).2 = true → ¬ (cL cols k (-p - q) a).2 = true) := by
  have hr := fun ho => (lines_roadV h1).cell a hv ho
  cases cols
  · have g1 : LB 4096 k (-p) := h1
    have g2 : LB 4096 k (-q) := h2
    have g3 : LB 4096 k (-p - q) := h3
    show ((cellF false ⟨k, -p, 4096⟩ a).2 = true → cellF false ⟨k, -q, 4096⟩ (cellF false ⟨k, -p, 4096⟩ a).1 = cellF false ⟨k, -p - q, 4096⟩ a) ∧ (¬ (cellF false ⟨k, -p, 4096⟩ a).2 = true → ¬ (cellF false ⟨k, -p - q, 4096⟩ a).2 = true)
    constructor
    · intro ho
      have hv2 : validB (cellF false ⟨k, -p, 4096⟩ a).1.1 (cellF false ⟨k, -p, 4096⟩ a).1.2 = true := hr ho
      rw [cell_f g1 hv] at ho
      rw [cell_f g2 hv2, cell_f g1 hv, cell_f g3 hv]
      simp only
      rw [line_sub hp hq ho]
    · rw [cell_f g1 hv, cell_f g3 hv]
      exact line_sub_no hp hq
  · have g1 : LB 256 k (-p) := h1
    have g2 : LB 256 k (-q) := h2
    have g3 : LB 256 k (-p - q) := h3
    show ((cellF true ⟨k, -p, 256⟩ a).2 = true → cellF true ⟨k, -q, 256⟩ (cellF true ⟨k, -p, 256⟩ a).1 = cellF true ⟨k, -p - q, 256⟩ a) ∧ (¬ (cellF true ⟨k, -p, 256⟩ a).2 = true → ¬ (cellF true ⟨k, -p - q, 256⟩ a).2 = true)
    constructor
    · intro ho
      have hv2 : validB (cellF true ⟨k, -p, 256⟩ a).1.1 (cellF true ⟨k, -p, 256⟩ a).1.2 = true := hr ho
      rw [cell_t g1 hv] at ho
      rw [cell_t g2 hv2, cell_t g1 hv, cell_t g3 hv]
      simp only
      rw [line_sub hp hq ho]
    · rw [cell_t g1 hv, cell_t g3 hv]
      exact line_sub_no hp hq
/-- An area has none of the last lines. -/
def notLow (cols : Bool) (n : Int) (x : ArT) : Prop := if cols = true then x.c ≤ 256 - n else x.d ≤ 4096 - n
theorem area_back (h1 : LB (manyL cols) k p) (h2 : LB (manyL cols) k (-p)) (hp : 0 < p) {x : ArT} (hv : vA x = true) (hl : notLow cols p x) : (aL cols k p x).2 = true ∧ aL cols k (-p) (aL cols k p x).1 = (x, true) := by
  have v := vA_le hv
  have hr := (lines_roadV h1).area x hv
  cases cols
  · have g1 : LB 4096 k p := h1
    have g2 : LB 4096 k (-p) := h2
    have hl : x.d ≤ 4096 - p := hl
    have e0 : areaF false ⟨k, p, 4096⟩ x = _ := area_f g1 hv
    have ho : (areaF false ⟨k, p, 4096⟩ x).2 = true := by rw [e0, span_ins hp v.2.2.1 hl]
    have hv2 : vA (areaF false ⟨k, p, 4096⟩ x).1 = true := hr ho
    refine ⟨ho, ?_⟩
    show areaF false ⟨k, -p, 4096⟩ (areaF false ⟨k, p, 4096⟩ x).1 = _
    rw [area_f g2 hv2, e0]
    simp only
    rw [span_back hp v.2.2.1 hl]
  · have g1 : LB 256 k p := h1
    have g2 : LB 256 k (-p) := h2
    have hl : x.c ≤ 256 - p := hl
    have e0 : areaF true ⟨k, p, 256⟩ x = _ := area_t g1 hv
    have ho : (areaF true ⟨k, p, 256⟩ x).2 = true := by rw [e0, span_ins hp v.1.2.1 hl]
    have hv2 : vA (areaF true ⟨k, p, 256⟩ x).1 = true := hr ho
    refine ⟨ho, ?_⟩
    show areaF true ⟨k, -p, 256⟩ (areaF true ⟨k, p, 256⟩ x).1 = _
    rw [area_t g2 hv2, e0]
    simp only
    rw [span_back hp v.1.2.1 hl]
theorem area_add (h1 : LB (manyL cols) k p) (h2 : LB (manyL cols) k q) (h3 : LB (manyL cols) k (p + q)) (hp : 0 < p) (hq : 0 < q) {x : ArT} (hv : vA x = true) (hl : notLow cols (p + q) x) : (aL cols k p x).2 = true ∧ aL cols k q (aL cols k p x).1 = aL cols k (p + q) x := by
  have v := vA_le hv
  have hr := (lines_roadV h1).area x hv
  cases cols
  · have g1 : LB 4096 k p := h1
    have g2 : LB 4096 k q := h2
    have g3 : LB 4096 k (p + q) := h3
    have hl : x.d ≤ 4096 - (p + q) := hl
    have e0 : areaF false ⟨k, p, 4096⟩ x = _ := area_f g1 hv
    have ho : (areaF false ⟨k, p, 4096⟩ x).2 = true := by rw [e0, span_ins hp v.2.2.1 (by omega)]
    have hv2 : vA (areaF false ⟨k, p, 4096⟩ x).1 = true := hr ho
    refine ⟨ho, ?_⟩
    show areaF false ⟨k, q, 4096⟩ (areaF false ⟨k, p, 4096⟩ x).1 = areaF false ⟨k, p + q, 4096⟩ x
    rw [area_f g2 hv2, e0, area_f g3 hv]
    simp only
    rw [span_add hp hq v.2.2.1 hl]
  · have g1 : LB 256 k p := h1
    have g2 : LB 256 k q := h2
    have g3 : LB 256 k (p + q) := h3
    have hl : x.c ≤ 256 - (p + q) := hl
    have e0 : areaF true ⟨k, p, 256⟩ x = _ := area_t g1 hv
    have ho : (areaF true ⟨k, p, 256⟩ x).2 = true := by rw [e0, span_ins hp v.1.2.1 (by omega)]
    have hv2 : vA (areaF true ⟨k, p, 256⟩ x).1 = true := hr ho
    refine ⟨ho, ?_⟩
    show areaF true ⟨k, q, 256⟩ (areaF true ⟨k, p, 256⟩ x).1 = areaF true ⟨k, p + q, 256⟩ x
    rw [area_t g2 hv2, e0, area_t g3 hv]
    simp only
    rw [span_add hp hq v.1.2.1 hl]
theorem area_sub (h1 : LB (manyL cols) k (-p)) (h2 : LB (manyL cols) k (-q)) (h3 : LB (manyL cols) k (-p - q)) (hp : 0 < p) (hq : 0 < q) {x : ArT} (hv : vA x = true) :
    ((aL cols k (-p) x).2 = true → aL cols k (-q) (aL cols k (-p) x).1 = aL cols k (-p - q) x) ∧ (¬ (aL cols k (-p) x).2 = true → ¬ (aL cols k (-p - q) x).2 = true) := by
  have v := vA_le hv
  have hr := (lines_roadV h1).area x hv
  cases cols
  · have g1 : LB 4096 k (-p) := h1
    have g2 : LB 4096 k (-q) := h2
    have g3 : LB 4096 k (-p - q) := h3
    have e0 : areaF false ⟨k, -p, 4096⟩ x = _ := area_f g1 hv
    have e3 : areaF false ⟨k, -p - q, 4096⟩ x = _ := area_f g3 hv
    show ((areaF false ⟨k, -p, 4096⟩ x).2 = true → areaF false ⟨k, -q, 4096⟩ (areaF false ⟨k, -p, 4096⟩ x).1 = areaF false ⟨k, -p - q, 4096⟩ x) ∧ (¬ (areaF false ⟨k, -p, 4096⟩ x).2 = true → ¬ (areaF false ⟨k, -p - q, 4096⟩ x).2 = true)
    constructor
    · intro ho
      have hv2 : vA (areaF false ⟨k, -p, 4096⟩ x).1 = true := hr ho
      rw [e0] at ho
      rw [area_f g2 hv2, e0, e3]
      simp only
      rw [span_sub hp hq ho]
    · rw [e0, e3]
      exact span_sub_no hp hq v.2.2.1
  · have g1 : LB 256 k (-p) := h1
    have g2 : LB 256 k (-q) := h2
    have g3 : LB 256 k (-p - q) := h3
    have e0 : areaF true ⟨k, -p, 256⟩ x = _ := area_t g1 hv
    have e3 : areaF true ⟨k, -p - q, 256⟩ x = _ := area_t g3 hv
    show ((areaF true ⟨k, -p, 256⟩ x).2 = true → areaF true ⟨k, -q, 256⟩ (areaF true ⟨k, -p, 256⟩ x).1 = areaF true ⟨k, -p - q, 256⟩ x) ∧ (¬ (areaF true ⟨k, -p, 256⟩ x).2 = true → ¬ (areaF true ⟨k, -p - q, 256⟩ x).2 = true)
    constructor
    · intro ho
      have hv2 : vA (areaF true ⟨k, -p, 256⟩ x).1 = true := hr ho
      rw [e0] at ho
      rw [area_t g2 hv2, e0, e3]
      simp only
      rw [span_sub hp hq ho]
    · rw [e0, e3]
      exact span_sub_no hp hq v.1.2.1
/-! ### a node -/
theorem turnH5 {cG : Ad → Ad × Bool} {aG : ArT → ArT × Bool} {o : Int} {x : Nat} {s : ByteArray} {b : Bool} {f : Int} {r q : RefT} {l : List NodeT} : turnH cG aG (.mk 5 o x s b f r q l) = if (cG r.a).2 = true then .mk 5 o x s b f ⟨(cG r.a).1, r.cf, r.rf⟩ q l else lostT := by rw [turnH, if_pos rfl]
theorem turnH6 {cG : Ad → Ad × Bool} {aG : ArT → ArT × Bool} {o : Int} {x : Nat} {s : ByteArray} {b : Bool} {f : Int} {r q : RefT} {l : List NodeT} : turnH cG aG (.mk 6 o x s b f r q l) = if (aG (arOf r q)).2 = true then .mk 6 o x s b f ⟨((aG (arOf r q)).1.a, (aG (arOf r q)).1.b), r.cf, r.rf⟩ ⟨((aG (arOf r q)).1.c, (aG (arOf r q)).1.d), q.cf, q.rf⟩ l else lostT := by rw [turnH, if_neg (show ¬ (6 : Int) = 5 by decide), if_pos rfl]
theorem turnH_lost (cG : Ad → Ad × Bool) (aG : ArT → ArT × Bool) : turnH cG aG lostT = lostT := turnH_else (by decide) (by decide)
/-- Two roads, one behind the other, at a node, by their cells and areas. -/
theorem head_comp {cG1 cG2 cG3 : Ad → Ad × Bool} {aG1 aG2 aG3 : ArT → ArT × Bool} {x : NodeT} (hk : x.kind = 5 ∨ x.kind = 6)
    (hc : x.kind = 5 → ((cG1 x.ref.a).2 = true → cG2 (cG1 x.ref.a).1 = cG3 x.ref.a) ∧ (¬ (cG1 x.ref.a).2 = true → ¬ (cG3 x.ref.a).2 = true))
    (ha : x.kind = 6 → ((aG1 (arOf x.ref x.to)).2 = true → aG2 (aG1 (arOf x.ref x.to)).1 = aG3 (arOf x.ref x.to)) ∧ (¬ (aG1 (arOf x.ref x.to)).2 = true → ¬ (aG3 (arOf x.ref x.to)).2 = true)) :
    turnH cG2 aG2 (turnH cG1 aG1 x) = turnH cG3 aG3 x := by
  obtain ⟨k, o, y, s, b, f, r, q, l⟩ := x
  rcases hk with e | e
  · have e : k = 5 := e
    subst e
    obtain ⟨h1, h2⟩ := hc rfl
    simp only [NodeT.ref] at h1 h2
    rw [turnH5, turnH5]
    by_cases ho : (cG1 r.a).2 = true
    · rw [if_pos ho, turnH5]
      simp only
      rw [h1 ho]
    · rw [if_neg ho, if_neg (h2 ho), turnH_lost]
  · have e : k = 6 := e
    subst e
    obtain ⟨h1, h2⟩ := ha rfl
    simp only [NodeT.ref, NodeT.to] at h1 h2
    rw [turnH6, turnH6]
    by_cases ho : (aG1 (arOf r q)).2 = true
    · rw [if_pos ho, turnH6]
      have ee : arOf ⟨((aG1 (arOf r q)).1.a, (aG1 (arOf r q)).1.b), r.cf, r.rf⟩ ⟨((aG1 (arOf r q)).1.c, (aG1 (arOf r q)).1.d), q.cf, q.rf⟩ = (aG1 (arOf r q)).1 := rfl
      rw [ee, h1 ho]
    · rw [if_neg ho, if_neg (h2 ho), turnH_lost]
theorem low_not {n : Int} {x : NodeT} (hk : x.kind = 6) (h : lowN cols n x = false) : notLow cols n (arOf x.ref x.to) := by
  unfold lowN at h
  unfold notLow
  rw [hk] at h
  cases cols
  · simp at h; simp only [Bool.false_eq_true, if_false]; exact h
  · simp at h; simp only [if_true]; exact h
theorem lost_ref {cG : Ad → Ad × Bool} {aG : ArT → ArT × Bool} {x : NodeT} (hk : x.kind = 5) (h : lostH cG aG x = false) : (cG x.ref.a).2 = true := by
  unfold lostH at h
  rw [hk] at h
  simpa using h
end
/-! ### the laws -/
theorem okCt_of {g : PG} (h : GOk g) : ∀ x ∈ g, okCt x.2 := fun x hx => ⟨(h.each x hx).2.1, (h.each x hx).2.2.1, (h.each x hx).2.2.2.1⟩
theorem low_all {cols : Bool} {n : Int} {g : PG} (h : lowP cols n g = false) : ∀ x ∈ g, ∀ y ∈ flatT x.2.t, lowN cols n y = false := fun x hx y hy => by
  unfold lowP at h
  have := List.any_eq_false.1 h x hx
  unfold lowT at this
  exact Bool.eq_false_iff.2 (fun e => this (List.any_eq_true.2 ⟨y, hy, e⟩))
mutual
theorem flatN_len {cG : Ad → Ad × Bool} {aG : ArT → ArT × Bool} : ∀ (t : NodeT) (ins : Bool), faultT t ins = 0 → (flatT (turnT cG aG t)).length = (flatT t).length
  | .mk k o x s b f r q l, ins, h => by
    rcases fault_cases h with ⟨_, rfl, _⟩ | ⟨h5, h6, hL⟩
    · rw [turn_leaf (t := .mk k o x s b f r q []) rfl, flatT_eq, turnH_noargs rfl, flatT]; rfl
    · rw [turnT, turnH_else h5 h6, flatT, flatT, List.length_cons, List.length_cons, flatNL_len l _ hL]
theorem flatNL_len {cG : Ad → Ad × Bool} {aG : ArT → ArT × Bool} : ∀ (l : List NodeT) (c : Bool), faultL l c = 0 → (flatL (turnL cG aG l)).length = (flatL l).length
  | [], _, _ => rfl
  | t :: l, c, h => by
    obtain ⟨h1, h2⟩ := faultL_cons h
    rw [turnL, flatL, flatL, List.length_append, List.length_append, flatN_len t c h1, flatNL_len l c h2]
end
theorem contG_flat {cG : Ad → Ad × Bool} {aG : ArT → ArT × Bool} {c : ContT} (h : okCt c) : (flatT (contG cG aG c).t).length ≤ (flatT c.t).length := by
  unfold contG
  by_cases hk : c.kind = 2
  · rw [if_pos hk]
    show (flatT (turnT cG aG (copyT c.t))).length ≤ _
    rw [h.copyT, flatN_len c.t false (h.fault hk)]
    exact Nat.le_refl _
  · rw [if_neg hk]; exact Nat.le_refl _
section
variable {cols : Bool} {k p q : Int} {g : PG}
theorem back_law (h1 : LB (manyL cols) k p) (h2 : LB (manyL cols) k (-p)) (hp : 0 < p) (hg : GOk g) (hs : goStop (cL cols k p) p g = false) (hl : lostP (goP (cL cols k p) (aL cols k p) g) = lostP g) (hw : lowP cols p g = false) :
    goP (cL cols k (-p)) (aL cols k (-p)) (goP (cL cols k p) (aL cols k p) g) = g := by
  have ha := goStop_all hs hp
  have hlost := (lostP_goP (fun x hx => ⟨okCt_of hg x hx, ha x hx⟩)).2 hl
  have e := goP_comp (cG2 := cL cols k (-p)) (aG2 := aL cols k (-p)) (cG1 := cL cols k p) (aG1 := aL cols k p) (cG3 := cI) (aG3 := aI) (l := g) (fun x hx => ⟨fun ho => ⟨cell_back h1 h2 hp (hg.each x hx).1 ho, contG_comp (okCt_of hg x hx) (fun hk y hy h56 => ?_)⟩, fun ho => absurd (ha x hx) ho⟩)
  · rw [e]; exact goP_id (okCt_of hg)
  · have ok := flat_okN x.2.t false ((okCt_of hg x hx).fault hk) y hy
    refine head_comp h56 (fun e5 => ?_) (fun e6 => ?_)
    · have ho := lost_ref e5 (hlost x hx y hy)
      exact ⟨fun _ => cell_back h1 h2 hp (ok.1 e5) ho, fun hn => absurd ho hn⟩
    · obtain ⟨a1, a2⟩ := area_back h1 h2 hp (ok.2 e6) (low_not e6 (low_all hw x hx y hy))
      exact ⟨fun _ => a2, fun hn => absurd a1 hn⟩
theorem add_law (h1 : LB (manyL cols) k p) (h2 : LB (manyL cols) k q) (h3 : LB (manyL cols) k (p + q)) (hp : 0 < p) (hq : 0 < q) (hg : GOk g) (hs : goStop (cL cols k p) p g = false) (hs3 : goStop (cL cols k (p + q)) (p + q) g = false) (hl : lostP (goP (cL cols k (p + q)) (aL cols k (p + q)) g) = lostP g) (hw : lowP cols (p + q) g = false) :
    goP (cL cols k q) (aL cols k q) (goP (cL cols k p) (aL cols k p) g) = goP (cL cols k (p + q)) (aL cols k (p + q)) g := by
  have ha := goStop_all hs hp
  have ha3 := goStop_all hs3 (by omega)
  have hlost := (lostP_goP (fun x hx => ⟨okCt_of hg x hx, ha3 x hx⟩)).2 hl
  refine goP_comp (fun x hx => ⟨fun ho => ⟨cell_add h1 h2 h3 hp hq (hg.each x hx).1 ho, contG_comp (okCt_of hg x hx) (fun hk y hy h56 => ?_)⟩, fun ho => absurd (ha x hx) ho⟩)
  have ok := flat_okN x.2.t false ((okCt_of hg x hx).fault hk) y hy
  refine head_comp h56 (fun e5 => ?_) (fun e6 => ?_)
  · have ho3 := lost_ref e5 (hlost x hx y hy)
    have ho : (cL cols k p y.ref.a).2 = true := by
      have v := ok.1 e5
      cases cols
      · have g1 : LB 4096 k p := h1
        have g3 : LB 4096 k (p + q) := h3
        have ho3 : (cellF false ⟨k, p + q, 4096⟩ y.ref.a).2 = true := ho3
        show (cellF false ⟨k, p, 4096⟩ y.ref.a).2 = true
        rw [cell_f g3 v] at ho3
        rw [cell_f g1 v]
        exact line_ok_add hp hq ho3
      · have g1 : LB 256 k p := h1
        have g3 : LB 256 k (p + q) := h3
        have ho3 : (cellF true ⟨k, p + q, 256⟩ y.ref.a).2 = true := ho3
        show (cellF true ⟨k, p, 256⟩ y.ref.a).2 = true
        rw [cell_t g3 v] at ho3
        rw [cell_t g1 v]
        exact line_ok_add hp hq ho3
    exact ⟨fun _ => cell_add h1 h2 h3 hp hq (ok.1 e5) ho, fun hn => absurd ho hn⟩
  · obtain ⟨a1, a2⟩ := area_add h1 h2 h3 hp hq (ok.2 e6) (low_not e6 (low_all hw x hx y hy))
    exact ⟨fun _ => a2, fun hn => absurd a1 hn⟩
theorem sub_law (h1 : LB (manyL cols) k (-p)) (h2 : LB (manyL cols) k (-q)) (h3 : LB (manyL cols) k (-p - q)) (hp : 0 < p) (hq : 0 < q) (hg : GOk g) :
    goP (cL cols k (-q)) (aL cols k (-q)) (goP (cL cols k (-p)) (aL cols k (-p)) g) = goP (cL cols k (-p - q)) (aL cols k (-p - q)) g := by
  refine goP_comp (fun x hx => ?_)
  obtain ⟨c1, c2⟩ := cell_sub h1 h2 h3 hp hq (hg.each x hx).1
  refine ⟨fun ho => ⟨c1 ho, contG_comp (okCt_of hg x hx) (fun hk y hy h56 => ?_)⟩, c2⟩
  have ok := flat_okN x.2.t false ((okCt_of hg x hx).fault hk) y hy
  exact head_comp h56 (fun e5 => cell_sub h1 h2 h3 hp hq (ok.1 e5)) (fun e6 => area_sub h1 h2 h3 hp hq (ok.2 e6))
theorem stop_law (h1 : LB (manyL cols) k p) (h2 : LB (manyL cols) k q) (h3 : LB (manyL cols) k (p + q)) (hp : 0 < p) (hq : 0 < q) (hg : GOk g) (hs : goStop (cL cols k p) p g = false) :
    goStop (cL cols k q) q (goP (cL cols k p) (aL cols k p) g) = goStop (cL cols k (p + q)) (p + q) g := by
  have ha := goStop_all hs hp
  unfold goStop
  rw [Bool.eq_iff_iff, List.any_eq_true, List.any_eq_true]
  constructor
  · rintro ⟨y, hy, h⟩
    obtain ⟨x, hx, rfl⟩ := List.mem_map.1 hy
    obtain ⟨hx, _⟩ := List.mem_filter.1 hx
    simp only at h
    rw [cell_add h1 h2 h3 hp hq (hg.each x hx).1 (ha x hx)] at h
    simp only [Bool.and_eq_true] at h
    refine ⟨x, hx, ?_⟩
    rw [h.1, decide_eq_true (by omega)]; rfl
  · rintro ⟨x, hx, h⟩
    simp only [Bool.and_eq_true] at h
    refine ⟨_, List.mem_map.2 ⟨x, List.mem_filter.2 ⟨hx, ha x hx⟩, rfl⟩, ?_⟩
    simp only
    rw [cell_add h1 h2 h3 hp hq (hg.each x hx).1 (ha x hx), h.1, decide_eq_true hq]; rfl
theorem len_law {cG : Ad → Ad × Bool} {aG : ArT → ArT × Bool} (ha : ∀ x ∈ g, (cG x.1).2 = true) : (goP cG aG g).length = g.length := by
  unfold goP
  rw [List.length_map, List.filter_eq_self.2 ha]
theorem back_all (h1 : LB (manyL cols) k p) (h2 : LB (manyL cols) k (-p)) (hp : 0 < p) (hg : GOk g) (ha : ∀ x ∈ g, (cL cols k p x.1).2 = true) : ∀ y ∈ goP (cL cols k p) (aL cols k p) g, (cL cols k (-p) y.1).2 = true := fun y hy => by
  obtain ⟨x, hx, rfl⟩ := List.mem_map.1 hy
  obtain ⟨hx, _⟩ := List.mem_filter.1 hx
  simp only
  rw [cell_back h1 h2 hp (hg.each x hx).1 (ha x hx)]
theorem contG_1 {cG : Ad → Ad × Bool} {aG : ArT → ArT × Bool} {c : ContT} (hk : c.kind = 1) : contG cG aG c = c := by unfold contG; rw [if_neg (by omega)]
theorem kind_law (h1 : LB (manyL cols) k p) (h2 : LB (manyL cols) k (-p)) (hp : 0 < p) (hg : GOk g) (ha : ∀ x ∈ g, (cL cols k p x.1).2 = true) {x : Ad × ContT} (hx : x ∈ g) :
    ∃ c, lkM x.1 (goP (cL cols k (-p)) (aL cols k (-p)) (goP (cL cols k p) (aL cols k p) g)) = some c ∧ c.kind = x.2.kind ∧ (x.2.kind = 1 → c = x.2) := by
  have hA := goP_ok (lines_roadV h1) (lines_monoC h1) hg
  have hm : ((cL cols k p x.1).1, contG (cL cols k p) (aL cols k p) (copyC x.2)) ∈ goP (cL cols k p) (aL cols k p) g := List.mem_map.2 ⟨x, List.mem_filter.2 ⟨hx, ha x hx⟩, rfl⟩
  have hb := cell_back h1 h2 hp (hg.each x hx).1 (ha x hx)
  have h : lkM (cL cols k (-p) (cL cols k p x.1).1).1 (goP (cL cols k (-p)) (aL cols k (-p)) (goP (cL cols k p) (aL cols k p) g)) = some (contG (cL cols k (-p)) (aL cols k (-p)) (contG (cL cols k p) (aL cols k p) (copyC x.2))) :=
    goP_get (lines_roadV h2) (lines_monoC h2) hA hm (by show (cL cols k (-p) (cL cols k p x.1).1).2 = true; rw [hb])
  rw [hb] at h
  refine ⟨_, h, ?_, fun hk => ?_⟩
  · rw [contG_kind, contG_kind]; rfl
  · have e : copyC x.2 = x.2 := (hg.each x hx).2.2.2.1
    rw [e, contG_1 hk, contG_1 hk]
theorem bulk_go {cG : Ad → Ad × Bool} {aG : ArT → ArT × Bool} (hg : GOk g) (h : BulkP g) : BulkP (goP cG aG g) := fun y hy => by
  obtain ⟨x, hx, rfl⟩ := List.mem_map.1 hy
  obtain ⟨hx, _⟩ := List.mem_filter.1 hx
  simp only
  rw [(hg.each x hx).2.2.2.1]
  exact Nat.le_trans (contG_flat (okCt_of hg x hx)) (h x hx)
end
end Go.Proofs.YtlgkaipgdhcajaaGreatDoor
