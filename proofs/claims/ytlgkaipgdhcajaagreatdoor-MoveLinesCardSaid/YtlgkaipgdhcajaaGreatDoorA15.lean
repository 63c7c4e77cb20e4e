import Derived.Test.YtlgkaipgdhcajaaGreatDoorA13
import Derived.Test.YtlgkaipgdhcajaaGreatDoorA14
import Derived.Test.YtlgkaipgdhcajaaGreatDoorD15
import Derived.Test.YtlgkaipgdhcajaaGreatDoorW45
import Derived.Test.YtlgkaipgdhcajaaGreatDoorM11
import Derived.Test.YtlgkaipgdhcajaaGreatDoorA8
import Derived.Deep.MidRow
import Derived.Sort.CutIn
/- MoveLines' walk (made by mkq3.py). -/
namespace Go.Proofs.YtlgkaipgdhcajaaGreatDoor
open Go.RowKit Go.Sort Go.Maps Go.Shelf Go.MapKept
attribute [local go_sem] Oper.semAt_some

theorem results_one {fn : Func} {p : Tmp} {t1 : TypeId} (h : fn.results = #[.cell p t1]) (tmps : Array Value) (w : World) (b1 : Nat) (u : Value) (hp : tmps.getD p undef = .pointer (some ⟨b1, 0, none⟩))
    (l1 : (loadVar t1 ⟨b1, 0, none⟩).run Tryz.prog w = .ok u w) : (results fn tmps).run Tryz.prog w = .ok u w := by
  have hp' : tmps[p]?.getD undef = .pointer (some ⟨b1, 0, none⟩) := by simpa using hp
  simp [results, h, hp', asAddr, l1]
theorem ArgsIn.upQ {w : World} {n m : Nat} {av : Value} {l : List NodeT} (hm : n ≤ m) (h : ArgsIn w n av l) : ArgsIn w m av l := by
  obtain ⟨k, rfl⟩ := Nat.exists_eq_add_of_le hm
  clear hm
  induction k with
  | zero => exact h
  | succ k ih => exact ih.up
theorem load_bool1 (w : World) (b : Nat) (u : Value) (h : w.cell? ⟨b, 0, none⟩ = some u) : (loadVar 4 ⟨b, 0, none⟩).run Tryz.prog w = .ok u w := by go_simp
def cntP (cG : Ad → Ad × Bool) (l : PG) : Nat := (l.filter fun x => (cG x.1).2).length
theorem cntP_snoc (cG : Ad → Ad × Bool) (l : PG) (x : Ad × ContT) : cntP cG (l ++ [x]) = if (cG x.1).2 = true then cntP cG l + 1 else cntP cG l := by
  unfold cntP
  rw [List.filter_append]
  split <;> simp_all
/-- What holds while a grid's contents are counted in a cell. -/
structure LI (W0 : World) (R : Nat) (f : List TE → Int) (pre : List TE) (W : World) : Prop where
  grown : W0.grownBy W (some R)
  cnt : W.heap[R]? = some (.cells #[.int .i64 (f pre)] 3 (0, 0))
theorem LI.own {W0 : World} {R : Nat} {f : List TE → Int} : OwnFrom W0.heap.size (fun pre W => LI W0 R f pre W) := fun s X Y row hs hg hr => by
  obtain ⟨h1, h2⟩ := hs
  exact ⟨grownBy_far h1 hg (fun r e => (hr r e).1), rowCells_own h2 hg (fun r e => (hr r e).2)⟩
theorem round_end {W0 W wz : World} {R l0 n0 : Nat} {f : List TE → Int} {pre' : List TE} {cnt : Int} (hg : W0.grownBy W (some R)) (hr : W.heap[R]? = some (.cells #[.int .i64 cnt] 3 (0, 0))) (hz : wz.heap[R]? = some (.cells #[.int .i64 cnt] 3 (0, 0))) (hf : f pre' = cnt + 1)
    (hW : Wr (fun b => b = R) W (wz.setCell ⟨R, 0, none⟩ (.int .i64 (cnt + 1)))) (hl : R < l0) (hn : n0 ≤ R) :
    KeepsFrom l0 W (wz.setCell ⟨R, 0, none⟩ (.int .i64 (cnt + 1))) ∧ (Below n0 W (wz.setCell ⟨R, 0, none⟩ (.int .i64 (cnt + 1))) ∧ KeepsT (fun _ => false) W (wz.setCell ⟨R, 0, none⟩ (.int .i64 (cnt + 1)))) ∧ LI W0 R f pre' (wz.setCell ⟨R, 0, none⟩ (.int .i64 (cnt + 1))) := by
  have hgW : W.grownBy (wz.setCell ⟨R, 0, none⟩ (.int .i64 (cnt + 1))) (some R) := ⟨hW.os, hW.tape, hW.output, hW.size, fun i hi hn => hW.block i hi (fun e => hn (by rw [e]))⟩
  refine ⟨⟨hW.size, fun k o hB hk _ => (hW.block k (Array.getElem?_eq_some_iff.1 hk).1 (fun e => by omega)).trans hk⟩, ⟨⟨hW.os, hW.tape, hW.output, hW.size, fun k hk => ?_⟩, KeepsT.of_grown hgW (fun j o e ho => ?_)⟩, ⟨grownBy_two hg hgW, ?_⟩⟩
  · have hlt := (Array.getElem?_eq_some_iff.1 hr).1
    exact hW.block k (by omega) (fun e => by omega)
  · cases e
    rw [hr] at ho
    cases ho
    rfl
  · rw [hf]
    exact setCell_row hz 0 _
theorem goStop_pos {cG : Ad → Ad × Bool} {n : Int} {l : PG} (h : goStop cG n l = true) : 0 < n := by
  unfold goStop at h
  obtain ⟨x, _, h2⟩ := List.any_eq_true.1 h
  simp only [Bool.and_eq_true, decide_eq_true_eq] at h2
  exact h2.2
theorem made_lb {cols : Bool} {k n : Int} (h : LB (manyL cols) k n) : (madeL (manyL cols) k n).2 = true := by
  obtain ⟨h1, h2, h3, h4, h5, h6⟩ := h
  unfold madeL
  simp only [Bool.and_eq_true, decide_eq_true_eq]
  exact ⟨⟨⟨h3, h4⟩, h5⟩, h6⟩
/-- What comes of a grid whose lines are brought, where they may be. -/
def LinesR (cols : Bool) (k n : Int) (M : GM) (w : World) (e : Ending) (w' : World) : Prop :=
  Xt w w' ∧ ((goStop (cellF cols ⟨k, n, manyL cols⟩) n (er M) = true ∧ e = .returned (.tuple #[.pointer none, .int .i64 20])) ∨
    (goStop (cellF cols ⟨k, n, manyL cols⟩) n (er M) = false ∧ ∃ go mo Mo, e = .returned (.tuple #[.pointer (some ⟨go, 0, none⟩), .int .i64 0]) ∧ GridIs w' go mo Mo ∧ er Mo = goP (cellF cols ⟨k, n, manyL cols⟩) (areaF cols ⟨k, n, manyL cols⟩) (er M)))
theorem lines_lb (cols : Bool) (k n : Int) (h : LB (manyL cols) k n) (gb mb : Nat) (M : GM) (w : World) (hG : GridIs w gb mb M) (hT : Tabs w) (hO : GOk (er M)) :
    Calls Tryz.prog 15 #[.pointer (some ⟨gb, 0, none⟩), .bool cols, .int .i64 k, .int .i64 n] w (LinesR cols k n M w) := by
  refine (lines22_any cols k n gb mb M w hG hT hO).mono ?_
  rintro e w1 ⟨hx, (⟨h1, rfl⟩ | ⟨h1, (⟨h2, rfl⟩ | ⟨h2, go, mo, Mo, rfl, h3, h4, _, _⟩)⟩)⟩
  · rw [made_lb h] at h1; cases h1
  · exact ⟨hx, Or.inl ⟨h2, rfl⟩⟩
  · exact ⟨hx, Or.inr ⟨h2, go, mo, Mo, rfl, h3, h4.trans (goAll_eq (lines_roadV h) (lines_monoC h) hO)⟩⟩
theorem cellF_z {cols : Bool} {k n : Int} (h : LB (manyL cols) k n) {a : Ad} (hv : validB a.1 a.2 = true) :
    cellF cols ⟨k, n, manyL cols⟩ a = (if cols = true then ((lineZ k n (manyL cols) a.1).1, a.2) else (a.1, (lineZ k n (manyL cols) a.2).1), (lineZ k n (manyL cols) (if cols = true then a.1 else a.2)).2) := by
  have v := validB_le hv
  unfold cellF
  cases cols
  · rw [if_neg (by decide), if_neg (by decide), if_neg (by decide), lineF_eq h (show 1 ≤ a.2 ∧ a.2 ≤ 4096 by omega)]
  · rw [if_pos rfl, if_pos rfl, if_pos rfl, lineF_eq h (show 1 ≤ a.1 ∧ a.1 ≤ 256 by omega)]
theorem kind_12 {c : ContT} (h : gvalidB c = true) (h0 : (c.kind == 0) = false) : c.kind = 1 ∨ c.kind = 2 := by
  unfold gvalidB at h
  rw [h0] at h
  simp only [Bool.false_eq_true, if_false] at h
  by_cases h1 : (c.kind == 1) = true
  · exact Or.inl (by simpa using h1)
  · rw [if_neg h1] at h
    by_cases h2 : (c.kind == 2) = true
    · exact Or.inr (by simpa using h2)
    · rw [if_neg h2] at h; cases h
theorem form_2 {cols : Bool} {k n : Int} (h : LB (manyL cols) k n) {c : ContT} (hv : gvalidB c = true) (hk : c.kind = 2) : formP cols k n c.t = ((contG (cellF cols ⟨k, n, manyL cols⟩) (areaF cols ⟨k, n, manyL cols⟩) c).t, 0) := by
  have h3 : checkT c.t = 0 := by
    unfold gvalidB at hv
    simp only [hk, Int.reduceBEq, Bool.false_eq_true, if_false, if_true, Bool.and_eq_true] at hv
    simpa using hv.2
  unfold formP contG
  rw [if_neg (by omega), made_lb h, if_neg (by decide), if_pos hk]
theorem row_mid {V : World} {b : Nat} {z : CE} (h : V.heap[b]? = some (.cells #[.int .i64 z.1.kind, .int .i64 z.1.v.kind, .float .f64 z.1.v.x, .string z.1.v.s, .bool z.1.v.b, .int .i64 z.1.v.f, .int .i64 z.1.t.kind, .int .i64 z.1.t.op, .float .f64 z.1.t.x, .string z.1.t.s, .bool z.1.t.b, .int .i64 z.1.t.f, .int .i64 z.1.t.ref.a.1, .int .i64 z.1.t.ref.a.2, .bool z.1.t.ref.cf, .bool z.1.t.ref.rf, .int .i64 z.1.t.to.a.1, .int .i64 z.1.t.to.a.2, .bool z.1.t.to.cf, .bool z.1.t.to.rf, .slice z.2 z.1.t.args.length z.1.t.args.length] 50 (0, 0))) : V.rangeAt b 6 (nodeC z.1.t (.slice z.2 z.1.t.args.length z.1.t.args.length)) := fun j v hj => by
  have e : (#[.int .i64 z.1.kind, .int .i64 z.1.v.kind, .float .f64 z.1.v.x, .string z.1.v.s, .bool z.1.v.b, .int .i64 z.1.v.f, .int .i64 z.1.t.kind, .int .i64 z.1.t.op, .float .f64 z.1.t.x, .string z.1.t.s, .bool z.1.t.b, .int .i64 z.1.t.f, .int .i64 z.1.t.ref.a.1, .int .i64 z.1.t.ref.a.2, .bool z.1.t.ref.cf, .bool z.1.t.ref.rf, .int .i64 z.1.t.to.a.1, .int .i64 z.1.t.to.a.2, .bool z.1.t.to.cf, .bool z.1.t.to.rf, .slice z.2 z.1.t.args.length z.1.t.args.length] : Array Value).toList.drop 6 = nodeC z.1.t (.slice z.2 z.1.t.args.length z.1.t.args.length) := rfl
  rw [← e, List.getElem?_drop] at hj
  simp only [World.cell?, h]
  rw [← Array.getElem?_toList]
  exact hj
theorem cont_1 {cG : Ad → Ad × Bool} {aG : ArT → ArT × Bool} {c : ContT} (hk : c.kind = 1) : contG cG aG c = c := by unfold contG; rw [if_neg (by omega)]
set_option maxRecDepth 100000 in
set_option maxHeartbeats 8000000 in
theorem moveLines_any (l : List PI) (lv : Value) (cols : Bool) (line n : Int) (w : World) (hT : Tabs w) (hl : PutsIn w lv l) (hs : ∀ x ∈ l, smallT x.c.t) (hb1 : -9223372036854775808 ≤ line ∧ line ≤ 9223372036854775807) (hb2 : -9223372036854775808 ≤ n ∧ n ≤ 9223372036854775807) :
    Calls Tryz.prog 4 #[lv, .bool cols, .int .i64 line, .int .i64 n] w fun e w' => e = .returned (.bool true) ∧ Xt w w' := by
  obtain ⟨la, lc, rfl, hlc, hlc2⟩ := hl.shape
  have HOK0 := Lib.hid (fun M (hE : er M = allP [] (pis l)) => (show GOk (er M) by rw [hE]; exact allP_ok GOk.nil (pis_ok hl)))
  have HT := Lib.hid hT
  have HL := Lib.hid hl
  have HS := Lib.hid hs
  obtain ⟨k, hk⟩ : ∃ k, placeZ cols line = k := ⟨_, rfl⟩
  have HPL := Lib.hid (fun w => placeL_any cols line w hb1.1 hb1.2)
  have hkb := placeZ_bd cols line
  rw [hk] at HPL hkb
  obtain ⟨q, hq⟩ : ∃ q, pickZ n 81 = q := ⟨_, rfl⟩
  have HPK := Lib.hid (fun w => pickz_any n 81 w hb2.1 hb2.2 (by omega) (by omega))
  have hqb := pickZ_lt (c := n) (n := 81) (by omega)
  rw [hq] at HPK hqb
  obtain ⟨p, hp⟩ : ∃ p, q - 40 = p := ⟨_, rfl⟩
  have hwp : IntKind.i64.wrap (q - 40) = p := by rw [wrap_idz (by omega) (by omega)]; exact hp
  have hpb : -40 ≤ p ∧ p ≤ 40 := by omega
  have hmm := many_bd cols
  have hm2 : 256 ≤ manyL cols := by cases cols <;> decide
  have HLB : Hid (LB (manyL cols) k p) := ⟨hmm.1, hmm.2, hkb.1, hkb.2, by omega, by omega⟩
  obtain ⟨cG, hcG⟩ : ∃ cG, cellF cols ⟨k, p, manyL cols⟩ = cG := ⟨_, rfl⟩
  obtain ⟨aG, haG⟩ : ∃ aG, areaF cols ⟨k, p, manyL cols⟩ = aG := ⟨_, rfl⟩
  have HCG := Lib.hid hcG
  have HAG := Lib.hid haG
  have HLI := Lib.hid (fun gb mb M w hG hT hO => lines_lb cols k p HLB.out gb mb M w hG hT hO)
  unfold LinesR at HLI
  simp only [hcG, haG] at HLI
  obtain ⟨B, hB⟩ : ∃ B, w.heap.size = B := ⟨_, rfl⟩
  have HBw := Lib.hid hB
  obtain ⟨wa, hwa⟩ : ∃ wa, w.alloc (.cells #[.bool cols] 4) = wa := ⟨_, rfl⟩
  have hsa : wa.heap.size = B + 1 := by rw [← hwa, ← hB]; simp
  obtain ⟨w0, hw0⟩ : ∃ w0, wa.alloc (.cells #[.bool false] 4) = w0 := ⟨_, rfl⟩
  have hs0 : w0.heap.size = B + 1 + 1 := by rw [← hw0]; simp [hsa]
  have HX0 : Hid (Xt w w0) := by unfold Hid; rw [← hw0, ← hwa]; exact ((Xt.refl _).alloc _).alloc _
  have HR5 : Hid (w0.heap[B]? = some (.cells #[.bool cols] 4 (0, 0))) := rowX (w := wa) (by rw [← hw0]; exact (Xt.refl _).alloc _) (by rw [← hwa, ← hB]; exact (MapKept.heap_alloc w _).1)
  have HR8 : Hid (w0.heap[B + 1]? = some (.cells #[.bool false] 4 (0, 0))) := by unfold Hid; rw [← hw0, ← hsa]; exact (MapKept.heap_alloc wa _).1
  clear hT hl hs hk hq hcG haG hp hb1 hb2 hmm
  refine (callsIn_wide (n := 25)).1 ?_
  refine callsIn_of_wp_marks Tryz.func4 rfl trivial ?_ rfl
  simp only [Tryz.ntmps4, List.size_toArray, List.length_cons, List.length_nil, Nat.reduceAdd, Nat.reduceSub, Array.replicate_succ, Array.replicate_zero, List.push_toArray, List.append_toArray, List.nil_append, List.cons_append]
  refine wpIn_wide.2 ?_
  refine wp_mono (Q := noPanic (bodyPostM Fence.wide 25 Tryz.prog Tryz.f4 (fun e w' => e = .returned (.bool true) ∧ Xt w w'))) ?_ noPanic_le
  go_wp2_with (first
    | (go_at_call 12; refine (made22_any l (.slice la l.length lc) w0 (HT.out.xt HX0.out) (HL.out.xt HX0.out) HS.out).mono ?_; rintro e w1 ⟨gb, mb, M, rfl, hG, hE, hx1⟩; have HX1 := Lib.hid (HX0.out.trans hx1); have HX01 := Lib.hid hx1; have HG1 := Lib.hid hG; have HE := Lib.hid hE; clear hG hE hx1)
    | (go_at_call 11; refine (known_any _ (HT.out.xt HX1.out)).mono ?_; rintro e w2 ⟨rfl, hx2⟩; have HX02 := Lib.hid (HX01.out.trans hx2); have HG2 := Lib.hid (HG1.out.xt hx2); obtain ⟨R, hR⟩ : ∃ R, w2.heap.size = R := ⟨_, rfl⟩; obtain ⟨w3, hw3⟩ : ∃ w3, w2.alloc (.cells #[.int .i64 k] 3) = w3 := ⟨_, rfl⟩; obtain ⟨w4, hw4⟩ : ∃ w4, w3.alloc (.cells #[.int .i64 p] 3) = w4 := ⟨_, rfl⟩; have hs3 : w3.heap.size = R + 1 := (by rw [← hw3, ← hR]; simp); have hs4 : w4.heap.size = R + 1 + 1 := (by rw [← hw4]; simp [hs3]); have HX24 : Hid (Xt w2 w4) := (by unfold Hid; rw [← hw4, ← hw3]; exact ((Xt.refl _).alloc _).alloc _); have HX04 := Lib.hid (HX02.out.trans HX24.out); have HR10 : Hid (w4.heap[R]? = some (.cells #[.int .i64 k] 3 (0, 0))) := (rowX (w := w3) (by rw [← hw4]; exact (Xt.refl _).alloc _) (by rw [← hw3, ← hR]; exact (MapKept.heap_alloc w2 _).1)); have HR11 : Hid (w4.heap[R + 1]? = some (.cells #[.int .i64 p] 3 (0, 0))) := (by unfold Hid; rw [← hw4, ← hs3]; exact (MapKept.heap_alloc w3 _).1); have d5 := (one_row (rowX HX02.out HR5.out)).1; obtain ⟨c5, f5⟩ := one_row (rowX HX04.out HR5.out); obtain ⟨c10, f10⟩ := one_row HR10.out; obtain ⟨c11, f11⟩ := one_row HR11.out; clear hx2)
    | (go_at_call 13; refine (HPL.out _).mono ?_; rintro e w' ⟨rfl, rfl⟩)
    | (go_at_call 14; refine (HPK.out _).mono ?_; rintro e w' ⟨rfl, rfl⟩)
    | (go_at_call 15; refine (HLI.out gb mb M w4 (HG2.out.xt HX24.out) (HT.out.xt (HX0.out.trans HX04.out)) (HOK0.out M HE.out)).mono ?_; rintro e w5 ⟨hx5, hr⟩; rcases hr with ⟨hst, rfl⟩ | ⟨hst, go, mo, Mo, rfl, hGo, hEo⟩; (obtain ⟨e11, g11⟩ := one_row (rowX (hx5.alloc (.cells #[.pointer none] 38)) HR11.out); obtain ⟨e8, g8⟩ := one_row (rowX (HX04.out.trans (hx5.alloc (.cells #[.pointer none] 38))) HR8.out); have hpos := goStop_pos hst; have HX45 := Lib.hid hx5; clear c5 f5 c10 f10 c11 f11 hx5 d5 hst); rotate_left; (obtain ⟨R5, hR5⟩ : ∃ R5, w5.heap.size = R5 := ⟨_, rfl⟩; obtain ⟨w6, hw6⟩ : ∃ w6, w5.alloc (.cells #[.pointer (some ⟨go, 0, none⟩)] 38) = w6 := ⟨_, rfl⟩; have hs6 : w6.heap.size = R5 + 1 := (by rw [← hw6, ← hR5]; simp); have HR12 : Hid (w6.heap[R5]? = some (.cells #[.pointer (some ⟨go, 0, none⟩)] 38 (0, 0))) := (by unfold Hid; rw [← hw6, ← hR5]; exact (MapKept.heap_alloc w5 _).1); have HX46 : Hid (Xt w4 w6) := (by unfold Hid; rw [← hw6]; exact hx5.alloc _); have HX45 := Lib.hid hx5; have HX56 : Hid (Xt w5 w6) := (by unfold Hid; rw [← hw6]; exact (Xt.refl _).alloc _); obtain ⟨e12, g12⟩ := one_row HR12.out; have HGo := Lib.hid hGo; have HEo := Lib.hid hEo; have HST := Lib.hid hst; clear c5 f5 c10 f10 c11 f11 hx5 d5 hst hGo hEo); rotate_left)
    | (go_at_call 16; refine (all22_any gb _).mono ?_; rintro e w' ⟨rfl, rfl⟩))
  · obtain ⟨w6, hw6⟩ : ∃ w6, w5.alloc (.cells #[.pointer none] 38) = w6 := ⟨_, rfl⟩
    have hx56 : Xt w5 w6 := by rw [← hw6]; exact (Xt.refl _).alloc _
    have hc : (w6.setCell ⟨B + 1, 0, none⟩ (.bool true)).cell? ⟨B + 1, 0, none⟩ = some (.bool true) := World.cell?_setCell_same _ _ _ (by rw [← hw6]; exact e8)
    simp only [hw6]
    exact ⟨_, results_one rfl _ _ (B + 1) (.bool true) rfl (load_bool1 _ _ _ hc), rfl, (((HX0.out.trans HX04.out).trans HX45.out).trans hx56).grownB (setCell_grown _ _ _ _) (fun q hq => by cases hq; omega)⟩
  · obtain ⟨w7, hw7⟩ : ∃ w7, w6.alloc (.cells #[.int .i64 0] 3) = w7 := ⟨_, rfl⟩
    have hs7 : w7.heap.size = R5 + 1 + 1 := by rw [← hw7]; simp [hs6]
    have HR14 : Hid (w7.heap[R5 + 1]? = some (.cells #[.int .i64 0] 3 (0, 0))) := by unfold Hid; rw [← hw7, ← hs6]; exact (MapKept.heap_alloc w6 _).1
    have HX67 : Hid (Xt w6 w7) := by unfold Hid; rw [← hw7]; exact (Xt.refl _).alloc _
    simp only [hw7]
    obtain ⟨W0, hW0⟩ : ∃ W0, (w7.alloc (.cells #[.pointer (some ⟨gb, 0, none⟩)] 38)).alloc (.cells #[.func (.func 84) #[] #[]] 53) = W0 := ⟨_, rfl⟩
    have hsW : W0.heap.size = R5 + 4 := by rw [← hW0]; simp [hs7]
    have HX7W : Hid (Xt w7 W0) := by unfold Hid; rw [← hW0]; exact ((Xt.refl _).alloc _).alloc _
    have HcgW : W0.cell? ⟨R5 + 2, 0, none⟩ = some (.pointer (some ⟨gb, 0, none⟩)) := by
      have := rowX (w := w7.alloc (.cells #[.pointer (some ⟨gb, 0, none⟩)] 38)) (w' := W0) (by rw [← hW0]; exact (Xt.refl _).alloc _) (MapKept.heap_alloc w7 _).1
      rw [hs7] at this
      exact (one_row this).1
    have rBw : W0.heap[R5 + 3]? = some (.cells #[.func (.func 84) #[] #[]] 53 (0, 0)) := by
      rw [← hW0]
      have := (MapKept.heap_alloc (w7.alloc (.cells #[.pointer (some ⟨gb, 0, none⟩)] 38)) (.cells #[.func (.func 84) #[] #[]] 53)).1
      simpa [hs7] using this
    simp only [hW0]
    have HX6W : Hid (Xt w6 W0) := HX67.out.trans HX7W.out
    have HX4W : Hid (Xt w4 W0) := HX46.out.trans HX6W.out
    have HX0W : Hid (Xt w0 W0) := HX04.out.trans HX4W.out
    have HXW : Hid (Xt w W0) := HX0.out.trans HX0W.out
    have HG6 : Hid (GridIs w6 gb mb M) := HG2.out.xt (HX24.out.trans HX46.out)
    have HGoW : Hid (GridIs W0 go mo Mo) := HGo.out.xt (HX56.out.trans HX6W.out)
    have HR14W := Lib.hid (rowX HX7W.out HR14.out)
    have HR12W := Lib.hid (rowX HX6W.out HR12.out)
    have HR10W := Lib.hid (rowX HX4W.out HR10.out)
    have HR11W := Lib.hid (rowX HX4W.out HR11.out)
    have HR5W := Lib.hid (rowX HX0W.out HR5.out)
    have HR8W := Lib.hid (rowX HX0W.out HR8.out)
    have hBR : B + 1 < R := by have := HX02.out.size; omega
    have hRR : R + 1 < R5 := by have := HX45.out.size; omega
    have HO := Lib.hid (HOK0.out M HE.out)
    have hgoR : go < R5 := by have := HGo.out.lt.1; omega
    have hmoR : mo < R5 := by have := HGo.out.lt.2; omega
    clear e12 g12 hw7 hw6 hw4 hw3 hwa hw0 hW0 hs0 hsa hs3 hs4 hs7
    generalize hA0 : Act.mk _ _ = a0
    refine (wpIn_wide (n := 25)).1 ?_
    refine rangeFunc_told (n := 25) (by omega) (gf := 98) (lb := #[.pointer (some ⟨R5 + 2, 0, none⟩), .pointer (some ⟨R5 + 3, 0, none⟩)]) (by subst hA0; rfl) (enters_of Tryz.func98 (by kernel_rfl) rfl)
      (some1_told (fun _ => false) 84 #[] (enters_of Tryz.func84 (by kernel_rfl) rfl) (fun _ => true) w6.heap.size w6 rfl (fun _ => True) (fun _ _ _ _ _ => trivial) (fun a W _ => all1_any a W) (25 - 1) (by omega) (R5 + 2) (R5 + 3) gb mb M HG6.out W0 (HX6W.out.mono (by omega)) trivial (by omega) HcgW rBw)
      (fun h k => ⟨h.1.trans k.1, h.2.trans k.2⟩) (fun W l o o' hl ho hc hw => ⟨belowK_b (w := W0) (by omega) W l o o' hl ho hc hw, KeepsT.of_grown (grownBy_putObj' W l o') (fun j o2 e h2 => by cases e; rw [ho] at h2; cases h2; cases o <;> simp_all [keptO, Obj.isCells, Obj.isWalk])⟩) (Below.refl _ _) (fun _ => rfl)
      (fun pre W => LI W0 (R5 + 1) (fun pre => (cntP cG (pre.map tpT) : Int)) pre W)
      (fun c pre W => False)
      LI.own
      (fun c s X Y row hs hg hr => hs.elim)
      ⟨⟨rfl, rfl, rfl, Nat.le_refl _, fun _ _ _ => rfl⟩, HR14W.out⟩
      (fun x a' W => ∃ (z : CE) (Bx By nT : Nat), z.1 = copyC x.2.1 ∧ z.2 = x.2.2 ∧ Bx ≠ R5 + 1 ∧ By ≠ R5 + 1 ∧ W.heap[Bx]? = some (.cells #[.int .i64 x.1.1, .int .i64 x.1.2] 24 (0, 0)) ∧ W.heap[By]? = some (.cells #[.int .i64 z.1.kind, .int .i64 z.1.v.kind, .float .f64 z.1.v.x, .string z.1.v.s, .bool z.1.v.b, .int .i64 z.1.v.f, .int .i64 z.1.t.kind, .int .i64 z.1.t.op, .float .f64 z.1.t.x, .string z.1.t.s, .bool z.1.t.b, .int .i64 z.1.t.f, .int .i64 z.1.t.ref.a.1, .int .i64 z.1.t.ref.a.2, .bool z.1.t.ref.cf, .bool z.1.t.ref.rf, .int .i64 z.1.t.to.a.1, .int .i64 z.1.t.to.a.2, .bool z.1.t.to.cf, .bool z.1.t.to.rf, .slice z.2 z.1.t.args.length z.1.t.args.length] 50 (0, 0)) ∧ smallT z.1.t ∧ ArgsIn W nT (.slice z.2 z.1.t.args.length z.1.t.args.length) z.1.t.args ∧ (x.1, x.2.1) ∈ er M ∧
        a' = { tmps := (((a0.tmps.setIfInBounds 56 (adW x.1)).setIfInBounds 57 (ceV z)).setIfInBounds 15 (.pointer (some ⟨Bx, 0, none⟩))).setIfInBounds 16 (.pointer (some ⟨By, 0, none⟩)), defers := [] })
      (fun x a' _ X Y row hs hg hr => by
        obtain ⟨z, Bx, By, nT, e1, e2, n1, n2, h1, h2, h3, h4, h5⟩ := hs
        exact ⟨z, Bx, By, nT, e1, e2, n1, n2, rowCells_own h1 hg (fun r e => (hr r e).2), rowCells_own h2 hg (fun r e => (hr r e).2), h3, h4.kept (cellsIn_walk hg (fun r e => (hr r e).2)), h5⟩)
      ?assign ?body ?done ?stop
    case stop =>
      rintro D c pre W hD ⟨i, hS⟩ hF hK
      exact hF.elim
    case done =>
      rintro D xs W hD hS hI hK
      subst hA0
      obtain ⟨hgr, hcn⟩ := hI
      rw [told_all hS] at hcn
      have HX6 : Hid (Xt w6 W) := HX6W.out.grownB hgr (fun q hq => by cases hq; omega)
      have HXw : Hid (Xt w W) := HXW.out.grownB hgr (fun q hq => by cases hq; have := HX0.out.size; have := HX04.out.size; omega)
      have HGW : Hid (GridIs W go mo Mo) := HGo.out.xt (HX56.out.trans HX6.out)
      obtain ⟨len, hln⟩ : ∃ len : Int, (Mo.length : Int) = len := ⟨_, rfl⟩
      have hlen : ((cntP cG (er M) : Nat) : Int) = len := by rw [← hln, ← er_len, HEo.out]; unfold goP cntP; rw [List.length_map]
      rw [hlen] at hcn
      have HLN := Lib.hid (glen_any go mo Mo W.drew (HGW.out.xt (Xt.refl W).drew))
      rw [hln] at HLN
      clear hlen hln
      have r12 := rowX HX6.out HR12.out
      have r8 := rowX ((HX04.out.trans HX46.out).trans HX6.out) HR8.out
      have hxd : Xt W W.drew := (Xt.refl W).drew
      obtain ⟨c12, _⟩ := one_row (rowX hxd r12)
      obtain ⟨c14, _⟩ := one_row (rowX hxd hcn)
      obtain ⟨e8, g8⟩ := one_row (rowX hxd r8)
      have HK := Lib.hid hK
      have hDB : B + 1 < D := by omega
      clear r12 r8 hcn hgr hS hK hxd
      go_wp2_with fail
      refine wp_region_held_drew (S := fun V => V.cell? ⟨R5, 0, none⟩ = some (.pointer (some ⟨go, 0, none⟩)) ∧ V.cell? ⟨R5 + 1, 0, none⟩ = some (.int .i64 len)) (by kernel_rfl) ⟨c12, c14⟩ (fun hHeld => ?_)
      refine wpAnyH_take (i := 0) (oi := _) (v := ?_) rfl (by kernel_rfl) (by kernel_rfl) (by kernel_rfl) (fun _ _ _ h => h) (Or.inl ⟨by rfl, ?_⟩) (by assumption) ?_
      rotate_left
      · intro V hSw; (try dsimp only at hSw); obtain ⟨u0, u1⟩ := hSw; go_simp; first | done | with_reducible rfl
      try simp only [Act.put, List.getElem_toArray, List.getElem_cons_zero, List.setIfInBounds_toArray, List.set_cons_zero, List.set_cons_succ]
      refine wpAnyH_take (i := 2) (oi := _) (v := ?_) rfl (by kernel_rfl) (by kernel_rfl) (by kernel_rfl) (fun _ _ _ h => h) (Or.inl ⟨by rfl, ?_⟩) (by assumption) ?_
      rotate_left
      · intro V hSw; (try dsimp only at hSw); obtain ⟨u0, u1⟩ := hSw; go_simp; first | done | with_reducible rfl
      try simp only [Act.put, List.getElem_toArray, List.getElem_cons_zero, List.getElem_cons_succ, List.setIfInBounds_toArray, List.set_cons_zero, List.set_cons_succ]
      refine wpAnyH_ready (rs := [1]) (by kernel_rfl) (by simp) ?_
      refine AllReadyH.cons (o := _) rfl (fun K hK => ?_) AllReadyH.nil
      go_simp
      refine (HLN.out).mono ?_
      rintro e w' ⟨rfl, rfl⟩
      refine hK.out _ _ hHeld (fun hHeld2 => ?_)
      clear hK K
      try simp only [Act.put, List.getElem_toArray, List.getElem_cons_zero, List.getElem_cons_succ, List.setIfInBounds_toArray, List.set_cons_zero, List.set_cons_succ]
      refine wpAnyH_take (i := 3) (oi := _) (v := ?_) rfl (by kernel_rfl) (by kernel_rfl) (by kernel_rfl) (fun _ _ _ h => h) (Or.inl ⟨by rfl, ?_⟩) (by assumption) ?_
      rotate_left
      · intro V hSw; (try dsimp only at hSw); obtain ⟨u0, u1⟩ := hSw; go_simp; first | done | with_reducible rfl
      try simp only [Act.put, List.getElem_toArray, List.getElem_cons_zero, List.getElem_cons_succ, List.setIfInBounds_toArray, List.set_cons_zero, List.set_cons_succ]
      refine wpAnyH_ready (rs := [4]) (by kernel_rfl) (by simp) ?_
      refine AllReadyH.cons (o := _) rfl (fun K hK => ?_) AllReadyH.nil
      go_simp
      refine hK.out _ _ ⟨(World.cell?_setCell_other _ _ _ _ (by simp)).trans c12, (World.cell?_setCell_other _ _ _ _ (by simp)).trans c14⟩ (fun hHeld3 => ?_)
      clear hK K
      refine wpAnyH_done (by kernel_rfl) ?_ _
      go_wp2_with fail
      obtain ⟨W', hW'⟩ : ∃ W', (W.setCell ⟨B + 1, 0, none⟩ (.bool true)).drew = W' := ⟨_, rfl⟩
      have k8 : W'.cell? ⟨B + 1, 0, none⟩ = some (.bool true) := by rw [← hW']; exact World.cell?_setCell_same _ _ _ e8
      have hKW : W'.heap[D]? = some (.deferred (some [])) := by rw [← hW']; exact (Below.heap_setCell _ _ _ _ (fun e => by simp at e; omega)).trans HK.out
      have hxE : Xt w (W'.putObj D (.deferred none)) := by
        rw [← hW']
        exact ((HXw.out.grownB (setCell_grown _ _ _ _) (fun q hq => by cases hq; omega)).drew).grownB (grownBy_putObj' _ D _) (fun q hq => by cases hq; omega)
      have k8' : (W'.putObj D (.deferred none)).cell? ⟨B + 1, 0, none⟩ = some (.bool true) := (World.cell?_of_block (w := W') (a := ⟨B + 1, 0, none⟩) (World.putObj_heap_other (by show B + 1 ≠ D; omega))).trans k8
      rw [hW']
      refine ⟨by simp, .inl ⟨_, _, rfl, run_takeDeferred hKW, ?_⟩⟩
      exact ⟨_, results_one rfl _ _ (B + 1) (.bool true) rfl (load_bool1 _ _ _ k8'), rfl, hxE⟩
    case assign =>
      rintro l0 pre x W K hI ⟨V, hIV, ⟨hxV, hsm, nT, hA⟩, hmem⟩ hK
      subst hA0
      obtain ⟨⟨c, d⟩, tc, tp⟩ := x
      obtain ⟨z, hz1, hz2⟩ : ∃ z : CE, z.1 = copyC tc ∧ z.2 = tp := ⟨(copyC tc, tp), rfl, rfl⟩
      have hzv : copyCV tc tp = ceV z := by rw [← ceV_copy]; obtain ⟨z1, z2⟩ := z; simp only at hz1 hz2; rw [hz1, hz2]
      have hzA : smallT z.1.t ∧ ArgsIn W nT (.slice z.2 z.1.t.args.length z.1.t.args.length) z.1.t.args := by
        rw [hz1, hz2]
        refine ⟨smallT_copy _ hsm, ?_⟩
        show ArgsIn _ _ (.slice tp (copyT tc.t).args.length (copyT tc.t).args.length) (copyT tc.t).args
        rw [copyT_len, copyT_args]
        exact hA.args
      have HZ := Lib.hid (show z.1 = copyC tc ∧ z.2 = tp from ⟨hz1, hz2⟩)
      have HZA := Lib.hid hzA
      simp only [teV, hzv]
      clear hz1 hz2 hzv hzA hA hsm hIV hxV
      have hWs : R5 + 4 ≤ W.heap.size := by have := hI.grown.size; omega
      obtain ⟨wA, hwA, hbA, hsA, kA0, kA1⟩ := box1 W c d 24
      obtain ⟨wZ, wR, hwZ, hwR, hrZ, hrR, hxR, hsR, hxZ, hsZ⟩ := boxR wA z
      rw [hsA] at hrZ hwR hrR
      have hrA : wA.heap[W.heap.size]? = some (.cells #[.int .i64 c, .int .i64 d] 24 (0, 0)) := by rw [← hwA]; exact World.alloc_heap_new W _
      have hxWR := Lib.hid (Xt.trans hbA hxR)
      have HRA := Lib.hid ((hxR.block _ (by omega)).trans hrA)
      have HRZ := Lib.hid hrZ
      have HRR := Lib.hid hrR
      have HWR := Lib.hid hwR
      have HWs := Lib.hid hWs
      clear hrZ hwR hrR hrA kA0 kA1 hbA hxZ hxR hWs
      gi_wp2_with (first | (refine wpListIn_store_row (P := Tryz.prog) rfl 50 _ _ rfl (W.heap.size + 1) #[.int .i64 z.1.kind, .int .i64 z.1.v.kind, .float .f64 z.1.v.x, .string z.1.v.s, .bool z.1.v.b, .int .i64 z.1.v.f, .int .i64 z.1.t.kind, .int .i64 z.1.t.op, .float .f64 z.1.t.x, .string z.1.t.s, .bool z.1.t.b, .int .i64 z.1.t.f, .int .i64 z.1.t.ref.a.1, .int .i64 z.1.t.ref.a.2, .bool z.1.t.ref.cf, .bool z.1.t.ref.rf, .int .i64 z.1.t.to.a.1, .int .i64 z.1.t.to.a.2, .bool z.1.t.to.cf, .bool z.1.t.to.rf, .slice z.2 z.1.t.args.length z.1.t.args.length] rfl rfl 50 _ HRZ.out (by kernel_rfl) rfl (by simp [Value.oneCell']) ?_; rw [HWR.out]))
      have hx := hxWR.out
      have hWs := HWs.out
      refine hK _ _ (keepsFrom_xt hx _) ⟨hx.mono (by omega), KeepsT.of_xt hx⟩ ⟨grownBy_far hI.grown hx.grownN (fun r e => by cases e), rowX hx hI.cnt⟩ ?_
      refine ⟨z, W.heap.size, W.heap.size + 1, nT, HZ.out.1, HZ.out.2, by omega, by omega, HRA.out, HRR.out, HZA.out.1, HZA.out.2.xt hx, hmem, ?_⟩
      simp only [List.setIfInBounds_toArray, List.set_cons_zero, List.set_cons_succ]
    case body =>
      rintro l0 pre x a' W hl0 ⟨r, hr⟩ hI ⟨z, Bx, By, nT, hz1, hz2, nBx, nBy, hBx, hBy, hzs, hzA, hmem, rfl⟩ hlt
      subst hA0
      obtain ⟨⟨c, d⟩, tc, tp⟩ := x
      simp only at hBx hz1 hz2
      obtain ⟨hgr, hcn⟩ := hI
      obtain ⟨v1, v2, v3, v4, v5⟩ := HO.out.each _ hmem
      simp only at v1 v2 v3 v4 v5
      rw [v4] at hz1
      have HZ := Lib.hid (show z.1 = tc ∧ z.2 = tp from ⟨hz1, hz2⟩)
      have HV1 := Lib.hid v1
      have HVZ : Hid (gvalidB z.1 = true) := by unfold Hid; rw [hz1]; exact v2
      have HOZ : Hid z.1.ok := by unfold Hid; rw [hz1]; exact v5
      have HK12 : Hid (z.1.kind = 1 ∨ z.1.kind = 2) := by unfold Hid; rw [hz1]; exact kind_12 v2 v3
      have HZA := Lib.hid (show smallT z.1.t ∧ ArgsIn W nT (.slice z.2 z.1.t.args.length z.1.t.args.length) z.1.t.args from ⟨hzs, hzA⟩)
      have HMEM := Lib.hid hmem
      have HX6 : Hid (Xt w6 W) := HX6W.out.grownB hgr (fun q hq => by cases hq; omega)
      have HX5 : Hid (Xt w5 W) := HX56.out.trans HX6.out
      have HXw : Hid (Xt w W) := HXW.out.grownB hgr (fun q hq => by cases hq; have := HX0.out.size; have := HX04.out.size; omega)
      have HGW : Hid (GridIs W go mo Mo) := HGo.out.xt HX5.out
      have rB := rowX ((HX04.out.trans HX46.out).trans HX6.out) HR5.out
      have r10 := rowX (HX46.out.trans HX6.out) HR10.out
      have r11 := rowX (HX46.out.trans HX6.out) HR11.out
      have r12 := rowX HX6.out HR12.out
      have hWs : R5 + 4 ≤ W.heap.size := by have := hgr.size; omega
      obtain ⟨cnt, hcnt⟩ : ∃ cnt : Int, ((cntP cG (pre.map tpT) : Nat) : Int) = cnt := ⟨_, rfl⟩
      have hcb : 0 ≤ cnt ∧ cnt ≤ 4096 := by
        have h1 : cntP cG (pre.map tpT) ≤ 4096 := by
          have h2 := List.length_filter_le (fun x : Ad × ContT => (cG x.1).2) (pre.map tpT)
          have h3 : (pre.map tpT).length ≤ 4096 := by
            have h4 := HO.out.many
            rw [er_len] at h4
            rw [List.length_map]
            omega
          unfold cntP
          omega
        omega
      rw [hcnt] at hcn
      have HCN := Lib.hid hcnt
      have hbl := validB_le v1
      obtain ⟨zz, hzz⟩ : ∃ zz, (if cols = true then c else d) = zz := ⟨_, rfl⟩
      have hzb : 1 ≤ zz ∧ zz ≤ manyL cols := by rw [← hzz]; cases cols <;> simp only [if_true, Bool.false_eq_true, if_false, manyL] <;> omega
      have hzm : manyL cols ≤ 4096 := (many_bd cols).2
      obtain ⟨y, hy⟩ : ∃ y, cG (c, d) = y := ⟨_, rfl⟩
      have hcf := cellF_z HLB.out (a := (c, d)) v1
      rw [HCG.out, hy] at hcf
      simp only [hzz] at hcf
      have hlz := lineZ_bool (k := k) (n := p) (m := manyL cols) (z := zz)
      obtain ⟨⟨y1, y2⟩, yo⟩ := y
      have HY := Lib.hid hy
      have HF : Hid (∀ V, Xt W V → (V.cell? ⟨B, 0, none⟩ = some (.bool cols) ∧ V.cell? ⟨R, 0, none⟩ = some (.int .i64 k) ∧ V.cell? ⟨R + 1, 0, none⟩ = some (.int .i64 p) ∧ V.cell? ⟨R5, 0, none⟩ = some (.pointer (some ⟨go, 0, none⟩)) ∧ V.cell? ⟨R5 + 1, 0, none⟩ = some (.int .i64 cnt) ∧ V.frozen? ⟨R5 + 1, 0, none⟩ = false) ∧ V.heap[By]? = some (.cells #[.int .i64 z.1.kind, .int .i64 z.1.v.kind, .float .f64 z.1.v.x, .string z.1.v.s, .bool z.1.v.b, .int .i64 z.1.v.f, .int .i64 z.1.t.kind, .int .i64 z.1.t.op, .float .f64 z.1.t.x, .string z.1.t.s, .bool z.1.t.b, .int .i64 z.1.t.f, .int .i64 z.1.t.ref.a.1, .int .i64 z.1.t.ref.a.2, .bool z.1.t.ref.cf, .bool z.1.t.ref.rf, .int .i64 z.1.t.to.a.1, .int .i64 z.1.t.to.a.2, .bool z.1.t.to.cf, .bool z.1.t.to.rf, .slice z.2 z.1.t.args.length z.1.t.args.length] 50 (0, 0)) ∧ V.cell? ⟨By, 0, none⟩ = some (.int .i64 z.1.kind) ∧ V.rangeAt By 6 [.int .i64 z.1.t.kind, .int .i64 z.1.t.op, .float .f64 z.1.t.x, .string z.1.t.s, .bool z.1.t.b, .int .i64 z.1.t.f, .int .i64 z.1.t.ref.a.1, .int .i64 z.1.t.ref.a.2, .bool z.1.t.ref.cf, .bool z.1.t.ref.rf, .int .i64 z.1.t.to.a.1, .int .i64 z.1.t.to.a.2, .bool z.1.t.to.cf, .bool z.1.t.to.rf, .slice z.2 z.1.t.args.length z.1.t.args.length] ∧ V.cell? ⟨Bx, 0, none⟩ = some (.int .i64 c) ∧ V.cell? ⟨Bx, 1, none⟩ = some (.int .i64 d)) := Lib.hid fun V hV => by
        obtain ⟨a1, _⟩ := one_row (rowX hV rB)
        obtain ⟨a2, _⟩ := one_row (rowX hV r10)
        obtain ⟨a3, _⟩ := one_row (rowX hV r11)
        obtain ⟨a4, _⟩ := one_row (rowX hV r12)
        obtain ⟨a5, a6⟩ := one_row (rowX hV hcn)
        have hb := rowX hV hBy
        obtain ⟨a7, a8, _, _⟩ := cells2 (rowX hV hBx)
        exact ⟨⟨a1, a2, a3, a4, a5, a6⟩, hb, by simp [World.cell?, hb], row_mid hb, a7, a8⟩
      have HRN := Lib.hid hcn
      have HGR := Lib.hid hgr
      have HBY := Lib.hid hBy
      obtain ⟨⟨cB, c10, c11, c12, c14, f14⟩, _, _, _, x0, x1⟩ := HF.out W (Xt.refl W)
      clear hcn hgr rB r10 r11 r12 hBx hBy hz1 hz2 hzs hzA hr hlt v1 v2 v3 v4 v5 hmem hy hcnt
      simp only [List.setIfInBounds_toArray, List.set_cons_zero, List.set_cons_succ]
      have hfa : Fence.wide.fn 17 := trivial
      have hfb : Fence.wide.fn 18 := trivial
      have hfc : Fence.wide.fn 19 := trivial
      have hfd : Fence.wide.fn 20 := trivial
      have hfe : Fence.wide.fn 8 := trivial
      have hff : Fence.wide.fn 10 := trivial
      gi_upto_if 60 with fail
      gi_cut [17] from 145 (fun s17 wc => s17 = .int .i64 zz ∧ W = wc)
      case first =>
        cases cols
        · simp only [Bool.false_eq_true, if_false] at hzz
          subst hzz
          gi_wp2_with fail
          gi_meet
          case rel => exact ⟨rfl, rfl⟩
        · simp only [if_true] at hzz
          subst hzz
          gi_wp2_with fail
          gi_meet
          case rel => exact ⟨rfl, rfl⟩
      case rest =>
        obtain ⟨rfl, rfl⟩ := hcut
        have hsub : IntKind.i64.wrap (k - p) = k - p := wrap_idz (by omega) (by omega)
        have hadd : IntKind.i64.wrap (zz + p) = zz + p := wrap_idz (by omega) (by omega)
        by_cases hsk : p < 0 ∧ k ≤ zz ∧ zz < k - p
        · obtain ⟨s1, s2, s3⟩ := hsk
          have hyo : yo = false := by
            cases yo
            · rfl
            · exact absurd (hlz.1 (congrArg Prod.snd hcf).symm) (by omega)
          have HYO := Lib.hid hyo
          clear hyo hcf hlz hzz
          gi_wp2_with fail
          refine ⟨keepsFrom_xt (Xt.refl _) _, ⟨(Xt.refl _).mono (by omega), KeepsT.of_xt (Xt.refl _)⟩, ⟨HGR.out, ?_⟩⟩
          rw [List.map_append, List.map_cons, List.map_nil, cntP_snoc, if_neg (by rw [show tpT ((c, d), tc, tp) = ((c, d), tc) from rfl, HY.out, HYO.out]; exact Bool.false_ne_true), HCN.out]
          exact HRN.out
        · have hyo : yo = true := by
            by_cases hpp : 0 < p
            · have h := goStop_all HST.out hpp _ HMEM.out
              simp only at h
              rw [HY.out] at h
              exact h
            · exact (congrArg Prod.snd hcf).trans (hlz.2 (by omega))
          subst hyo
          obtain ⟨z2, hz2⟩ : ∃ z2, (if zz < k then zz else zz + p) = z2 := ⟨_, rfl⟩
          have hlz1 : (lineZ k p (manyL cols) zz).1 = z2 := by rw [← hz2]; unfold lineZ; split <;> (try split) <;> rfl
          have hy12 : (y1, y2) = (if cols = true then (z2, d) else (c, z2)) := by
            have h := congrArg Prod.fst hcf
            simp only at h
            rw [h]
            cases cols
            · simp only [Bool.false_eq_true, if_false] at hzz ⊢; rw [hzz, hlz1]
            · simp only [if_true] at hzz ⊢; rw [hzz, hlz1]
          clear hcf hlz hlz1
          gi_upto_region 18 with fail
          gi_cut [76] from 145 (fun s76 wc => s76 = .bool false ∧ W = wc)
          case first =>
            by_cases s1 : p < 0
            · by_cases s2 : k ≤ zz
              · have s3 : ¬ zz < k - p := by omega
                gi_wp2_with fail
                gi_meet
                case rel => exact ⟨rfl, rfl⟩
              · gi_wp2_with fail
                gi_meet
                case rel => exact ⟨rfl, rfl⟩
            · gi_wp2_with fail
              gi_meet
              case rel => exact ⟨rfl, rfl⟩
          case rest =>
            obtain ⟨rfl, rfl⟩ := hcut
            gi_upto_if 79 with fail
            gi_cut [17, 79, 80, 81, 82] from 145 (fun s17 _ _ _ _ wc => s17 = .int .i64 z2 ∧ W = wc)
            case first =>
              by_cases s1 : zz < k
              · rw [if_pos s1] at hz2
                subst hz2
                have s2 : ¬ k ≤ zz := by omega
                gi_wp2_with fail
                gi_meet
                case rel => exact ⟨rfl, rfl⟩
              · rw [if_neg s1] at hz2
                subst hz2
                have s2 : k ≤ zz := by omega
                gi_wp2_with fail
                gi_meet
                case rel => exact ⟨rfl, rfl⟩
            case rest =>
              obtain ⟨rfl, rfl⟩ := hcut
              gi_upto_if 87 with (first
                | (gi_at_call 17; refine (callsIn_round (at_any (_, _) _)).mono ?_; rintro e v1 ⟨rfl, hg1⟩; obtain ⟨wy, hwy⟩ : ∃ wy, v1.alloc (.cells #[.int .i64 c, .int .i64 z2] 24) = wy := ⟨_, rfl⟩; have HXY : Hid (Xt W wy) := (by unfold Hid; rw [← hwy]; exact hg1.xt.alloc _); have HRY : Hid (wy.heap[v1.heap.size]? = some (.cells #[.int .i64 c, .int .i64 z2] 24 (0, 0))) := (by unfold Hid; rw [← hwy]; exact (MapKept.heap_alloc v1 _).1); have hvs := hg1.xt.size; obtain ⟨⟨cB', _, _, _, _, _⟩, _, _, _, x0', x1'⟩ := HF.out wy HXY.out; clear hg1 cB c10 c11 c12 c14 f14 x0 x1))
              gi_cut [88, 89, 90, 91] from 145 (fun _ _ _ _ wc => Hid (Xt W wc) ∧ Hid (wc.heap[v1.heap.size]? = some (.cells #[.int .i64 y1, .int .i64 y2] 24 (0, 0))))
              case first =>
                cases cols
                · simp only [Bool.false_eq_true, if_false, Prod.mk.injEq] at hy12
                  obtain ⟨rfl, rfl⟩ := hy12
                  gi_wp2_with fail
                  gi_meet
                  case rel => exact ⟨HXY, HRY⟩
                · simp only [if_true, Prod.mk.injEq] at hy12
                  obtain ⟨rfl, rfl⟩ := hy12
                  gi_wp2_with (first
                    | (gi_at_call 17; refine (callsIn_round (at_any (_, _) _)).mono ?_; rintro e v2 ⟨rfl, hg2⟩; have HXY2 : Hid (Xt W v2) := HXY.out.trans hg2.xt; have HRY2 := Lib.hid (rowX hg2.xt HRY.out); obtain ⟨g0, g1, h0, h1⟩ := cells2 HRY2.out; clear hg2))
                  gi_meet
                  case rel =>
                    refine ⟨(HXY2.out.grownB (setCell_grown _ _ _ _) (fun q hq => by cases hq; omega)).grownB (setCell_grown _ _ _ _) (fun q hq => by cases hq; omega), ?_⟩
                    exact setCell_row (setCell_row HRY2.out 0 _) 1 _
              case rest =>
                obtain ⟨HXc, HRc⟩ := hcut
                clear hy12 hz2 hzz hsk hadd hsub cB' x0' x1' HXY HRY
                have hzt : z.1 = tc := HZ.out.1
                have HRV : Hid (RoadV cG aG) := by unfold Hid; rw [← HCG.out, ← HAG.out]; exact lines_roadV HLB.out
                have HMC : Hid (MonoC cG) := by unfold Hid; rw [← HCG.out]; exact lines_monoC HLB.out
                obtain ⟨u, hu⟩ : ∃ u, contG cG aG z.1 = u := ⟨_, rfl⟩
                have HCT : Hid (copyC tc = tc) := (HO.out.each _ HMEM.out).2.2.2.1
                have HCU : Hid (copyC u = u) := by
                  unfold Hid
                  have := contG_copy cG aG tc
                  rw [HCT.out, ← hzt, hu] at this
                  exact this
                have HU : Hid (((lkM (y1, y2) Mo).getD (zeroC, none)).1 = u) := by
                  unfold Hid
                  have h := goP_get HRV.out HMC.out HO.out HMEM.out (by show (cG (c, d)).2 = true; rw [HY.out])
                  simp only [HY.out] at h
                  rw [er_getD, HEo.out, h, ← hu, hzt]; rfl
                have HVY : Hid (validB y1 y2 = true) := by
                  have h := HRV.out.cell (c, d) HV1.out (by rw [HY.out])
                  rw [HY.out] at h
                  exact h
                have HUZ := Lib.hid hu
                clear hu hzt
                obtain ⟨⟨cB, c10, c11, c12, c14, f14⟩, _, _, _, x0, x1⟩ := HF.out _ HXc.out
                obtain ⟨g0, g1, _, _⟩ := cells2 HRc.out
                rcases HK12.out with hk1 | hk2
                · have HK := Lib.hid hk1
                  clear hk1
                  gi_wp2_with (first
                    | (gi_at_call 18; refine (callsIn_round (gget_any go mo Mo (y1, y2) _ (HGW.out.xt HXc.out))).mono ?_; rintro e w7 ⟨n7, a7, rfl, hA7, hx7⟩; rw [HU.out] at hA7; rw [HU.out]; obtain ⟨zd, hd1, hd2⟩ : ∃ zd : CE, zd.1 = u ∧ zd.2 = a7 := ⟨(u, a7), rfl, rfl⟩; have hzv : copyCV u a7 = ceV zd := (by rw [← ceV_copy, HCU.out]; obtain ⟨zd1, zd2⟩ := zd; simp only at hd1 hd2; rw [hd1, hd2]); rw [hzv]; have HAD7 : Hid (ArgsIn w7 n7 (.slice zd.2 zd.1.t.args.length zd.1.t.args.length) zd.1.t.args) := (by unfold Hid; have h := hA7.args; rw [← copyT_args, show copyT u.t = u.t from congrArg ContT.t HCU.out] at h; rw [hd1, hd2]; exact h); have HD : Hid (zd.1 = contG cG aG z.1) := hd1.trans HUZ.out.symm; obtain ⟨wZ, wR, hwZ, hwR, hrZ, hrR, hxR, hsR, hxZ, hsZ⟩ := boxR w7 zd; have HXR : Hid (Xt W wR) := (HXc.out.trans hx7).trans hxR; have HRc := Lib.hid (rowX (hx7.trans hxR) HRc.out); have HAD : Hid (ArgsIn wR n7 (.slice zd.2 zd.1.t.args.length zd.1.t.args.length) zd.1.t.args) := HAD7.out.xt hxR; have HRZ := Lib.hid hrZ; have HRD := Lib.hid hrR; have HWR := Lib.hid hwR; clear g0 g1 cB c10 c11 c12 c14 f14 x0 x1; obtain ⟨g0, g1, _, _⟩ := cells2 HRc.out; clear hrZ hwR hrR hxR hxZ hA7 hx7 hzv hd1 hd2)
                    | (refine wpListIn_store_row (P := Tryz.prog) rfl 50 _ _ rfl w7.heap.size #[.int .i64 zd.1.kind, .int .i64 zd.1.v.kind, .float .f64 zd.1.v.x, .string zd.1.v.s, .bool zd.1.v.b, .int .i64 zd.1.v.f, .int .i64 zd.1.t.kind, .int .i64 zd.1.t.op, .float .f64 zd.1.t.x, .string zd.1.t.s, .bool zd.1.t.b, .int .i64 zd.1.t.f, .int .i64 zd.1.t.ref.a.1, .int .i64 zd.1.t.ref.a.2, .bool zd.1.t.ref.cf, .bool zd.1.t.ref.rf, .int .i64 zd.1.t.to.a.1, .int .i64 zd.1.t.to.a.2, .bool zd.1.t.to.cf, .bool zd.1.t.to.rf, .slice zd.2 zd.1.t.args.length zd.1.t.args.length] rfl rfl 50 _ HRZ.out (by kernel_rfl) rfl (by simp [Value.oneCell']) ?_; rw [HWR.out])
                    | (gi_at_call 19; refine (callsIn_round (valid_any y1 y2 _)).mono ?_; rintro e w' ⟨rfl, rfl⟩; obtain ⟨wV, hwV⟩ : ∃ wV, wR.alloc (.cells #[.int .i64 y1, .int .i64 y2] 24) = wV := ⟨_, rfl⟩; rw [HVY.out]; have HXRV : Hid (Xt wR wV) := (by unfold Hid; rw [← hwV]; exact (Xt.refl _).alloc _); have HXV : Hid (Xt W wV) := HXR.out.trans HXRV.out; have HRDV := Lib.hid (rowX HXRV.out HRD.out); have HDK : Hid (zd.1.kind = 1) := (by unfold Hid; rw [HD.out, contG_kind]; exact HK.out); have kd : wV.cell? ⟨w7.heap.size, 0, none⟩ = some (.int .i64 1) := (by rw [← HDK.out]; simp [World.cell?, HRDV.out]); obtain ⟨⟨cB, c10, c11, c12, c14, f14⟩, _, kz, _, x0, x1⟩ := HF.out wV HXV.out; rw [HK.out] at kz; clear g0 g1)
                    | (refine BigFrame.wpListIn_want (by rfl) (fun K hK => wpIn_load_row 50 _ rfl By rfl 50 _ (0, 0) _ (HF.out wV HXV.out).2.1 Tryz.underlying50 rfl (by kernel_rfl) (hK _ _ ?_)); clear hK K)
                    | (refine BigFrame.wpListIn_want (by rfl) (fun K hK => wpIn_load_row 50 _ rfl w7.heap.size rfl 50 _ (0, 0) _ HRDV.out Tryz.underlying50 rfl (by kernel_rfl) (hK _ _ ?_)); clear hK K)
                    | (gi_at_call 20; refine (callsIn_round (gsame_any (nT + n7) z.1 zd.1 z.2 zd.2 z.1.t.args.length zd.1.t.args.length wV (ArgsIn.upQ (by omega) (HZA.out.2.xt HXV.out)) (ArgsIn.upQ (by omega) (HAD.out.xt HXRV.out)))).mono ?_; rintro e w9 ⟨rfl, hg9⟩; rw [show sameCB z.1 zd.1 = true by rw [HD.out, cont_1 HK.out]; exact sameCB_refl _]; have HX9 : Hid (Xt W w9) := HXV.out.trans hg9.xt; clear cB c10 c11 c12 c14 f14 kz kd x0 x1 hg9; obtain ⟨⟨cB, c10, c11, c12, c14, f14⟩, _, kz, _, x0, x1⟩ := HF.out w9 HX9.out; rw [HK.out] at kz)
                    | (refine wpListIn_load_mid (P := Tryz.prog) rfl 29 _ rfl By 6 rfl [.int .i64 z.1.t.kind, .int .i64 z.1.t.op, .float .f64 z.1.t.x, .string z.1.t.s, .bool z.1.t.b, .int .i64 z.1.t.f, .int .i64 z.1.t.ref.a.1, .int .i64 z.1.t.ref.a.2, .bool z.1.t.ref.cf, .bool z.1.t.ref.rf, .int .i64 z.1.t.to.a.1, .int .i64 z.1.t.to.a.2, .bool z.1.t.to.cf, .bool z.1.t.to.rf, .slice z.2 z.1.t.args.length z.1.t.args.length] _ (HF.out w9 HX9.out).2.2.2.1 Tryz.underlying29 rfl (by kernel_rfl) ?_)
                    | (gi_at_call 8; refine (callsIn_round (formula_any nT z.1.t z.2 z.1.t.args.length cols k p w9 HOZ.out.2.1 (HT.out.xt (HXw.out.trans HX9.out)) HZA.out.1 (HZA.out.2.xt HX9.out))).mono ?_; obtain ⟨⟨r, cd⟩, hr0⟩ : ∃ r, formP cols k p z.1.t = r := ⟨_, rfl⟩; rw [hr0]; clear hr0; rintro e w10 ⟨a4, c4, n4, rfl, hS7, hx7⟩; obtain ⟨wd, hwd⟩ : ∃ wd, w10.alloc (.cells #[.int .i64 r.kind, .int .i64 r.op, .float .f64 r.x, .string r.s, .bool r.b, .int .i64 r.f, .int .i64 r.ref.a.1, .int .i64 r.ref.a.2, .bool r.ref.cf, .bool r.ref.rf, .int .i64 r.to.a.1, .int .i64 r.to.a.2, .bool r.to.cf, .bool r.to.rf, .slice a4 r.args.length c4] 29) = wd := ⟨_, rfl⟩; have hxd : Xt w9 wd := (by rw [← hwd]; exact hx7.alloc _); have HXD : Hid (Xt W wd) := HX9.out.trans hxd; have HRE : Hid (wd.heap[w10.heap.size]? = some (.cells #[.int .i64 r.kind, .int .i64 r.op, .float .f64 r.x, .string r.s, .bool r.b, .int .i64 r.f, .int .i64 r.ref.a.1, .int .i64 r.ref.a.2, .bool r.ref.cf, .bool r.ref.rf, .int .i64 r.to.a.1, .int .i64 r.to.a.2, .bool r.to.cf, .bool r.to.rf, .slice a4 r.args.length c4] 29 (0, 0))) := (by unfold Hid; rw [← hwd]; exact (MapKept.heap_alloc w10 _).1); have HSC : Hid (ArgsIn wd n4 (.slice a4 r.args.length c4) r.args) := (by unfold Hid; rw [← hwd]; exact hS7.own.args.xt ((Xt.refl _).alloc _)); have HXcd := Lib.hid hxd; clear cB c10 c11 c12 c14 f14 kz x0 x1 hS7 hx7 hxd; obtain ⟨⟨cB, c10, c11, c12, c14, f14⟩, _, kz, _, x0, x1⟩ := HF.out wd HXD.out; rw [HK.out] at kz))
                  all_goals first | (rename_i h1 h2; exact absurd (Option.some.inj h1) (by unfold undef; intro e; cases e)) | skip
                  all_goals
                    have hgW : Wr (fun b => b = R5 + 1) W (wd.setCell ⟨R5 + 1, 0, none⟩ (.int .i64 (cnt + 1))) := (Wr.of_xt HXD.out).trans (Wr.cell _ rfl)
                    exact round_end (l0 := W0.heap.size) (n0 := w6.heap.size) (f := fun pre => ((cntP cG (List.map tpT pre) : Nat) : Int)) (pre' := pre ++ [((c, d), tc, tp)]) HGR.out HRN.out (rowX HXD.out HRN.out) (by show ((cntP cG (List.map tpT (pre ++ [((c, d), tc, tp)])) : Nat) : Int) = cnt + 1; rw [List.map_append, List.map_cons, List.map_nil, cntP_snoc, if_pos (by rw [show tpT ((c, d), tc, tp) = ((c, d), tc) from rfl, HY.out]), ← HCN.out]; omega) hgW (by omega) (by omega)

                · have HK := Lib.hid hk2
                  clear hk2
                  gi_wp2_with (first
                    | (gi_at_call 18; refine (callsIn_round (gget_any go mo Mo (y1, y2) _ (HGW.out.xt HXc.out))).mono ?_; rintro e w7 ⟨n7, a7, rfl, hA7, hx7⟩; rw [HU.out] at hA7; rw [HU.out]; obtain ⟨zd, hd1, hd2⟩ : ∃ zd : CE, zd.1 = u ∧ zd.2 = a7 := ⟨(u, a7), rfl, rfl⟩; have hzv : copyCV u a7 = ceV zd := (by rw [← ceV_copy, HCU.out]; obtain ⟨zd1, zd2⟩ := zd; simp only at hd1 hd2; rw [hd1, hd2]); rw [hzv]; have HAD7 : Hid (ArgsIn w7 n7 (.slice zd.2 zd.1.t.args.length zd.1.t.args.length) zd.1.t.args) := (by unfold Hid; have h := hA7.args; rw [← copyT_args, show copyT u.t = u.t from congrArg ContT.t HCU.out] at h; rw [hd1, hd2]; exact h); have HD : Hid (zd.1 = contG cG aG z.1) := hd1.trans HUZ.out.symm; obtain ⟨wZ, wR, hwZ, hwR, hrZ, hrR, hxR, hsR, hxZ, hsZ⟩ := boxR w7 zd; have HXR : Hid (Xt W wR) := (HXc.out.trans hx7).trans hxR; have HRc := Lib.hid (rowX (hx7.trans hxR) HRc.out); have HAD : Hid (ArgsIn wR n7 (.slice zd.2 zd.1.t.args.length zd.1.t.args.length) zd.1.t.args) := HAD7.out.xt hxR; have HRZ := Lib.hid hrZ; have HRD := Lib.hid hrR; have HWR := Lib.hid hwR; clear g0 g1 cB c10 c11 c12 c14 f14 x0 x1; obtain ⟨g0, g1, _, _⟩ := cells2 HRc.out; clear hrZ hwR hrR hxR hxZ hA7 hx7 hzv hd1 hd2)
                    | (refine wpListIn_store_row (P := Tryz.prog) rfl 50 _ _ rfl w7.heap.size #[.int .i64 zd.1.kind, .int .i64 zd.1.v.kind, .float .f64 zd.1.v.x, .string zd.1.v.s, .bool zd.1.v.b, .int .i64 zd.1.v.f, .int .i64 zd.1.t.kind, .int .i64 zd.1.t.op, .float .f64 zd.1.t.x, .string zd.1.t.s, .bool zd.1.t.b, .int .i64 zd.1.t.f, .int .i64 zd.1.t.ref.a.1, .int .i64 zd.1.t.ref.a.2, .bool zd.1.t.ref.cf, .bool zd.1.t.ref.rf, .int .i64 zd.1.t.to.a.1, .int .i64 zd.1.t.to.a.2, .bool zd.1.t.to.cf, .bool zd.1.t.to.rf, .slice zd.2 zd.1.t.args.length zd.1.t.args.length] rfl rfl 50 _ HRZ.out (by kernel_rfl) rfl (by simp [Value.oneCell']) ?_; rw [HWR.out])
                    | (gi_at_call 19; refine (callsIn_round (valid_any y1 y2 _)).mono ?_; rintro e w' ⟨rfl, rfl⟩; obtain ⟨wV, hwV⟩ : ∃ wV, wR.alloc (.cells #[.int .i64 y1, .int .i64 y2] 24) = wV := ⟨_, rfl⟩; rw [HVY.out]; have HXRV : Hid (Xt wR wV) := (by unfold Hid; rw [← hwV]; exact (Xt.refl _).alloc _); have HXV : Hid (Xt W wV) := HXR.out.trans HXRV.out; have HRDV := Lib.hid (rowX HXRV.out HRD.out); have HDK : Hid (zd.1.kind = 2) := (by unfold Hid; rw [HD.out, contG_kind]; exact HK.out); have kd : wV.cell? ⟨w7.heap.size, 0, none⟩ = some (.int .i64 2) := (by rw [← HDK.out]; simp [World.cell?, HRDV.out]); obtain ⟨⟨cB, c10, c11, c12, c14, f14⟩, _, kz, _, x0, x1⟩ := HF.out wV HXV.out; rw [HK.out] at kz; clear g0 g1)
                    | (refine wpListIn_load_mid (P := Tryz.prog) rfl 29 _ rfl By 6 rfl [.int .i64 z.1.t.kind, .int .i64 z.1.t.op, .float .f64 z.1.t.x, .string z.1.t.s, .bool z.1.t.b, .int .i64 z.1.t.f, .int .i64 z.1.t.ref.a.1, .int .i64 z.1.t.ref.a.2, .bool z.1.t.ref.cf, .bool z.1.t.ref.rf, .int .i64 z.1.t.to.a.1, .int .i64 z.1.t.to.a.2, .bool z.1.t.to.cf, .bool z.1.t.to.rf, .slice z.2 z.1.t.args.length z.1.t.args.length] _ (HF.out wV HXV.out).2.2.2.1 Tryz.underlying29 rfl (by kernel_rfl) ?_)
                    | (gi_at_call 8; refine (callsIn_round (formula_any nT z.1.t z.2 z.1.t.args.length cols k p wV HOZ.out.2.1 (HT.out.xt (HXw.out.trans HXV.out)) HZA.out.1 (HZA.out.2.xt HXV.out))).mono ?_; rw [form_2 HLB.out HVZ.out HK.out, HCG.out, HAG.out, ← HD.out]; obtain ⟨r, hr0⟩ : ∃ r, zd.1.t = r := ⟨_, rfl⟩; rw [hr0]; have HRT := Lib.hid hr0; clear hr0; rintro e w10 ⟨a4, c4, n4, rfl, hS7, hx7⟩; obtain ⟨wd, hwd⟩ : ∃ wd, w10.alloc (.cells #[.int .i64 r.kind, .int .i64 r.op, .float .f64 r.x, .string r.s, .bool r.b, .int .i64 r.f, .int .i64 r.ref.a.1, .int .i64 r.ref.a.2, .bool r.ref.cf, .bool r.ref.rf, .int .i64 r.to.a.1, .int .i64 r.to.a.2, .bool r.to.cf, .bool r.to.rf, .slice a4 r.args.length c4] 29) = wd := ⟨_, rfl⟩; have hxd : Xt wV wd := (by rw [← hwd]; exact hx7.alloc _); have HXD : Hid (Xt W wd) := HXV.out.trans hxd; have HRE : Hid (wd.heap[w10.heap.size]? = some (.cells #[.int .i64 r.kind, .int .i64 r.op, .float .f64 r.x, .string r.s, .bool r.b, .int .i64 r.f, .int .i64 r.ref.a.1, .int .i64 r.ref.a.2, .bool r.ref.cf, .bool r.ref.rf, .int .i64 r.to.a.1, .int .i64 r.to.a.2, .bool r.to.cf, .bool r.to.rf, .slice a4 r.args.length c4] 29 (0, 0))) := (by unfold Hid; rw [← hwd]; exact (MapKept.heap_alloc w10 _).1); have HSC : Hid (ArgsIn wd n4 (.slice a4 r.args.length c4) r.args) := (by unfold Hid; rw [← hwd]; exact hS7.own.args.xt ((Xt.refl _).alloc _)); have HXcd := Lib.hid hxd; clear cB c10 c11 c12 c14 f14 kz kd x0 x1 hS7 hx7 hxd; obtain ⟨⟨cB, c10, c11, c12, c14, f14⟩, _, kz, _, x0, x1⟩ := HF.out wd HXD.out; rw [HK.out] at kz)
                    | (refine BigFrame.wpListIn_want (by rfl) (fun K hK => wpIn_load_row 29 _ rfl w10.heap.size rfl 29 _ (0, 0) _ HRE.out Tryz.underlying29 rfl (by kernel_rfl) (hK _ _ ?_)); clear hK K)
                    | (refine BigFrame.wpListIn_want (by rfl) (fun K hK => wpIn_load_mid 29 _ rfl w7.heap.size 6 rfl [.int .i64 zd.1.t.kind, .int .i64 zd.1.t.op, .float .f64 zd.1.t.x, .string zd.1.t.s, .bool zd.1.t.b, .int .i64 zd.1.t.f, .int .i64 zd.1.t.ref.a.1, .int .i64 zd.1.t.ref.a.2, .bool zd.1.t.ref.cf, .bool zd.1.t.ref.rf, .int .i64 zd.1.t.to.a.1, .int .i64 zd.1.t.to.a.2, .bool zd.1.t.to.cf, .bool zd.1.t.to.rf, .slice zd.2 zd.1.t.args.length zd.1.t.args.length] _ (row_mid (rowX HXcd.out HRDV.out)) Tryz.underlying29 rfl (by kernel_rfl) (hK _ _ ?_)); clear hK K)
                    | (gi_at_call 10; refine (callsIn_round (fsame_any (n4 + n7) r zd.1.t a4 zd.2 c4 zd.1.t.args.length wd (ArgsIn.upQ (by omega) HSC.out) (ArgsIn.upQ (by omega) (HAD.out.xt (HXRV.out.trans HXcd.out))))).mono ?_; rintro e w11 ⟨rfl, hg11⟩; rw [show sameTB r zd.1.t = true by rw [HRT.out]; exact (sameTB_iff _ _).2 rfl]; have HXE : Hid (Xt W w11) := HXD.out.trans hg11.xt; clear cB c10 c11 c12 c14 f14 kz x0 x1 hg11; obtain ⟨⟨cB, c10, c11, c12, c14, f14⟩, _, kz, _, x0, x1⟩ := HF.out w11 HXE.out; rw [HK.out] at kz))
                  all_goals
                    have hgW : Wr (fun b => b = R5 + 1) W (w11.setCell ⟨R5 + 1, 0, none⟩ (.int .i64 (cnt + 1))) := (Wr.of_xt HXE.out).trans (Wr.cell _ rfl)
                    exact round_end (l0 := W0.heap.size) (n0 := w6.heap.size) (f := fun pre => ((cntP cG (List.map tpT pre) : Nat) : Int)) (pre' := pre ++ [((c, d), tc, tp)]) HGR.out HRN.out (rowX HXE.out HRN.out) (by show ((cntP cG (List.map tpT (pre ++ [((c, d), tc, tp)])) : Nat) : Int) = cnt + 1; rw [List.map_append, List.map_cons, List.map_nil, cntP_snoc, if_pos (by rw [show tpT ((c, d), tc, tp) = ((c, d), tc) from rfl, HY.out]), ← HCN.out]; omega) hgW (by omega) (by omega)

end Go.Proofs.YtlgkaipgdhcajaaGreatDoor
/- Lists of puts, and of numbers, as they come in. -/
namespace Go.Proofs.YtlgkaipgdhcajaaGreatDoor
open Go.ChangeShapes Go.WideShapes Go.ChangeAt Go.RowKit Go.Joins Go.Deep Go.Shelf

section
variable {H : Type} {enc : TypeId × Value → H} {W : World} {base : Nat} {spare : Nat → Bool} {held : Bool}
/-- A slice whose elements read as some, of which something is known. -/
theorem open_listP {α : Type} {p : α → Prop} {encA : α → List Value} {sz : Nat} {t e : TypeId} {n : Nat} {v : Value} {x : DataW H × List MemPlace} (ht : Tryz.prog.underlying t = some (.slice e)) (hc : Tryz.prog.cellsOf e = sz) (hpos : 0 < sz) (hk : ∀ x, (encA x).length = sz)
    (he : ∀ m cs y, DataW.trod enc Tryz.prog W base spare held m e cs = some y → ∃ a : α, cs = encA a ∧ p a) (h : DataW.trod enc Tryz.prog W base spare held n t [v] = some x) : ∃ l, SlOf W encA sz v l ∧ ∀ x ∈ l, p x := by
  rcases open_slice ht h with ⟨h0, _⟩ | ⟨a, len, cap, m, k, D, Pl, hcs, hb, hl, hm, hmm, hx, hi⟩
  · cases h0
    exact ⟨[], SlOf.nil _ _ _ _ _ (by omega), fun x hx => by cases hx⟩
  · cases hcs
    rw [hc] at hi
    have each : ∀ i, i < len → ∃ u : α, (∀ (j : Nat) (c : Value), (encA u)[j]? = some c → W.cell? (a.add (i * sz + j)) = some c) ∧ p u := by
      intro i hil
      have him : i < m := by rw [hmm]; split <;> omega
      obtain ⟨cs', h1, h2⟩ := hi i him
      obtain ⟨u, rfl, hp⟩ := he _ _ _ h2
      obtain ⟨_, hlen, hcell⟩ := World.cells?_some h1
      refine ⟨u, fun j c hj => ?_, hp⟩
      have hjs : j < sz := by have := (List.getElem?_eq_some_iff.1 hj).1; rw [hk] at this; exact this
      rw [← add_add, hcell j hjs, hj]
    obtain ⟨l, hl1, hl2⟩ := list_of len each
    refine ⟨l, ⟨some a, cap, by rw [hl1], by omega, by unfold maxLen at hm; omega, fun hne => ?_⟩, fun x hx => ?_⟩
    · obtain ⟨b, o, spot⟩ := a
      obtain ⟨y, hy⟩ : ∃ y, l[0]? = some y := by
        cases l with
        | nil => exact absurd rfl hne
        | cons y _ => exact ⟨y, rfl⟩
      have hy0 : ∃ c, (encA y)[0]? = some c := ⟨(encA y)[0]'(by rw [hk]; exact hpos), List.getElem?_eq_getElem (by rw [hk]; exact hpos)⟩
      obtain ⟨c, hc0⟩ := hy0
      have hspot : spot = none := by simpa [Addr.add] using World.cell?_spot ((hl2 0 y hy).1 0 c hc0)
      subst hspot
      refine ⟨b, o, rfl, fun k x hx i u hu => ?_⟩
      have := (hl2 k x hx).1 i u hu
      rw [Addr.add_lit] at this
      rwa [← Nat.add_assoc] at this
    · obtain ⟨i, hi⟩ := List.getElem?_of_mem hx
      exact (hl2 i x hi).2
/-- The same, with what the elements weigh. -/
theorem open_listW {α : Type} {p : α → Prop} {encA : α → List Value} {sz : Nat} {t e : TypeId} {n : Nat} {v : Value} {x : DataW H × List MemPlace} (ht : Tryz.prog.underlying t = some (.slice e)) (hc : Tryz.prog.cellsOf e = sz) (hpos : 0 < sz) (hk : ∀ x, (encA x).length = sz)
    (he : ∀ m cs y, DataW.trod enc Tryz.prog W base spare held m e cs = some y → (∀ q ∈ y.1.weights Tryz.prog e, q ≤ reachBytes) → ∃ a : α, cs = encA a ∧ p a) (h : DataW.trod enc Tryz.prog W base spare held n t [v] = some x) (hz : ∀ q ∈ x.1.weights Tryz.prog t, q ≤ reachBytes) : ∃ l, SlOf W encA sz v l ∧ ∀ x ∈ l, p x := by
  rcases DataW.trod_slice ht h with ⟨h0, _⟩ | ⟨a, len, cap, elems, rest, m, hq, hcs, hx, hb, hlc, hcap, hle, hel, _, _⟩
  · cases h0
    exact ⟨[], SlOf.nil _ _ _ _ _ (by omega), fun x hx => by cases hx⟩
  · cases hcs
    rw [hc] at hel
    rw [hx] at hz
    have each : ∀ i, i < len → ∃ u : α, (∀ (j : Nat) (c : Value), (encA u)[j]? = some c → W.cell? (a.add (i * sz + j)) = some c) ∧ p u := by
      intro i hil
      have hi := hel i hil
      rw [List.getElem?_eq_getElem (by omega)] at hi
      obtain ⟨cs', h1, h2⟩ := Option.bind_eq_some_iff.1 hi
      obtain ⟨u, rfl, hp⟩ := he _ _ _ h2 (fun z hq => hz z (by
        simp only [DataW.weights, ht, List.mem_cons, List.mem_append]
        exact Or.inr (Or.inl (weights_all_mem (List.mem_map.2 ⟨_, List.getElem_mem (by omega), rfl⟩) hq))))
      obtain ⟨_, hlen, hcell⟩ := World.cells?_some h1
      refine ⟨u, fun j c hj => ?_, hp⟩
      have hjs : j < sz := by have := (List.getElem?_eq_some_iff.1 hj).1; rw [hk] at this; exact this
      rw [← add_add, hcell j hjs, hj]
    obtain ⟨l, hl1, hl2⟩ := list_of len each
    refine ⟨l, ⟨some a, cap, by rw [hl1], by omega, by unfold maxLen at hcap; omega, fun hne => ?_⟩, fun x hx => ?_⟩
    · obtain ⟨b, o, spot⟩ := a
      obtain ⟨y, hy⟩ : ∃ y, l[0]? = some y := by
        cases l with
        | nil => exact absurd rfl hne
        | cons y _ => exact ⟨y, rfl⟩
      have hy0 : ∃ c, (encA y)[0]? = some c := ⟨(encA y)[0]'(by rw [hk]; exact hpos), List.getElem?_eq_getElem (by rw [hk]; exact hpos)⟩
      obtain ⟨c, hc0⟩ := hy0
      have hspot : spot = none := by simpa [Addr.add] using World.cell?_spot ((hl2 0 y hy).1 0 c hc0)
      subst hspot
      refine ⟨b, o, rfl, fun k x hx i u hu => ?_⟩
      have := (hl2 k x hx).1 i u hu
      rw [Addr.add_lit] at this
      rwa [← Nat.add_assoc] at this
    · obtain ⟨i, hi⟩ := List.getElem?_of_mem hx
      exact (hl2 i x hi).2
theorem cellsPut : Tryz.prog.cellsOf 102 = 23 := by kernel_rfl
theorem inC_len1 (n : Int) : (inC n).length = 1 := rfl
theorem open_nums {n : Nat} {v : Value} {x : DataW H × List MemPlace} (h : DataW.trod enc Tryz.prog W base spare held n 90 [v] = some x) : ∃ l, SlOf W inC 1 v l ∧ ∀ x ∈ l, -9223372036854775808 ≤ x ∧ x ≤ 9223372036854775807 :=
  open_listP Tryz.underlying90 Tryz.cellsInt (by omega) inC_len1 (fun m cs y h => by
    obtain ⟨k, e, _, hw⟩ := DataW.trod_int Tryz.underlying3 h
    exact ⟨k, e, bounds_i64 hw⟩) h
set_option maxRecDepth 100000 in
theorem open_put {n : Nat} {cs : List Value} {x : DataW H × List MemPlace} (h : DataW.trod enc Tryz.prog W base spare held n 102 cs = some x) (hz : ∀ q ∈ x.1.weights Tryz.prog 102, q ≤ reachBytes) : ∃ y : PI, cs = inC1 y ∧ (y.c.ok ∧ ∃ n, ArgsIn W n (.slice y.p y.c.t.args.length y.cap) y.c.t.args) ∧ smallT y.c.t := by
  obtain ⟨y0, y1, m, hx, hl, h0, h1⟩ := trod_struct2 Tryz.underlying102 h
  rw [cellsPut] at hl
  match cs, hl with
  | c0 :: c1 :: r, hl =>
    have g0 : DataW.trod enc Tryz.prog W base spare held m 24 [c0, c1] = some y0 := by simpa [Tryz.cellsAddr] using h0
    obtain ⟨a, ea⟩ := open_ad g0
    have hr : r.length = 21 := by simpa using hl
    have g1 : DataW.trod enc Tryz.prog W base spare held m 50 r = some y1 := by
      have := h1
      simp only [Tryz.cellsContent, List.drop_succ_cons, List.drop_zero] at this
      rwa [List.take_of_length_le (by omega)] at this
    have hz1 : ∀ q ∈ y1.1.weights Tryz.prog 50, q ≤ reachBytes := fun q hq => hz q (by rw [hx]; simp [DataW.weights, Tryz.underlying102, DataW.weightsEach, hq])
    obtain ⟨c, p, cap, n, e, q1, q2, q3⟩ := open_content g1 hz1
    simp only [adC, List.cons.injEq, and_true] at ea
    obtain ⟨rfl, rfl⟩ := ea
    have e2 : r = (contV c p c.t.args.length cap).cells.toList := by rw [← e]; simp [Value.cells]
    refine ⟨⟨a, c, p, cap⟩, ?_, ⟨q2, n, q1⟩, q3⟩
    rw [e2]; rfl
theorem open_puts {n : Nat} {v : Value} {x : DataW H × List MemPlace} (h : DataW.trod enc Tryz.prog W base spare held n 37 [v] = some x) (hz : ∀ q ∈ x.1.weights Tryz.prog 37, q ≤ reachBytes) : ∃ l, PutsIn W v l ∧ ∀ x ∈ l, smallT x.c.t := by
  obtain ⟨l, h1, h2⟩ := open_listW (p := fun y : PI => (y.c.ok ∧ ∃ n, ArgsIn W n (.slice y.p y.c.t.args.length y.cap) y.c.t.args) ∧ smallT y.c.t) Tryz.underlying37 cellsPut (by omega) (fun _ => rfl) (fun m cs y h hz => open_put h hz) h hz
  exact ⟨l, ⟨h1, fun x hx => (h2 x hx).1⟩, fun x hx => (h2 x hx).2⟩
end
end Go.Proofs.YtlgkaipgdhcajaaGreatDoor
