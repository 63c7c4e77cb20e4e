import Derived.Test.YtdoeejhdenifpaaGreatDoorA5
import Derived.Laws.EntriesVeiled
/- move: the areas' road of lines put in or taken out (made by mkm3.py). -/
namespace Go.Proofs.YtdoeejhdenifpaaGreatDoor
open Go.RowKit Go.Sort
structure ArT where
 a : Int
 b : Int
 c : Int
 d : Int
abbrev arT (x : ArT) : Value := .agg #[.int .i64 x.a, .int .i64 x.b, .int .i64 x.c, .int .i64 x.d]
def areaF (cols : Bool) (l : LinT) (x : ArT) : ArT × Bool := if cols = true then (⟨(spanF l x.a x.c).1, x.b, (spanF l x.a x.c).2.1, x.d⟩, (spanF l x.a x.c).2.2) else (⟨x.a, (spanF l x.b x.d).1, x.c, (spanF l x.b x.d).2.1⟩, (spanF l x.b x.d).2.2)
def ArT.ok (x : ArT) : Prop := -4611686018427387904 ≤ x.a ∧ -4611686018427387904 ≤ x.b ∧ x.c ≤ 4611686018427387904 ∧ x.d ≤ 4611686018427387904
theorem cells4 {w : World} {b : Nat} {u v x y : Value} {T : TypeId} (h : w.heap[b]? = some (.cells #[u, v, x, y] T (0, 0))) : (w.cell? ⟨b, 0, none⟩ = some u ∧ w.cell? ⟨b, 1, none⟩ = some v ∧ w.cell? ⟨b, 2, none⟩ = some x ∧ w.cell? ⟨b, 3, none⟩ = some y) ∧ w.frozen? ⟨b, 0, none⟩ = false ∧ w.frozen? ⟨b, 1, none⟩ = false ∧ w.frozen? ⟨b, 2, none⟩ = false ∧ w.frozen? ⟨b, 3, none⟩ = false := by
 refine ⟨⟨?_, ?_, ?_, ?_⟩, ?_, ?_, ?_, ?_⟩ <;> simp [World.cell?, World.frozen?, h]
set_option maxRecDepth 100000 in
set_option maxHeartbeats 4000000 in
theorem road2_any (cols : Bool) (l : LinT) (x : ArT) (hx : x.ok) (pc pl : Nat) (w : World) (h : LinAt w pc pl cols l) :
    Calls Tryz.prog 148 #[arT x, .pointer (some ⟨pc, 0, none⟩), .pointer (some ⟨pl, 0, none⟩)] w fun e w' => e = .returned (.tuple #[arT (areaF cols l x).1, .bool (areaF cols l x).2]) ∧ Xt w w' := by
 obtain ⟨B, hB⟩ : ∃ B, w.heap.size = B := ⟨_, rfl⟩
 obtain ⟨w0, hw0⟩ : ∃ w0, w.alloc (.cells #[.int .i64 x.a, .int .i64 x.b, .int .i64 x.c, .int .i64 x.d] 26) = w0 := ⟨_, rfl⟩
 have hs0 : w0.heap.size = B + 1 := by rw [← hw0, ← hB]; simp
 obtain ⟨w1, hw1⟩ : ∃ w1, w0.alloc (.cells #[.int .i64 0, .int .i64 0, .int .i64 0, .int .i64 0] 26) = w1 := ⟨_, rfl⟩
 have hx1 : Xt w w1 := by rw [← hw1, ← hw0]; exact ((Xt.refl w).alloc _).alloc _
 have HB : Hid (w1.heap[B]? = some (.cells #[.int .i64 x.a, .int .i64 x.b, .int .i64 x.c, .int .i64 x.d] 26 (0, 0))) := by
  unfold Hid; rw [← hw1]; exact (Below.heap_alloc w0 _ _ (by omega)).trans (by rw [← hw0, ← hB]; exact (MapKept.heap_alloc w _).1)
 have HR : Hid (w1.heap[B + 1]? = some (.cells #[.int .i64 0, .int .i64 0, .int .i64 0, .int .i64 0] 26 (0, 0))) := by
  unfold Hid; rw [← hw1, ← hs0]; exact (MapKept.heap_alloc w0 _).1
 obtain ⟨c, c0, c1, c2⟩ := h.xt hx1
 obtain ⟨⟨b0, b1, b2, b3⟩, f0, f1, f2, f3⟩ := cells4 HB.out
 obtain ⟨q1, q2, q3, q4⟩ := hx
 have HX1 := Lib.hid hx1
 have hBB := Lib.hid hB
 clear hx1 h
 unfold areaF
 cases cols
 · have HC := Lib.hid (fun w => span_any l x.b x.d w (by omega) (by omega))
   generalize spanF l x.b x.d = r at HC ⊢
   obtain ⟨m1, m2, ok⟩ := r
   go_enter Tryz.func148, Tryz.ntmps148
   go_wp2_with fail
   refine (HC.out _).mono ?_
   rintro e w2 ⟨rfl, hg2⟩
   have hb2 := rowX hg2.xt HB.out
   have hr2 := rowX hg2.xt HR.out
   obtain ⟨⟨b0, b1, b2, b3⟩, f0, f1, f2, f3⟩ := cells4 hb2
   obtain ⟨⟨r0, r1, r2, r3⟩, g0, g1, g2, g3⟩ := cells4 hr2
   have HX2 := Lib.hid (HX1.out.trans hg2.xt)
   obtain ⟨w3, hw3⟩ : ∃ w3, (w2.setCell ⟨B, 1, none⟩ (.int .i64 m1)).setCell ⟨B, 3, none⟩ (.int .i64 m2) = w3 := ⟨_, rfl⟩
   have hb3 : w3.heap[B]? = some (.cells #[.int .i64 x.a, .int .i64 m1, .int .i64 x.c, .int .i64 m2] 26 (0, 0)) := by rw [← hw3]; exact setCell_row (setCell_row hb2 1 _) 3 _
   have hr3 : w3.heap[B + 1]? = some (.cells #[.int .i64 0, .int .i64 0, .int .i64 0, .int .i64 0] 26 (0, 0)) := by rw [← hw3]; exact (Below.heap_setCell _ _ _ _ (by simp)).trans ((Below.heap_setCell _ _ _ _ (by simp)).trans hr2)
   have hx3 : Xt w w3 := by rw [← hw3]; exact (HX2.out.grownB (setCell_grown _ _ _ _) (fun q hq => by cases hq; rw [hBB.out]; exact Nat.le_refl _)).grownB (setCell_grown _ _ _ _) (fun q hq => by cases hq; rw [hBB.out]; exact Nat.le_refl _)
   obtain ⟨⟨d0, d1, d2, d3⟩, _⟩ := cells4 hb3
   obtain ⟨⟨e0, e1, e2, e3⟩, h0, h1, h2, h3⟩ := cells4 hr3
   have hrow : ((((w3.setCell ⟨B + 1, 0, none⟩ (.int .i64 x.a)).setCell ⟨B + 1, 1, none⟩ (.int .i64 m1)).setCell ⟨B + 1, 2, none⟩ (.int .i64 x.c)).setCell ⟨B + 1, 3, none⟩ (.int .i64 m2)).heap[B + 1]? = some (.cells #[.int .i64 x.a, .int .i64 m1, .int .i64 x.c, .int .i64 m2] 26 (0, 0)) := (setCell_row (setCell_row (setCell_row (setCell_row hr3 0 _) 1 _) 2 _) 3 _)
   have hxe : Xt w ((((w3.setCell ⟨B + 1, 0, none⟩ (.int .i64 x.a)).setCell ⟨B + 1, 1, none⟩ (.int .i64 m1)).setCell ⟨B + 1, 2, none⟩ (.int .i64 x.c)).setCell ⟨B + 1, 3, none⟩ (.int .i64 m2)) := ((((hx3.grownB (setCell_grown _ _ _ _) (fun q hq => by cases hq; rw [hBB.out]; omega)).grownB (setCell_grown _ _ _ _) (fun q hq => by cases hq; rw [hBB.out]; omega)).grownB (setCell_grown _ _ _ _) (fun q hq => by cases hq; rw [hBB.out]; omega)).grownB (setCell_grown _ _ _ _) (fun q hq => by cases hq; rw [hBB.out]; omega))
   clear hw0 hw1 c c0 c1 c2 hb2 hr2 hg2
   go_wp2_with fail
   (try simp only [Exit.inBlock, Exit.then])
   refine bodyPost_ret (v := .tuple #[.agg #[.int .i64 x.a, .int .i64 m1, .int .i64 x.c, .int .i64 m2], .bool ok]) ?_ rfl ⟨rfl, hxe⟩
   rw [results_cell_tmp rfl]
   show ((asAddr (.pointer (some ⟨B + 1, 0, none⟩))).run _ _).andThen _ = _
   simp only [asAddr, Sem.run_pure, Result.andThen_ok, run_loadVar_row _ _ _ 26 _ _ _ hrow Tryz.underlying26 rfl (by kernel_rfl)]
   rfl
 · have HC := Lib.hid (fun w => span_any l x.a x.c w (by omega) (by omega))
   generalize spanF l x.a x.c = r at HC ⊢
   obtain ⟨m1, m2, ok⟩ := r
   go_enter Tryz.func148, Tryz.ntmps148
   go_wp2_with fail
   refine (HC.out _).mono ?_
   rintro e w2 ⟨rfl, hg2⟩
   have hb2 := rowX hg2.xt HB.out
   have hr2 := rowX hg2.xt HR.out
   obtain ⟨⟨b0, b1, b2, b3⟩, f0, f1, f2, f3⟩ := cells4 hb2
   obtain ⟨⟨r0, r1, r2, r3⟩, g0, g1, g2, g3⟩ := cells4 hr2
   have HX2 := Lib.hid (HX1.out.trans hg2.xt)
   obtain ⟨w3, hw3⟩ : ∃ w3, (w2.setCell ⟨B, 0, none⟩ (.int .i64 m1)).setCell ⟨B, 2, none⟩ (.int .i64 m2) = w3 := ⟨_, rfl⟩
   have hb3 : w3.heap[B]? = some (.cells #[.int .i64 m1, .int .i64 x.b, .int .i64 m2, .int .i64 x.d] 26 (0, 0)) := by rw [← hw3]; exact setCell_row (setCell_row hb2 0 _) 2 _
   have hr3 : w3.heap[B + 1]? = some (.cells #[.int .i64 0, .int .i64 0, .int .i64 0, .int .i64 0] 26 (0, 0)) := by rw [← hw3]; exact (Below.heap_setCell _ _ _ _ (by simp)).trans ((Below.heap_setCell _ _ _ _ (by simp)).trans hr2)
   have hx3 : Xt w w3 := by rw [← hw3]; exact (HX2.out.grownB (setCell_grown _ _ _ _) (fun q hq => by cases hq; rw [hBB.out]; exact Nat.le_refl _)).grownB (setCell_grown _ _ _ _) (fun q hq => by cases hq; rw [hBB.out]; exact Nat.le_refl _)
   obtain ⟨⟨d0, d1, d2, d3⟩, _⟩ := cells4 hb3
   obtain ⟨⟨e0, e1, e2, e3⟩, h0, h1, h2, h3⟩ := cells4 hr3
   have hrow : ((((w3.setCell ⟨B + 1, 0, none⟩ (.int .i64 m1)).setCell ⟨B + 1, 1, none⟩ (.int .i64 x.b)).setCell ⟨B + 1, 2, none⟩ (.int .i64 m2)).setCell ⟨B + 1, 3, none⟩ (.int .i64 x.d)).heap[B + 1]? = some (.cells #[.int .i64 m1, .int .i64 x.b, .int .i64 m2, .int .i64 x.d] 26 (0, 0)) := (setCell_row (setCell_row (setCell_row (setCell_row hr3 0 _) 1 _) 2 _) 3 _)
   have hxe : Xt w ((((w3.setCell ⟨B + 1, 0, none⟩ (.int .i64 m1)).setCell ⟨B + 1, 1, none⟩ (.int .i64 x.b)).setCell ⟨B + 1, 2, none⟩ (.int .i64 m2)).setCell ⟨B + 1, 3, none⟩ (.int .i64 x.d)) := ((((hx3.grownB (setCell_grown _ _ _ _) (fun q hq => by cases hq; rw [hBB.out]; omega)).grownB (setCell_grown _ _ _ _) (fun q hq => by cases hq; rw [hBB.out]; omega)).grownB (setCell_grown _ _ _ _) (fun q hq => by cases hq; rw [hBB.out]; omega)).grownB (setCell_grown _ _ _ _) (fun q hq => by cases hq; rw [hBB.out]; omega))
   clear hw0 hw1 c c0 c1 c2 hb2 hr2 hg2
   go_wp2_with fail
   (try simp only [Exit.inBlock, Exit.then])
   refine bodyPost_ret (v := .tuple #[.agg #[.int .i64 m1, .int .i64 x.b, .int .i64 m2, .int .i64 x.d], .bool ok]) ?_ rfl ⟨rfl, hxe⟩
   rw [results_cell_tmp rfl]
   show ((asAddr (.pointer (some ⟨B + 1, 0, none⟩))).run _ _).andThen _ = _
   simp only [asAddr, Sem.run_pure, Result.andThen_ok, run_loadVar_row _ _ _ 26 _ _ _ hrow Tryz.underlying26 rfl (by kernel_rfl)]
   rfl
end Go.Proofs.YtdoeejhdenifpaaGreatDoor
/- A formula whose references have gone a road: the tree; an element of a list of one's own is written. -/
namespace Go.Proofs.YtdoeejhdenifpaaGreatDoor
open Go.RowKit Go.Sort
def arOf (r q : RefT) : ArT := ⟨r.a.1, r.a.2, q.a.1, q.a.2⟩
def lostT : NodeT := .mk 4 0 0 ⟨#[]⟩ false 4 zR zR []
def turnH (cG : Ad → Ad × Bool) (aG : ArT → ArT × Bool) : NodeT → NodeT
 | .mk k o x s b f r q l =>
  if k = 5 then (if (cG r.a).2 = true then .mk k o x s b f ⟨(cG r.a).1, r.cf, r.rf⟩ q l else lostT)
  else if k = 6 then (if (aG (arOf r q)).2 = true then .mk k o x s b f ⟨((aG (arOf r q)).1.a, (aG (arOf r q)).1.b), r.cf, r.rf⟩ ⟨((aG (arOf r q)).1.c, (aG (arOf r q)).1.d), q.cf, q.rf⟩ l else lostT)
  else .mk k o x s b f r q l
mutual
def turnT (cG : Ad → Ad × Bool) (aG : ArT → ArT × Bool) : NodeT → NodeT
 | .mk k o x s b f r q l => turnH cG aG (.mk k o x s b f r q (turnL cG aG l))
def turnL (cG : Ad → Ad × Bool) (aG : ArT → ArT × Bool) : List NodeT → List NodeT
 | [] => []
 | t :: l => turnT cG aG t :: turnL cG aG l
end
theorem turnL_map (cG : Ad → Ad × Bool) (aG : ArT → ArT × Bool) : ∀ l : List NodeT, turnL cG aG l = l.map (turnT cG aG)
 | [] => rfl
 | t :: l => by rw [turnL, turnL_map cG aG l]; rfl
structure Wr (S : Nat → Prop) (w w' : World) : Prop where
 os : w'.os = w.os
 tape : w'.tape = w.tape
 output : w'.output = w.output
 size : w.heap.size ≤ w'.heap.size
 block : ∀ b, b < w.heap.size → ¬ S b → w'.heap[b]? = w.heap[b]?
theorem Wr.refl (S : Nat → Prop) (w : World) : Wr S w w := ⟨rfl, rfl, rfl, Nat.le_refl _, fun _ _ _ => rfl⟩
theorem Wr.trans {S : Nat → Prop} {a b c : World} (h : Wr S a b) (k : Wr S b c) : Wr S a c :=
 ⟨k.os.trans h.os, k.tape.trans h.tape, k.output.trans h.output, Nat.le_trans h.size k.size, fun i hi hn => (k.block i (Nat.lt_of_lt_of_le hi h.size) hn).trans (h.block i hi hn)⟩
theorem Wr.of_xt {S : Nat → Prop} {w w' : World} (h : Xt w w') : Wr S w w' := ⟨h.os, h.tape, h.output, h.size, fun b hb _ => h.block b hb⟩
theorem Wr.weak {S S' : Nat → Prop} {w w' : World} (h : Wr S w w') (hS : ∀ b, S b → S' b) : Wr S' w w' := ⟨h.os, h.tape, h.output, h.size, fun b hb hn => h.block b hb fun q => hn (hS b q)⟩
theorem Wr.xt {S : Nat → Prop} {w w' : World} {V : World} (h : Wr S w w') (hV : Xt V w) (hS : ∀ b, S b → V.heap.size ≤ b) : Xt V w' :=
 ⟨h.os.trans hV.os, h.tape.trans hV.tape, h.output.trans hV.output, Nat.le_trans hV.size h.size, fun b hb => (h.block b (Nat.lt_of_lt_of_le hb hV.size) fun q => absurd (hS b q) (by omega)).trans (hV.block b hb)⟩
theorem Wr.set {S : Nat → Prop} {w : World} {b o : Nat} (vs : List Value) (hb : S b) : Wr S w (w.setCells b o vs) := by
 obtain ⟨s1, s2, s3, s4⟩ := setCells_size b vs o w
 exact ⟨s2, s3, s4, by omega, fun j _ hn => setCells_far b _ _ w j (fun e => hn (e ▸ hb))⟩
theorem SepIn.elem {S : Nat → Prop} {w : World} {n i m cap : Nat} {a : Option Addr} {l : List NodeT} {t : NodeT} (h : SepIn S w n (.slice a m cap) l) (ht : l[i]? = some t) :
    ∃ n' b a' c' T, n = n' + 1 ∧ a = some ⟨b, 0, none⟩ ∧ S b ∧ b < w.heap.size ∧ (∀ c, T c → S c ∧ c ≠ b) ∧ NodeAt w b (i * 15) t a' t.args.length c' ∧ SepIn T w n' (.slice a' t.args.length c') t.args ∧
     (∀ w2, Wr T w w2 → w2.there b (i * 15) 15) ∧
     ∀ w2 (t' : NodeT) (av2 : Value), Wr T w w2 → SepIn T w2 n' av2 t'.args → SepIn S (w2.setCells b (i * 15) (nodeC t' av2)) n (.slice a m cap) (l.set i t') ∧ Wr S w (w2.setCells b (i * 15) (nodeC t' av2)) := by
 have hil := (List.getElem?_eq_some_iff.1 ht).1
 cases n with
 | zero => obtain ⟨rfl, _⟩ := h; simp at ht
 | succ n =>
  obtain ⟨_, _, e, h1, h2, h3⟩ := h
  cases e
  obtain ⟨b, cur, K, T, rfl, hb, hr, hK, hcK, hT, hD, hc⟩ := h3 (by omega)
  obtain ⟨av', q1, q2⟩ := hc i t ht
  obtain ⟨a', c', rfl, _⟩ := q2.own.shape
  have hlt : b < w.heap.size := (Array.getElem?_eq_some_iff.1 hr).1
  have hnb : ¬ T i b := fun e => (hT i b e).2 rfl
  refine ⟨n, b, a', c', T i, rfl, rfl, hb, hlt, fun c hc => hT i c hc, NodeAt.of q1, q2, fun w2 hw2 => row_thereN ((hw2.block b hlt hnb).trans hr) hK (by omega), fun w2 t' av2 hw2 hs2 => ?_⟩
  have hr2 := (hw2.block b hlt hnb).trans hr
  have ht2 := row_thereN hr2 hK (k := i) (by omega)
  obtain ⟨cur', hr3, hs3⟩ := setCells_rowC b (nodeC t' av2) (i * 15) w2 cur hr2
  refine ⟨⟨_, cap, by rw [List.length_set], by rw [List.length_set]; exact h1, h2, fun _ => ⟨b, cur', K, T, rfl, hb, hr3, hs3.trans hK, hcK, hT, hD, fun k u hu => ?_⟩⟩, (hw2.weak fun c hc => (hT i c hc).1).trans (Wr.set _ hb)⟩
  by_cases e : k = i
  · subst e
    rw [List.getElem?_set_self hil] at hu
    cases hu
    exact ⟨av2, World.rangeAt_setCells_same w2 b (k * 15) _ ht2, hs2.keep (fun c hc _ => setCells_far b _ _ w2 c (hT k c hc).2)⟩
  · rw [List.getElem?_set_ne (fun e' => e e'.symm)] at hu
    obtain ⟨av3, p1, p2⟩ := hc k u hu
    have p1' : ∀ i v, (nodeC u av3)[i]? = some v → w2.cell? ⟨b, k * 15 + i, none⟩ = some v := fun j v hv => (World.cell?_of_block (w := w) (a := ⟨b, k * 15 + j, none⟩) (hw2.block b hlt hnb)).trans (p1 j v hv)
    refine ⟨av3, fun j v hv => World.rangeAt_setCells_apart (b' := b) (o' := k * 15) (cs := nodeC u av3) p1' b (i * 15) _ ?_ j v hv, p2.keep (fun c hc hlc => (setCells_far b _ _ w2 c (hT k c hc).2).trans (hw2.block c hlc fun q => hD k i c e hc q))⟩
    right; rw [leaf_len, leaf_len]; omega
end Go.Proofs.YtdoeejhdenifpaaGreatDoor
/- write, plain: a formula whose nodes go through a function; a shifted reference. -/
namespace Go.Proofs.YtdoeejhdenifpaaGreatDoor
open Go.RowKit Go.Sort
mutual
def upT (h : NodeT → NodeT) : NodeT → NodeT
 | .mk k o x s b f r q l => h (.mk k o x s b f r q (upL h l))
def upL (h : NodeT → NodeT) : List NodeT → List NodeT
 | [] => []
 | t :: l => upT h t :: upL h l
end
theorem upL_map (h : NodeT → NodeT) : ∀ l : List NodeT, upL h l = l.map (upT h)
 | [] => rfl
 | t :: l => by rw [upL, upL_map h l]; rfl
theorem upL_len (h : NodeT → NodeT) (l : List NodeT) : (upL h l).length = l.length := by rw [upL_map]; simp
def shN (n by_ : Int) (fixed : Bool) : Int := if fixed = true then n else if 1048576 < by_ then -1 else if by_ < -1048576 then -1 else wrap64 (n + by_)
def shA (cc rr : Int) (x : RefT) : Ad := (shN x.a.1 cc x.cf, shN x.a.2 rr x.rf)
def shB (cc rr : Int) (x : RefT) : Bool := validB x.a.1 x.a.2 && validB (shA cc rr x).1 (shA cc rr x).2
def shR (cc rr : Int) (x : RefT) : RefT := if shB cc rr x = true then ⟨shA cc rr x, x.cf, x.rf⟩ else zR
def loR (p q : RefT) : RefT := ⟨(if q.a.1 < p.a.1 then q.a.1 else p.a.1, if q.a.2 < p.a.2 then q.a.2 else p.a.2), if q.a.1 < p.a.1 then q.cf else p.cf, if q.a.2 < p.a.2 then q.rf else p.rf⟩
def hiR (p q : RefT) : RefT := ⟨(if q.a.1 < p.a.1 then p.a.1 else q.a.1, if q.a.2 < p.a.2 then p.a.2 else q.a.2), if q.a.1 < p.a.1 then p.cf else q.cf, if q.a.2 < p.a.2 then p.rf else q.rf⟩
def shH (cc rr : Int) : NodeT → NodeT
 | .mk k o x s b f r q l =>
  if k = 5 then (if shB cc rr r = true then .mk k o x s b f (shR cc rr r) q l else lostT)
  else if k = 6 then (if shB cc rr r = true then (if shB cc rr q = true then .mk k o x s b f (loR (shR cc rr r) (shR cc rr q)) (hiR (shR cc rr r) (shR cc rr q)) l else lostT) else lostT)
  else .mk k o x s b f r q l
end Go.Proofs.YtdoeejhdenifpaaGreatDoor
/- move: the roads of lines, as two func values. -/
namespace Go.Proofs.YtdoeejhdenifpaaGreatDoor
open Go.RowKit Go.Sort
abbrev roadV (pc pl : Nat) : Value := .agg #[.func (.func 146) #[] #[.pointer (some ⟨pc, 0, none⟩), .pointer (some ⟨pl, 0, none⟩)], .func (.func 148) #[] #[.pointer (some ⟨pc, 0, none⟩), .pointer (some ⟨pl, 0, none⟩)]]
set_option maxRecDepth 100000 in
set_option maxHeartbeats 4000000 in
theorem road_any (cols : Bool) (l : LinT) (w : World) :
    Calls Tryz.prog 115 #[linV l, .bool cols] w fun e w' => ∃ pc pl, e = .returned (roadV pc pl) ∧ LinAt w' pc pl cols l ∧ Xt w w' := by
 go_enter Tryz.func115, Tryz.ntmps115
 go_wp2_with fail
 obtain ⟨w0, hw0⟩ : ∃ w0, w.alloc (.cells #[.int .i64 l.at_, .int .i64 l.n, .int .i64 l.many] 147) = w0 := ⟨_, rfl⟩
 rw [hw0]
 have hs0 : w0.heap.size = w.heap.size + 1 := by rw [← hw0]; simp
 obtain ⟨w1, hw1⟩ : ∃ w1, w0.alloc (.cells #[.bool cols] 4) = w1 := ⟨_, rfl⟩
 rw [hw1]
 have hs1 : w1.heap.size = w.heap.size + 1 + 1 := by rw [← hw1]; simp [hs0]
 have hr0 : w1.heap[w.heap.size]? = some (.cells #[.int .i64 l.at_, .int .i64 l.n, .int .i64 l.many] 147 (0, 0)) := by
  rw [← hw1]; exact (Below.heap_alloc w0 _ _ (by omega)).trans (by rw [← hw0]; exact (MapKept.heap_alloc w _).1)
 have hr1 : w1.heap[w.heap.size + 1]? = some (.cells #[.bool cols] 4 (0, 0)) := by rw [← hw1, ← hs0]; exact (MapKept.heap_alloc w0 _).1
 have hx1 : Xt w w1 := by rw [← hw1, ← hw0]; exact ((Xt.refl w).alloc _).alloc _
 have hL : LinAt w1 (w.heap.size + 1) w.heap.size cols l := ⟨by simp [World.cell?, hr1], by simp [World.cell?, hr0], by simp [World.cell?, hr0], by simp [World.cell?, hr0]⟩
 refine bodyPost_ret (results_cell_row rfl _ _ (w.heap.size + 1 + 1) _ _ _ _ rfl (by rw [← hs1]; exact (MapKept.heap_alloc w1 _).1) Tryz.underlying97 rfl (by kernel_rfl)) rfl ?_
 exact ⟨_, _, rfl, hL.xt ((Xt.refl w1).alloc _), hx1.alloc _⟩
end Go.Proofs.YtdoeejhdenifpaaGreatDoor
