import Derived.Test.YtdoeejhdenifpaaGreatDoorA10
import Derived.Test.YtdoeejhdenifpaaGreatDoorM9
import Derived.Test.YtdoeejhdenifpaaGreatDoorA12
import Derived.Test.YtdoeejhdenifpaaGreatDoorA8
import Derived.Sort.CutIn
import Derived.RangeFuncWrites
import Derived.StillTailTactics
/- move, plain: where lines put in or taken out bring cells and areas; a grid that goes such a road. -/
namespace Go.Proofs.YtdoeejhdenifpaaGreatDoor
open Go.RowKit Go.Sort
def vA (x : ArT) : Bool := validB x.a x.b && validB x.c x.d && decide (x.a ≤ x.c) && decide (x.b ≤ x.d)
theorem vA_le {x : ArT} (h : vA x = true) : (1 ≤ x.a ∧ x.a ≤ x.c ∧ x.c ≤ 256) ∧ (1 ≤ x.b ∧ x.b ≤ x.d ∧ x.d ≤ 4096) := by
 unfold vA at h
 simp only [Bool.and_eq_true, decide_eq_true_eq] at h
 have v1 := validB_le h.1.1.1
 have v2 := validB_le h.1.1.2
 omega
theorem validB_of {a b : Int} (h : 1 ≤ a ∧ a ≤ 256 ∧ 1 ≤ b ∧ b ≤ 4096) : validB a b = true := by
 unfold validB; simp; omega
structure RoadV (cG : Ad → Ad × Bool) (aG : ArT → ArT × Bool) : Prop where
 cell : ∀ a, validB a.1 a.2 = true → (cG a).2 = true → validB (cG a).1.1 (cG a).1.2 = true
 area : ∀ x, vA x = true → (aG x).2 = true → vA (aG x).1 = true
end Go.Proofs.YtdoeejhdenifpaaGreatDoor
/- move, plain: formulas and contents that go a road stay valid; what a grid that goes a road has. -/
namespace Go.Proofs.YtdoeejhdenifpaaGreatDoor
open Go.RowKit Go.Sort
theorem refB_self (r : RefT) : refB r r = true := by unfold refB; simp
theorem fault_lost (ins : Bool) : faultT lostT ins = 0 := by cases ins <;> kernel_rfl
theorem made_ref {o : Int} {x : Nat} {s : ByteArray} {b : Bool} {f : Int} {r q r' : RefT} {l : List NodeT} (h : madeB (.mk 5 o x s b f r q l) = true) : l = [] ∧ madeB (.mk 5 o x s b f r' q l) = true := by
 simp only [madeB, Int.reduceEq, if_false, if_true] at *
 simp only [Bool.and_eq_true, alikeB, NodeT.kind, NodeT.op, NodeT.x, NodeT.s, NodeT.b, NodeT.f, NodeT.ref, NodeT.to] at *
 refine ⟨List.length_eq_zero_iff.1 (by have := h.1.2; simp at this; omega), ⟨h.1, ?_⟩⟩
 exact ⟨⟨h.2.1.1, refB_self _⟩, h.2.2⟩
theorem made_area {o : Int} {x : Nat} {s : ByteArray} {b : Bool} {f : Int} {r q r' q' : RefT} {l : List NodeT} (h : madeB (.mk 6 o x s b f r q l) = true) : l = [] ∧ madeB (.mk 6 o x s b f r' q' l) = true := by
 simp only [madeB, Int.reduceEq, if_false, if_true] at *
 simp only [Bool.and_eq_true, alikeB, NodeT.kind, NodeT.op, NodeT.x, NodeT.s, NodeT.b, NodeT.f, NodeT.ref, NodeT.to] at *
 refine ⟨List.length_eq_zero_iff.1 (by have := h.1.2; simp at this; omega), ⟨h.1, ?_⟩⟩
 exact ⟨⟨h.2.1.1, refB_self _⟩, refB_self _⟩
theorem made_args {k o : Int} {x : Nat} {s : ByteArray} {b : Bool} {f : Int} {r q : RefT} {l l' : List NodeT} (hl : l'.length = l.length) (h : madeB (.mk k o x s b f r q l) = true) : madeB (.mk k o x s b f r q l') = true := by
 unfold madeB at *
 simp only [alikeB, NodeT.kind, NodeT.op, NodeT.x, NodeT.s, NodeT.b, NodeT.f, NodeT.ref, NodeT.to, hl] at *
 exact h
mutual
theorem turnT_fault {cG : Ad → Ad × Bool} {aG : ArT → ArT × Bool} (H : RoadV cG aG) : ∀ (t : NodeT) (ins : Bool), faultT t ins = 0 → faultT (turnT cG aG t) ins = 0 ∧ measT (turnT cG aG t) = measT t
 | .mk k o x s b f r q l, ins, h => by
  rw [faultT] at h
  by_cases hm : madeB (.mk k o x s b f r q l) = true
  · rw [if_pos hm] at h
    rw [turnT, turnH]
    by_cases h5 : k = 5
    · subst h5
      rw [if_pos (by rfl)] at h
      obtain ⟨rfl, hm'⟩ := made_ref (r' := ⟨(cG r.a).1, r.cf, r.rf⟩) hm
      rw [if_pos rfl, turnL]
      by_cases ho : (cG r.a).2 = true
      · rw [if_pos ho]
        have hv : validB r.a.1 r.a.2 = true := by
         by_cases hv : validB r.a.1 r.a.2 = true
         · exact hv
         · rw [if_neg hv] at h; omega
        refine ⟨?_, rfl⟩
        rw [faultT, if_pos hm', if_pos (by rfl), if_pos (H.cell _ hv ho), faultL]
      · rw [if_neg ho]
        exact ⟨fault_lost ins, rfl⟩
    · rw [if_neg (by simpa using h5)] at h
      rw [if_neg h5]
      by_cases h6 : k = 6
      · subst h6
        rw [if_pos (by rfl)] at h
        obtain ⟨rfl, hm'⟩ := made_area (r' := ⟨((aG (arOf r q)).1.a, (aG (arOf r q)).1.b), r.cf, r.rf⟩) (q' := ⟨((aG (arOf r q)).1.c, (aG (arOf r q)).1.d), q.cf, q.rf⟩) hm
        rw [if_pos rfl, turnL]
        by_cases ho : (aG (arOf r q)).2 = true
        · rw [if_pos ho]
          have hv : (validB r.a.1 r.a.2 && validB q.a.1 q.a.2 && decide (r.a.1 ≤ q.a.1) && decide (r.a.2 ≤ q.a.2)) = true := by
           by_cases hv : (validB r.a.1 r.a.2 && validB q.a.1 q.a.2 && decide (r.a.1 ≤ q.a.1) && decide (r.a.2 ≤ q.a.2)) = true
           · exact hv
           · rw [if_neg hv] at h; omega
          rw [if_pos hv] at h
          refine ⟨?_, rfl⟩
          have hv' := H.area (arOf r q) hv ho
          rw [faultT, if_pos hm', if_neg (by decide), if_pos (by rfl), if_pos (show (validB _ _ && validB _ _ && decide _ && decide _) = true from hv')]
          cases ins
          · exact h
          · rfl
        · rw [if_neg ho]
          exact ⟨fault_lost ins, rfl⟩
      · rw [if_neg (by simpa using h6)] at h
        rw [if_neg h6]
        have hlen : (turnL cG aG l).length = l.length := turnL_len cG aG l
        have hm' := made_args (l' := turnL cG aG l) hlen hm
        have hL : faultL l (k == 9) = 0 := by
         split at h
         · split at h
           · split at h
             · omega
             · split at h
               · omega
               · exact h
           · omega
         · exact h
        obtain ⟨q1, q2⟩ := turnL_fault H l (k == 9) hL
        constructor
        · rw [faultT, if_pos hm', if_neg (by simpa using h5), if_neg (by simpa using h6), hlen, q1]
          rw [hL] at h
          exact h
        · rw [measT, measT, q2]
  · rw [if_neg hm] at h; omega
theorem turnL_fault {cG : Ad → Ad × Bool} {aG : ArT → ArT × Bool} (H : RoadV cG aG) : ∀ (l : List NodeT) (c : Bool), faultL l c = 0 → faultL (turnL cG aG l) c = 0 ∧ ∀ n d, measL (turnL cG aG l) n d = measL l n d
 | [], _, _ => ⟨by rw [turnL, faultL], fun n d => by rw [turnL]⟩
 | t :: l, c, h => by
  rw [faultL] at h
  split at h
  · rename_i e
    obtain ⟨q1, q2⟩ := turnT_fault H t c e
    obtain ⟨q3, q4⟩ := turnL_fault H l c h
    constructor
    · rw [turnL, faultL, if_pos q1]; exact q3
    · intro n d
      rw [turnL, measL, measL, q2]; exact q4 _ _
  · rename_i e; exact absurd h e
end
theorem turn_check {cG : Ad → Ad × Bool} {aG : ArT → ArT × Bool} (H : RoadV cG aG) {t : NodeT} (h : checkT t = 0) : checkT (turnT cG aG t) = 0 := by
 obtain ⟨q1, q2⟩ := turnT_fault H t false (checkT_zero h)
 unfold checkT at *
 rw [q2, q1]
 split at h
 · omega
 · rename_i e1
   rw [if_neg e1]
   split at h
   · omega
   · rename_i e2
     rw [if_neg e2]
theorem contG_valid {cG : Ad → Ad × Bool} {aG : ArT → ArT × Bool} (H : RoadV cG aG) {c : ContT} (h : gvalidB c = true) : gvalidB (contG cG aG (copyC c)) = true := by
 have h2 : gvalidB (copyC c) = true := (gvalidB_copy c).trans h
 unfold contG
 split
 · rename_i hk
   unfold gvalidB at h2 ⊢
   simp only [hk, Int.reduceBEq, Bool.false_eq_true, if_false, if_true, Bool.and_eq_true] at h2 ⊢
   refine ⟨h2.1, ?_⟩
   have h3 : checkT (copyC c).t = 0 := by simpa using h2.2
   have h4 : checkT (copyT (copyC c).t) = 0 := by
    have : copyT (copyC c).t = (copyC c).t := copyT_idem c.t
    rw [this]; exact h3
   simpa using turn_check H h4
 · exact h2
theorem contG_kind (cG : Ad → Ad × Bool) (aG : ArT → ArT × Bool) (c : ContT) : (contG cG aG c).kind = c.kind := by unfold contG; split <;> rfl
theorem contG_copy (cG : Ad → Ad × Bool) (aG : ArT → ArT × Bool) (c : ContT) : copyC (contG cG aG (copyC c)) = contG cG aG (copyC c) := by
 unfold contG
 split
 · show ContT.mk _ _ _ = ContT.mk _ _ _
   have e1 : copyT (turnT cG aG (copyT (copyC c).t)) = turnT cG aG (copyT (copyC c).t) := by
    rw [← turn_copy, copyT_idem]
   have e2 : ({ (copyC c).v with x := oneX (copyC c).v.x } : ValT) = (copyC c).v := by
    have := copyC_idem c
    exact congrArg ContT.v this
   simp only [e1, e2]
 · exact copyC_idem c
def goP (cG : Ad → Ad × Bool) (aG : ArT → ArT × Bool) (l : PG) : PG := (l.filter fun x => (cG x.1).2).map fun x => ((cG x.1).1, contG cG aG (copyC x.2))
theorem goP_snoc (cG : Ad → Ad × Bool) (aG : ArT → ArT × Bool) (l : PG) (x : Ad × ContT) : goP cG aG (l ++ [x]) = if (cG x.1).2 = true then goP cG aG l ++ [((cG x.1).1, contG cG aG (copyC x.2))] else goP cG aG l := by
 unfold goP
 rw [List.filter_append]
 split <;> simp_all
end Go.Proofs.YtdoeejhdenifpaaGreatDoor
/- quadrillelaw22's small functions; Rows; the iterators of Nodes and Cells. -/
namespace Go.Proofs.YtdoeejhdenifpaaGreatDoor
open Go.RowKit Go.Sort
set_option maxRecDepth 100000 in
theorem at_any (a : Ad) (w : World) : Calls Tryz.prog 14 #[.int .i64 a.1, .int .i64 a.2] w fun e w' => e = .returned (.agg #[.int .i64 a.1, .int .i64 a.2]) ∧ Gr w w' := by
 go_enter Tryz.func14, Tryz.ntmps14
 go_wp2
 (try simp only [Exit.inBlock, Exit.then])
 refine bodyPost_ret (results_cell_row rfl _ _ w.heap.size _ _ _ _ rfl (heap_alloc_new _ _) Tryz.underlying24 rfl (by kernel_rfl)) rfl ?_
 exact ⟨rfl, (Gr.refl _).alloc _⟩
def refT (a : Ad) : NodeT := .mk 5 0 0 ⟨#[]⟩ false 0 ⟨a, false, false⟩ zR []
set_option maxRecDepth 100000 in
set_option maxHeartbeats 2000000 in
theorem ref_any (a : Ad) (w : World) : Calls Tryz.prog 36 #[.agg #[.int .i64 a.1, .int .i64 a.2]] w fun e w' => e = .returned (nodeV (refT a) none 0 0) ∧ Xt w w' := by
 go_enter Tryz.func36, Tryz.ntmps36
 go_wp2
 (try simp only [Exit.inBlock, Exit.then])
 refine bodyPost_ret (results_cell_row rfl _ _ (w.heap.size + 1) _ _ _ _ rfl (by
  have := heap_alloc_new (w.alloc (.cells #[.int .i64 a.1, .int .i64 a.2] 24))
  simpa using this _) Tryz.underlying49 rfl (by kernel_rfl)) rfl ?_
 exact ⟨rfl, ((Xt.refl _).alloc _).alloc _⟩
theorem rows_any (at_ n : Int) (gb mb : Nat) (M : GM) (w : World) (hG : GridIs w gb mb M) (hT : Tabs w) (hO : GOk (er M)) :
    Calls Tryz.prog 33 #[.pointer (some ⟨gb, 0, none⟩), .int .i64 at_, .int .i64 n] w (BrR false at_ n M w) := by
 have HB := Lib.hid (brought_any false at_ n gb mb M w hG hT hO)
 go_enter Tryz.func33, Tryz.ntmps33
 go_wp2_with (first | (go_at_call 73; refine (HB.out).mono ?_; rintro e w1 ⟨hx, (⟨h1, rfl⟩ | ⟨h1, (⟨h2, rfl⟩ | ⟨h2, go, mo, Mo, rfl, h3⟩)⟩)⟩))
 · go_ret2
   exact ⟨hx, Or.inl ⟨h1, rfl⟩⟩
 · go_ret2
   exact ⟨hx, Or.inr ⟨h1, Or.inl ⟨h2, rfl⟩⟩⟩
 · go_ret2
   exact ⟨hx, Or.inr ⟨h1, Or.inr ⟨h2, go, mo, Mo, rfl, h3⟩⟩⟩
def NodesR (t : NodeT) (w : World) (e : Ending) (w' : World) : Prop :=
 ∃ b a' n, e = .returned (.func (.func 77) #[] #[.pointer (some ⟨b, 0, none⟩)]) ∧ w.heap.size ≤ b ∧ w'.heap[b]? = some (.cells (nodeC (copyT t) (.slice a' t.args.length t.args.length)).toArray 49 (0, 0)) ∧
  ArgsIn w' n (.slice a' t.args.length t.args.length) (copyL t.args) ∧ Xt w w'
set_option maxRecDepth 100000 in
set_option maxHeartbeats 2000000 in
theorem nodes_any (n : Nat) (t : NodeT) (a : Option Addr) (cap : Nat) (w : World) (hsm : smallT t) (hin : ArgsIn w n (.slice a t.args.length cap) t.args) :
    Calls Tryz.prog 38 #[nodeV t a t.args.length cap] w (NodesR t w) := by
 obtain ⟨w0, hw0, hg0, hs0, hN⟩ := boxN w t a t.args.length cap 49
 obtain ⟨c0, c1, c2, c3, c4, c5, c6, c7, c8, c9, c10, c11, c12, c13, c14⟩ := hN
 simp only [Nat.zero_add] at c0 c1 c2 c3 c4 c5 c6 c7 c8 c9 c10 c11 c12 c13 c14
 have HC := Lib.hid (fcopyS_any n t a cap w0 hsm (hin.xt hg0.xt))
 have HG0 := Lib.hid hg0
 clear hg0 hsm hin
 go_enter Tryz.func38, Tryz.ntmps38
 go_wp2_with (first | (go_at_call 76; refine (HC.out).mono ?_; rintro e w1 ⟨a', rfl, hS, hx⟩; have HS := Lib.hid hS; have HX := Lib.hid hx; clear hS hx))
 go_ret
 have hx2 : Xt w w1 := HG0.out.xt.trans HX.out
 refine ⟨w1.heap.size, a', n, rfl, hx2.size, ?_, (HS.out.own.args).xt ((Xt.refl _).alloc _), hx2.alloc _⟩
 obtain ⟨k, o, x, s, bb, f, r, q, l⟩ := t
 exact (MapKept.heap_alloc w1 _).1
set_option maxRecDepth 100000 in
theorem cells_any (x : ArT) (w : World) : Calls Tryz.prog 39 #[arT x] w fun e w' => e = .returned (.func (.func 79) #[] #[.pointer (some ⟨w.heap.size, 0, none⟩)]) ∧ w' = w.alloc (.cells #[.int .i64 x.a, .int .i64 x.b, .int .i64 x.c, .int .i64 x.d] 26) := by
 go_enter Tryz.func39, Tryz.ntmps39
 go_wp2
 go_ret
 exact ⟨rfl, rfl⟩
end Go.Proofs.YtdoeejhdenifpaaGreatDoor
/- formula.Nodes' iterator: each goes over a tree's nodes, one behind the other. -/
namespace Go.Proofs.YtdoeejhdenifpaaGreatDoor
open Go.RowKit Go.Sort Go.Maps Go.Shelf
attribute [local go_sem] Oper.semAt_some
def leafN : NodeT → NodeT
 | .mk k o x s b f r q _ => .mk k o x s b f r q []
mutual
def flatT : NodeT → List NodeT
 | .mk k o x s b f r q l => .mk k o x s b f r q [] :: flatL l
def flatL : List NodeT → List NodeT
 | [] => []
 | t :: l => flatT t ++ flatL l
end
theorem flatT_eq (t : NodeT) : flatT t = leafN t :: flatL t.args := by cases t; rw [flatT]; rfl
structure KN (W W' : World) : Prop where
 size : W.heap.size ≤ W'.heap.size
 same : ∀ (k : Nat) (cs : Array Value) (fz : Nat × Nat), W.heap[k]? = some (.cells cs 49 fz) → W'.heap[k]? = some (.cells cs 49 fz)
theorem KN.refl (W : World) : KN W W := ⟨Nat.le_refl _, fun _ _ _ h => h⟩
theorem KN.trans {A B C : World} (h : KN A B) (k : KN B C) : KN A C := ⟨Nat.le_trans h.size k.size, fun b cs fz e => k.same b cs fz (h.same b cs fz e)⟩
theorem KN.of_xt {W W' : World} (h : Xt W W') : KN W W' := ⟨h.size, fun k _ _ e => (h.block k (Array.getElem?_eq_some_iff.1 e).1).trans e⟩
theorem yield_any {m m' l : Nat} {P : Program} {args : Array Value} {W : World} {R : Ending → World → Prop} (h : YieldAt Fence.wide m P l args W R) : YieldAt Fence.wide m' P l args W R :=
 let ⟨fn, tmps, assign, body, hy, hR⟩ := h
 ⟨fn, tmps, assign, body, hy, ⟨hR.1, fun c cs _ => hR.2 c cs (room_wide _)⟩⟩
theorem flat_pos (t : NodeT) : 0 < (flatT t).length := by rw [flatT_eq]; simp
end Go.Proofs.YtdoeejhdenifpaaGreatDoor
/- quadrillelaw22's nodes and faults (made by mkq5.py). -/
namespace Go.Proofs.YtdoeejhdenifpaaGreatDoor
open Go.RowKit Go.Sort Go.Maps Go.Shelf Go.MapKept
attribute [local go_sem] Oper.semAt_some
end Go.Proofs.YtdoeejhdenifpaaGreatDoor
/- quadrillelaw22's faults: how many nodes of a formula are one (made by mkq6.py). -/
namespace Go.Proofs.YtdoeejhdenifpaaGreatDoor
open Go.RowKit Go.Sort Go.Maps Go.Shelf Go.MapKept
attribute [local go_sem] Oper.semAt_some
def cntK (l : List NodeT) : Nat := (l.filter fun x => decide (x.kind = 4)).length
def faultsT (t : NodeT) : Nat := cntK (flatT t)
mutual
theorem flat_copy : ∀ t : NodeT, flatT (copyT t) = (flatT t).map copyT
 | .mk k o x s b f r q l => by
  rw [copyT, flatT, flatT, List.map_cons, flatL_copy l]
  rfl
theorem flatL_copy : ∀ l : List NodeT, flatL (copyL l) = (flatL l).map copyT
 | [] => rfl
 | t :: l => by rw [copyL, flatL, flatL, List.map_append, flat_copy t, flatL_copy l]
end
structure LJ {α : Type} (W0 : World) (R : Nat) (f : List α → Int) (pre : List α) (W : World) : Prop where
 grown : W0.grownBy W (some R)
 cnt : W.heap[R]? = some (.cells #[.int .i64 (f pre)] 3 (0, 0))
theorem LJ.own {α : Type} {W0 : World} {R : Nat} {f : List α → Int} : OwnFrom W0.heap.size (fun pre W => LJ W0 R f pre W) := fun s X Y row hs hg hr => by
 obtain ⟨h1, h2⟩ := hs
 exact ⟨grownBy_far h1 hg (fun r e => (hr r e).1), rowCells_own h2 hg (fun r e => (hr r e).2)⟩
theorem KN.putObj {W : World} {l : Nat} {o : Obj} (o' : Obj) (ho : W.heap[l]? = some o) (hc : o.isCells = false) : KN W (W.putObj l o') :=
 ⟨by simp, fun k cs fz hk => (World.putObj_heap_other (fun e => by subst e; rw [ho] at hk; cases hk; cases hc)).trans hk⟩
end Go.Proofs.YtdoeejhdenifpaaGreatDoor
/- quadrillelaw22's pick and all. -/
namespace Go.Proofs.YtdoeejhdenifpaaGreatDoor
open Go.RowKit Go.Sort
def pickZ (c n : Int) : Int := if c < 0 then -((c + 1).tmod n) else c % n
theorem wrap_idz {x : Int} (h0 : -9223372036854775808 ≤ x) (h1 : x ≤ 9223372036854775807) : IntKind.i64.wrap x = x := by rw [IntKind.wrap_i64]; omega
theorem pickZ_lt {c n : Int} (hn : 0 < n) : 0 ≤ pickZ c n ∧ pickZ c n < n := by
 unfold pickZ
 split
 · have a3 : 0 ≤ (-(c + 1)).tmod n := Int.tmod_nonneg _ (by omega)
   have a4 : (-(c + 1)).tmod n < n := Int.tmod_lt_of_pos _ hn
   rw [Int.neg_tmod] at a3 a4
   exact ⟨a3, a4⟩
 · exact ⟨Int.emod_nonneg _ (by omega), Int.emod_lt_of_pos _ hn⟩
set_option maxHeartbeats 1000000 in
theorem pickz_any (c n : Int) (w : World) (h0 : -9223372036854775808 ≤ c) (h1 : c ≤ 9223372036854775807) (hn : 0 < n) (hn1 : n ≤ 9223372036854775807) : Calls Tryz.prog 32 #[.int .i64 c, .int .i64 n] w fun e w' => e = .returned (.int .i64 (pickZ c n)) ∧ w = w' := by
 have hn0 : (n == 0) = false := by simp; omega
 have hn2 : ¬ n = 0 := by omega
 by_cases hc : c < 0
 · have hz : pickZ c n = -((c + 1).tmod n) := by unfold pickZ; rw [if_pos hc]
   have a1 : IntKind.i64.wrap (c + 1) = c + 1 := wrap_idz (by omega) (by omega)
   have a2 : IntKind.i64.wrap (-(c + 1)) = -(c + 1) := wrap_idz (by omega) (by omega)
   have a3 : 0 ≤ (-(c + 1)).tmod n := Int.tmod_nonneg _ (by omega)
   have a4 : (-(c + 1)).tmod n < n := Int.tmod_lt_of_pos _ hn
   have a5 : IntKind.i64.wrap ((-(c + 1)).tmod n) = (-(c + 1)).tmod n := wrap_idz (by omega) (by omega)
   have HZ := Lib.hid hz
   clear hz
   go_enter Tryz.func32, Tryz.ntmps32
   go_wp2_with fail
   go_ret
   refine ⟨?_, rfl⟩
   rw [HZ.out]
   first | rfl | simp
 · have hz : pickZ c n = c % n := by unfold pickZ; rw [if_neg hc]
   have a3 : 0 ≤ c.tmod n := Int.tmod_nonneg _ (by omega)
   have a4 : c.tmod n < n := Int.tmod_lt_of_pos _ hn
   have a5 : IntKind.i64.wrap (c.tmod n) = c.tmod n := wrap_idz (by omega) (by omega)
   have HZ := Lib.hid hz
   clear hz
   go_enter Tryz.func32, Tryz.ntmps32
   go_wp2_with fail
   go_ret
   refine ⟨?_, rfl⟩
   rw [HZ.out]
   first | rfl | simp
theorem all22_any (gb : Nat) (w : World) : Calls Tryz.prog 30 #[.pointer (some ⟨gb, 0, none⟩)] w fun e w' => e = .returned (.func (.func 116) #[] #[.pointer (some ⟨w.heap.size, 0, none⟩), .pointer (some ⟨w.heap.size + 1, 0, none⟩)]) ∧ w' = (w.alloc (.cells #[.pointer (some ⟨gb, 0, none⟩)] 29)).alloc (.cells #[.func (.func 75) #[] #[]] 99) := by
 have hq := fun w f lb => run_eql_func_nil (P := Tryz.prog) w 75 _ _ _ (.func f) #[] lb Tryz.underlying75
 go_enter Tryz.func30, Tryz.ntmps30
 go_wp2_with (first | (go_at_call 37; refine ((callsIn_wide (n := 20)).1 (all_in 20 (by omega) _ _)).mono ?_; rintro e w' ⟨rfl, rfl⟩))
 go_ret
 exact ⟨rfl, rfl⟩
end Go.Proofs.YtdoeejhdenifpaaGreatDoor
