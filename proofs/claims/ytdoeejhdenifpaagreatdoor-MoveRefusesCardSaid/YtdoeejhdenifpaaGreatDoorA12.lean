import Derived.Test.YtdoeejhdenifpaaGreatDoorZ1
import Derived.Test.YtdoeejhdenifpaaGreatDoorA11
import Derived.RangeFuncWrites
import Derived.StillTailTactics
import Derived.Test.YtdoeejhdenifpaaGreatDoorA8
import Derived.RangeFuncNested
import Derived.Test.YtdoeejhdenifpaaGreatDoorA6
import Derived.Test.YtdoeejhdenifpaaGreatDoorT2
import Derived.Test.YtdoeejhdenifpaaGreatDoorV23
import Derived.Test.YtdoeejhdenifpaaGreatDoorA4
import Derived.Test.YtdoeejhdenifpaaGreatDoorA1
import Derived.Test.YtdoeejhdenifpaaGreatDoorM6
import Derived.Test.YtdoeejhdenifpaaGreatDoorA10
/- quadrillelaw22's nodes and faults (made by mkq5.py). -/
namespace Go.Proofs.YtdoeejhdenifpaaGreatDoor
open Go.RowKit Go.Sort Go.Maps Go.Shelf Go.MapKept
attribute [local go_sem] Oper.semAt_some
end Go.Proofs.YtdoeejhdenifpaaGreatDoor
/- quadrillelaw22's faults: how many nodes of a formula are one (made by mkq6.py). -/
namespace Go.Proofs.YtdoeejhdenifpaaGreatDoor
open Go.RowKit Go.Sort Go.Maps Go.Shelf Go.MapKept
attribute [local go_sem] Oper.semAt_some
def cntK (l : List NodeT) : Nat := (l.filter fun x => decide (x.kind = 4)).length
def faultsT (t : NodeT) : Nat := cntK (flatT t)
mutual
theorem flat_copy : ∀ t : NodeT, flatT (copyT t) = (flatT t).map copyT
 | .mk k o x s b f r q l => by
  rw [copyT, flatT, flatT, List.map_cons, flatL_copy l]
  rfl
theorem flatL_copy : ∀ l : List NodeT, flatL (copyL l) = (flatL l).map copyT
 | [] => rfl
 | t :: l => by rw [copyL, flatL, flatL, List.map_append, flat_copy t, flatL_copy l]
end
structure LJ {α : Type} (W0 : World) (R : Nat) (f : List α → Int) (pre : List α) (W : World) : Prop where
 grown : W0.grownBy W (some R)
 cnt : W.heap[R]? = some (.cells #[.int .i64 (f pre)] 3 (0, 0))
theorem LJ.own {α : Type} {W0 : World} {R : Nat} {f : List α → Int} : OwnFrom W0.heap.size (fun pre W => LJ W0 R f pre W) := fun s X Y row hs hg hr => by
 obtain ⟨h1, h2⟩ := hs
 exact ⟨grownBy_far h1 hg (fun r e => (hr r e).1), rowCells_own h2 hg (fun r e => (hr r e).2)⟩
theorem KN.putObj {W : World} {l : Nat} {o : Obj} (o' : Obj) (ho : W.heap[l]? = some o) (hc : o.isCells = false) : KN W (W.putObj l o') :=
 ⟨by simp, fun k cs fz hk => (World.putObj_heap_other (fun e => by subst e; rw [ho] at hk; cases hk; cases hc)).trans hk⟩
end Go.Proofs.YtdoeejhdenifpaaGreatDoor
/- quadrillelaw22's pick and all. -/
namespace Go.Proofs.YtdoeejhdenifpaaGreatDoor
open Go.RowKit Go.Sort
def pickZ (c n : Int) : Int := if c < 0 then -((c + 1).tmod n) else c % n
theorem wrap_idz {x : Int} (h0 : -9223372036854775808 ≤ x) (h1 : x ≤ 9223372036854775807) : IntKind.i64.wrap x = x := by rw [IntKind.wrap_i64]; omega
theorem pickZ_lt {c n : Int} (hn : 0 < n) : 0 ≤ pickZ c n ∧ pickZ c n < n := by
 unfold pickZ
 split
 · have a3 : 0 ≤ (-(c + 1)).tmod n := Int.tmod_nonneg _ (by omega)
   have a4 : (-(c + 1)).tmod n < n := Int.tmod_lt_of_pos _ hn
   rw [Int.neg_tmod] at a3 a4
   exact ⟨a3, a4⟩
 · exact ⟨Int.emod_nonneg _ (by omega), Int.emod_lt_of_pos _ hn⟩
set_option maxHeartbeats 1000000 in
theorem pickz_any (c n : Int) (w : World) (h0 : -9223372036854775808 ≤ c) (h1 : c ≤ 9223372036854775807) (hn : 0 < n) (hn1 : n ≤ 9223372036854775807) : Calls Tryz.prog 32 #[.int .i64 c, .int .i64 n] w fun e w' => e = .returned (.int .i64 (pickZ c n)) ∧ w = w' := by
 have hn0 : (n == 0) = false := by simp; omega
 have hn2 : ¬ n = 0 := by omega
 by_cases hc : c < 0
 · have hz : pickZ c n = -((c + 1).tmod n) := by unfold pickZ; rw [if_pos hc]
   have a1 : IntKind.i64.wrap (c + 1) = c + 1 := wrap_idz (by omega) (by omega)
   have a2 : IntKind.i64.wrap (-(c + 1)) = -(c + 1) := wrap_idz (by omega) (by omega)
   have a3 : 0 ≤ (-(c + 1)).tmod n := Int.tmod_nonneg _ (by omega)
   have a4 : (-(c + 1)).tmod n < n := Int.tmod_lt_of_pos _ hn
   have a5 : IntKind.i64.wrap ((-(c + 1)).tmod n) = (-(c + 1)).tmod n := wrap_idz (by omega) (by omega)
   have HZ := Lib.hid hz
   clear hz
   go_enter Tryz.func32, Tryz.ntmps32
   go_wp2_with fail
   go_ret
   refine ⟨?_, rfl⟩
   rw [HZ.out]
   first | rfl | simp
 · have hz : pickZ c n = c % n := by unfold pickZ; rw [if_neg hc]
   have a3 : 0 ≤ c.tmod n := Int.tmod_nonneg _ (by omega)
   have a4 : c.tmod n < n := Int.tmod_lt_of_pos _ hn
   have a5 : IntKind.i64.wrap (c.tmod n) = c.tmod n := wrap_idz (by omega) (by omega)
   have HZ := Lib.hid hz
   clear hz
   go_enter Tryz.func32, Tryz.ntmps32
   go_wp2_with fail
   go_ret
   refine ⟨?_, rfl⟩
   rw [HZ.out]
   first | rfl | simp
end Go.Proofs.YtdoeejhdenifpaaGreatDoor
/- quadrillelaw22's lost: how many faults all formulas of a grid have (made by mkq7.py). -/
namespace Go.Proofs.YtdoeejhdenifpaaGreatDoor
open Go.RowKit Go.Sort Go.Maps Go.Shelf Go.MapKept
attribute [local go_sem] Oper.semAt_some
def lostP : PG → Nat
 | [] => 0
 | x :: r => faultsT x.2.t + lostP r
end Go.Proofs.YtdoeejhdenifpaaGreatDoor
/- quadrillelaw22's low: what it tells, plain; a cell that is not set, or is. -/
namespace Go.Proofs.YtdoeejhdenifpaaGreatDoor
open Go.RowKit Go.Sort Go.Maps Go.Shelf Go.MapKept
attribute [local go_sem] Oper.semAt_some
structure LV (W0 : World) (R : Nat) (v : Bool) (W : World) : Prop where
 grown : W0.grownBy W (some R)
 row : W.heap[R]? = some (.cells #[.bool v] 4 (0, 0))
theorem LV.own {W0 : World} {R B : Nat} {v : Bool} (hB : W0.heap.size ≤ B) {X Y : World} {row : Option Nat} (hs : LV W0 R v X) (hg : X.grownBy Y row) (hr : ∀ r, row = some r → B ≤ r ∧ ∃ o : Obj, X.heap[r]? = some o ∧ o.isCells = false) : LV W0 R v Y :=
 ⟨grownBy_far hs.grown hg (fun r e => Nat.le_trans hB (hr r e).1), rowCells_own hs.row hg (fun r e => (hr r e).2)⟩
theorem LV.refl {W : World} {R : Nat} {v : Bool} (h : W.heap[R]? = some (.cells #[.bool v] 4 (0, 0))) : LV W R v W := ⟨⟨rfl, rfl, rfl, Nat.le_refl _, fun _ _ _ => rfl⟩, h⟩
end Go.Proofs.YtdoeejhdenifpaaGreatDoor
/- move, plain: lines there and back, twice and at once; what is lost. -/
namespace Go.Proofs.YtdoeejhdenifpaaGreatDoor
open Go.RowKit Go.Sort
end Go.Proofs.YtdoeejhdenifpaaGreatDoor
/- move, plain: formulas and grids there and back, twice and at once. -/
namespace Go.Proofs.YtdoeejhdenifpaaGreatDoor
open Go.RowKit Go.Sort
theorem turnH_else {cG : Ad → Ad × Bool} {aG : ArT → ArT × Bool} {k o : Int} {x : Nat} {s : ByteArray} {b : Bool} {f : Int} {r q : RefT} {l : List NodeT} (h5 : k ≠ 5) (h6 : k ≠ 6) : turnH cG aG (.mk k o x s b f r q l) = .mk k o x s b f r q l := by
 rw [turnH, if_neg h5, if_neg h6]
theorem turn_leaf {cG : Ad → Ad × Bool} {aG : ArT → ArT × Bool} {t : NodeT} (h : t.args = []) : turnT cG aG t = turnH cG aG t := by
 obtain ⟨k, o, x, s, b, f, r, q, l⟩ := t
 have h : l = [] := h
 subst h
 rw [turnT, turnL]
theorem turnH_noargs {cG : Ad → Ad × Bool} {aG : ArT → ArT × Bool} {t : NodeT} (h : t.args = []) : (turnH cG aG t).args = [] := by
 rcases turnH_form cG aG t with e | ⟨r, q, e⟩
 · rw [e]; rfl
 · rw [e]; exact h
def okN (x : NodeT) : Prop := (x.kind = 5 → validB x.ref.a.1 x.ref.a.2 = true) ∧ (x.kind = 6 → vA (arOf x.ref x.to) = true)
theorem fault_cases {k o : Int} {x : Nat} {s : ByteArray} {b : Bool} {f : Int} {r q : RefT} {l : List NodeT} {ins : Bool} (h : faultT (.mk k o x s b f r q l) ins = 0) :
    ((k = 5 ∨ k = 6) ∧ l = [] ∧ okN (.mk k o x s b f r q [])) ∨ (k ≠ 5 ∧ k ≠ 6 ∧ faultL l (k == 9) = 0) := by
 rw [faultT] at h
 by_cases hm : madeB (.mk k o x s b f r q l) = true
 · rw [if_pos hm] at h
   by_cases h5 : k = 5
   · subst h5
     rw [if_pos (by rfl)] at h
     obtain ⟨rfl, _⟩ := made_ref (r' := r) hm
     refine Or.inl ⟨Or.inl rfl, rfl, fun _ => ?_, fun e => absurd (show (5 : Int) = 6 from e) (by decide)⟩
     show validB r.a.1 r.a.2 = true
     by_cases hv : validB r.a.1 r.a.2 = true
     · exact hv
     · rw [if_neg hv] at h; omega
   · rw [if_neg (by simpa using h5)] at h
     by_cases h6 : k = 6
     · subst h6
       rw [if_pos (by rfl)] at h
       obtain ⟨rfl, _⟩ := made_area (r' := r) (q' := q) hm
       refine Or.inl ⟨Or.inr rfl, rfl, fun e => absurd (show (6 : Int) = 5 from e) (by decide), fun _ => ?_⟩
       show (validB r.a.1 r.a.2 && validB q.a.1 q.a.2 && decide (r.a.1 ≤ q.a.1) && decide (r.a.2 ≤ q.a.2)) = true
       by_cases hv : (validB r.a.1 r.a.2 && validB q.a.1 q.a.2 && decide (r.a.1 ≤ q.a.1) && decide (r.a.2 ≤ q.a.2)) = true
       · exact hv
       · rw [if_neg hv] at h; omega
     · rw [if_neg (by simpa using h6)] at h
       refine Or.inr ⟨h5, h6, ?_⟩
       split at h
       · split at h
         · split at h
           · omega
           · split at h
             · omega
             · exact h
         · omega
       · exact h
 · rw [if_neg hm] at h; omega
theorem faultL_cons {t : NodeT} {l : List NodeT} {c : Bool} (h : faultL (t :: l) c = 0) : faultT t c = 0 ∧ faultL l c = 0 := by
 rw [faultL] at h
 split at h
 · rename_i e; exact ⟨e, h⟩
 · rename_i e; exact absurd h e
mutual
theorem flat_okN : ∀ (t : NodeT) (ins : Bool), faultT t ins = 0 → ∀ x ∈ flatT t, okN x
 | .mk k o x s b f r q l, ins, h => by
  rw [flatT]
  rcases fault_cases h with ⟨_, rfl, hk⟩ | ⟨h5, h6, hL⟩
  · intro y hy
    rw [flatL] at hy
    rw [List.mem_singleton.1 hy]; exact hk
  · intro y hy
    rcases List.mem_cons.1 hy with e | hy
    · rw [e]; exact ⟨fun e => absurd e h5, fun e => absurd e h6⟩
    · exact flatL_okN l _ hL y hy
theorem flatL_okN : ∀ (l : List NodeT) (c : Bool), faultL l c = 0 → ∀ x ∈ flatL l, okN x
 | [], _, _ => fun x hx => by rw [flatL] at hx; cases hx
 | t :: l, c, h => fun x hx => by
  obtain ⟨h1, h2⟩ := faultL_cons h
  rw [flatL] at hx
  rcases List.mem_append.1 hx with hx | hx
  · exact flat_okN t c h1 x hx
  · exact flatL_okN l c h2 x hx
end
mutual
theorem turn_comp {cG1 cG2 cG3 : Ad → Ad × Bool} {aG1 aG2 aG3 : ArT → ArT × Bool} : ∀ (t : NodeT) (ins : Bool), faultT t ins = 0 → (∀ x ∈ flatT t, x.kind = 5 ∨ x.kind = 6 → turnH cG2 aG2 (turnH cG1 aG1 x) = turnH cG3 aG3 x) → turnT cG2 aG2 (turnT cG1 aG1 t) = turnT cG3 aG3 t
 | .mk k o x s b f r q l, ins, h, H => by
  rcases fault_cases h with ⟨hk, rfl, _⟩ | ⟨h5, h6, hL⟩
  · have := H (.mk k o x s b f r q []) (by rw [flatT]; exact List.mem_cons_self) hk
    rw [turn_leaf (t := .mk k o x s b f r q []) rfl, turn_leaf (turnH_noargs rfl), turn_leaf (t := .mk k o x s b f r q []) rfl]
    exact this
  · rw [turnT, turnH_else h5 h6, turnT, turnH_else h5 h6, turnT, turnH_else h5 h6, turnL_comp l _ hL (fun y hy => H y (by rw [flatT]; exact List.mem_cons_of_mem _ hy))]
theorem turnL_comp {cG1 cG2 cG3 : Ad → Ad × Bool} {aG1 aG2 aG3 : ArT → ArT × Bool} : ∀ (l : List NodeT) (c : Bool), faultL l c = 0 → (∀ x ∈ flatL l, x.kind = 5 ∨ x.kind = 6 → turnH cG2 aG2 (turnH cG1 aG1 x) = turnH cG3 aG3 x) → turnL cG2 aG2 (turnL cG1 aG1 l) = turnL cG3 aG3 l
 | [], _, _, _ => rfl
 | t :: l, c, h, H => by
  obtain ⟨h1, h2⟩ := faultL_cons h
  rw [turnL, turnL, turnL, turn_comp t c h1 (fun y hy => H y (by rw [flatL]; exact List.mem_append_left _ hy)), turnL_comp l c h2 (fun y hy => H y (by rw [flatL]; exact List.mem_append_right _ hy))]
end
abbrev cI : Ad → Ad × Bool := fun a => (a, true)
abbrev aI : ArT → ArT × Bool := fun x => (x, true)
theorem turnH_id (t : NodeT) : turnH cI aI t = t := by
 obtain ⟨k, o, x, s, b, f, r, q, l⟩ := t
 rw [turnH]
 split
 · rfl
 · split
   · rfl
   · rfl
mutual
theorem turn_id : ∀ t : NodeT, turnT cI aI t = t
 | .mk k o x s b f r q l => by rw [turnT, turnL_id l, turnH_id]
theorem turnL_id : ∀ l : List NodeT, turnL cI aI l = l
 | [] => rfl
 | t :: l => by rw [turnL, turn_id t, turnL_id l]
end
def lostH (cG : Ad → Ad × Bool) (aG : ArT → ArT × Bool) (x : NodeT) : Bool := (decide (x.kind = 5) && !(cG x.ref.a).2) || (decide (x.kind = 6) && !(aG (arOf x.ref x.to)).2)
def lostC (cG : Ad → Ad × Bool) (aG : ArT → ArT × Bool) (l : List NodeT) : Nat := (l.filter (lostH cG aG)).length
theorem lostC_zero {cG : Ad → Ad × Bool} {aG : ArT → ArT × Bool} {l : List NodeT} (h : lostC cG aG l = 0) : ∀ x ∈ l, lostH cG aG x = false := fun x hx => by
 cases e : lostH cG aG x
 · rfl
 · have : x ∈ l.filter (lostH cG aG) := List.mem_filter.2 ⟨hx, e⟩
   rw [List.eq_nil_of_length_eq_zero h] at this
   cases this
theorem cntK_cons (x : NodeT) (l : List NodeT) : cntK (x :: l) = (if x.kind = 4 then 1 else 0) + cntK l := by
 unfold cntK
 rw [List.filter_cons]
 by_cases h : x.kind = 4
 · rw [if_pos (by simpa using h), if_pos h, List.length_cons]; omega
 · rw [if_neg (by simpa using h), if_neg h]; omega
theorem cntK_append (l k : List NodeT) : cntK (l ++ k) = cntK l + cntK k := by unfold cntK; rw [List.filter_append, List.length_append]
theorem lostC_append (cG : Ad → Ad × Bool) (aG : ArT → ArT × Bool) (l k : List NodeT) : lostC cG aG (l ++ k) = lostC cG aG l + lostC cG aG k := by unfold lostC; rw [List.filter_append, List.length_append]
theorem lostC_cons (cG : Ad → Ad × Bool) (aG : ArT → ArT × Bool) (x : NodeT) (l : List NodeT) : lostC cG aG (x :: l) = (if lostH cG aG x = true then 1 else 0) + lostC cG aG l := by
 unfold lostC
 rw [List.filter_cons]
 split
 · rw [List.length_cons]; omega
 · omega
mutual
theorem turn_faults {cG : Ad → Ad × Bool} {aG : ArT → ArT × Bool} : ∀ (t : NodeT) (ins : Bool), faultT t ins = 0 → cntK (flatT (turnT cG aG t)) = cntK (flatT t) + lostC cG aG (flatT t)
 | .mk k o x s b f r q l, ins, h => by
  rcases fault_cases h with ⟨hk, rfl, _⟩ | ⟨h5, h6, hL⟩
  · rw [turn_leaf (t := .mk k o x s b f r q []) rfl, flatT_eq, turnH_noargs rfl, flatT, flatL, cntK_cons, cntK_cons, lostC_cons]
    have e0 : cntK [] = 0 := rfl
    have e1 : lostC cG aG [] = 0 := rfl
    rw [e0, e1]
    rcases hk with rfl | rfl
    · rw [turnH, if_pos rfl]
      cases ho : (cG r.a).2
      · simp [lostT, leafN, NodeT.kind, lostH, NodeT.ref, ho]
      · simp [leafN, NodeT.kind, lostH, NodeT.ref, ho]
    · have e6 : turnH cG aG (.mk 6 o x s b f r q []) = if (aG (arOf r q)).2 = true then .mk 6 o x s b f ⟨((aG (arOf r q)).1.a, (aG (arOf r q)).1.b), r.cf, r.rf⟩ ⟨((aG (arOf r q)).1.c, (aG (arOf r q)).1.d), q.cf, q.rf⟩ [] else lostT := by
       rw [turnH, if_neg (show ¬ (6 : Int) = 5 by decide), if_pos rfl]
      rw [e6]
      cases ho : (aG (arOf r q)).2
      · simp [lostT, leafN, NodeT.kind, lostH, NodeT.ref, NodeT.to, ho]
      · simp [leafN, NodeT.kind, lostH, NodeT.ref, NodeT.to, ho]
  · rw [turnT, turnH_else h5 h6, flatT, flatT, cntK_cons, cntK_cons, lostC_cons, turnL_faults l _ hL]
    have : lostH cG aG (.mk k o x s b f r q []) = false := by unfold lostH; simp [NodeT.kind, h5, h6]
    simp only [this, Bool.false_eq_true, if_false]
    omega
theorem turnL_faults {cG : Ad → Ad × Bool} {aG : ArT → ArT × Bool} : ∀ (l : List NodeT) (c : Bool), faultL l c = 0 → cntK (flatL (turnL cG aG l)) = cntK (flatL l) + lostC cG aG (flatL l)
 | [], _, _ => rfl
 | t :: l, c, h => by
  obtain ⟨h1, h2⟩ := faultL_cons h
  rw [turnL, flatL, flatL, cntK_append, cntK_append, lostC_append, turn_faults t c h1, turnL_faults l c h2]
  omega
end
def okCt (c : ContT) : Prop := gvalidB c = true ∧ (c.kind == 0) = false ∧ copyC c = c
theorem okCt.fault {c : ContT} (h : okCt c) (hk : c.kind = 2) : faultT c.t false = 0 := by
 have hv := h.1
 unfold gvalidB at hv
 simp only [hk, Int.reduceBEq, Bool.false_eq_true, if_false, if_true, Bool.and_eq_true] at hv
 exact checkT_zero (by simpa using hv.2)
theorem okCt.copyT {c : ContT} (h : okCt c) : copyT c.t = c.t := congrArg ContT.t h.2.2
theorem okCt.plain {c : ContT} (h : okCt c) (hk : c.kind ≠ 2) : flatT c.t = [leafN c.t] ∧ c.t.kind = 0 := by
 have hv := h.1
 have h0 := h.2.1
 unfold gvalidB at hv
 rw [h0] at hv
 simp only [Bool.false_eq_true, if_false] at hv
 by_cases h1 : (c.kind == 1) = true
 · rw [if_pos h1] at hv
   simp only [Bool.and_eq_true] at hv
   have hn := hv.1.1
   unfold noNodeB at hn
   simp only [Bool.and_eq_true] at hn
   have hk0 : c.t.kind = 0 := of_decide_eq_true hn.1.1.1.1.1.1.1.1
   have hl : c.t.args = [] := List.length_eq_zero_iff.1 (by have := hn.2; simp at this; simpa using this)
   exact ⟨by rw [flatT_eq, hl, flatL], hk0⟩
 · rw [if_neg h1, if_neg (by simpa using hk)] at hv; cases hv
theorem contG_faults {cG : Ad → Ad × Bool} {aG : ArT → ArT × Bool} {c : ContT} (h : okCt c) : faultsT (contG cG aG c).t = faultsT c.t + lostC cG aG (flatT c.t) := by
 unfold faultsT contG
 by_cases hk : c.kind = 2
 · rw [if_pos hk]
   show cntK (flatT (turnT cG aG (Proofs.YtdoeejhdenifpaaGreatDoor.copyT c.t))) = _
   rw [h.copyT]
   exact turn_faults c.t false (h.fault hk)
 · rw [if_neg hk]
   obtain ⟨e1, e2⟩ := h.plain hk
   have : lostC cG aG (flatT c.t) = 0 := by
    rw [e1, lostC_cons]
    have : lostH cG aG (leafN c.t) = false := by
     unfold lostH
     have hk2 : (leafN c.t).kind = c.t.kind := by cases c.t; rfl
     rw [hk2, e2]; rfl
    rw [this]; rfl
   omega
theorem contG_comp {cG1 cG2 cG3 : Ad → Ad × Bool} {aG1 aG2 aG3 : ArT → ArT × Bool} {c : ContT} (h : okCt c) (H : c.kind = 2 → ∀ x ∈ flatT c.t, x.kind = 5 ∨ x.kind = 6 → turnH cG2 aG2 (turnH cG1 aG1 x) = turnH cG3 aG3 x) :
    contG cG2 aG2 (copyC (contG cG1 aG1 (copyC c))) = contG cG3 aG3 (copyC c) := by
 rw [contG_copy, h.2.2]
 unfold contG
 by_cases hk : c.kind = 2
 · rw [if_pos hk, if_pos hk]
   simp only
   rw [if_pos hk]
   have e : turnT cG2 aG2 (Proofs.YtdoeejhdenifpaaGreatDoor.copyT (turnT cG1 aG1 (Proofs.YtdoeejhdenifpaaGreatDoor.copyT c.t))) = turnT cG3 aG3 (Proofs.YtdoeejhdenifpaaGreatDoor.copyT c.t) := by
    rw [← turn_copy, h.copyT, h.copyT]
    exact turn_comp c.t false (h.fault hk) (H hk)
   rw [e]
 · rw [if_neg hk, if_neg hk, if_neg hk]
theorem contG_id {c : ContT} (h : okCt c) : contG cI aI (copyC c) = c := by
 rw [h.2.2]
 unfold contG
 split
 · rw [turn_id, h.copyT]
 · rfl
theorem goP_cons (cG : Ad → Ad × Bool) (aG : ArT → ArT × Bool) (x : Ad × ContT) (l : PG) : goP cG aG (x :: l) = if (cG x.1).2 = true then ((cG x.1).1, contG cG aG (copyC x.2)) :: goP cG aG l else goP cG aG l := by
 unfold goP
 rw [List.filter_cons]
 split <;> rfl
theorem goP_comp {cG1 cG2 cG3 : Ad → Ad × Bool} {aG1 aG2 aG3 : ArT → ArT × Bool} : ∀ {l : PG}, (∀ x ∈ l, ((cG1 x.1).2 = true → cG2 (cG1 x.1).1 = cG3 x.1 ∧ contG cG2 aG2 (copyC (contG cG1 aG1 (copyC x.2))) = contG cG3 aG3 (copyC x.2)) ∧ (¬ (cG1 x.1).2 = true → ¬ (cG3 x.1).2 = true)) → goP cG2 aG2 (goP cG1 aG1 l) = goP cG3 aG3 l
 | [], _ => rfl
 | x :: l, h => by
  have ih := goP_comp (l := l) (fun y hy => h y (List.mem_cons_of_mem _ hy))
  obtain ⟨h1, h2⟩ := h x List.mem_cons_self
  rw [goP_cons, goP_cons]
  by_cases ho : (cG1 x.1).2 = true
  · obtain ⟨e1, e2⟩ := h1 ho
    rw [if_pos ho, goP_cons]
    simp only
    rw [e1, e2, ih]
  · rw [if_neg ho, if_neg (h2 ho), ih]
theorem goP_id : ∀ {l : PG}, (∀ x ∈ l, okCt x.2) → goP cI aI l = l
 | [], _ => rfl
 | x :: l, h => by
  rw [goP_cons, if_pos rfl, goP_id (fun y hy => h y (List.mem_cons_of_mem _ hy)), contG_id (h x List.mem_cons_self)]
theorem lostP_goP {cG : Ad → Ad × Bool} {aG : ArT → ArT × Bool} : ∀ {l : PG}, (∀ x ∈ l, okCt x.2 ∧ (cG x.1).2 = true) → lostP l ≤ lostP (goP cG aG l) ∧ (lostP (goP cG aG l) = lostP l → ∀ x ∈ l, ∀ y ∈ flatT x.2.t, lostH cG aG y = false)
 | [], _ => ⟨Nat.le_refl _, fun _ x hx => by cases hx⟩
 | x :: l, h => by
  obtain ⟨i1, i2⟩ := lostP_goP (cG := cG) (aG := aG) (l := l) (fun y hy => h y (List.mem_cons_of_mem _ hy))
  obtain ⟨h1, h2⟩ := h x List.mem_cons_self
  have e := contG_faults (cG := cG) (aG := aG) h1
  rw [goP_cons, if_pos h2, lostP, lostP]
  simp only
  rw [h1.2.2, e]
  refine ⟨by omega, fun hs y hy => ?_⟩
  rcases List.mem_cons.1 hy with rfl | hy
  · exact lostC_zero (by omega)
  · exact i2 (by omega) y hy
end Go.Proofs.YtdoeejhdenifpaaGreatDoor
/- move, plain: MoveBack's law. -/
namespace Go.Proofs.YtdoeejhdenifpaaGreatDoor
open Go.RowKit Go.Sort
section
variable {cols : Bool} {k p q : Int}
theorem turnH5 {cG : Ad → Ad × Bool} {aG : ArT → ArT × Bool} {o : Int} {x : Nat} {s : ByteArray} {b : Bool} {f : Int} {r q : RefT} {l : List NodeT} : turnH cG aG (.mk 5 o x s b f r q l) = if (cG r.a).2 = true then .mk 5 o x s b f ⟨(cG r.a).1, r.cf, r.rf⟩ q l else lostT := by rw [turnH, if_pos rfl]
theorem turnH6 {cG : Ad → Ad × Bool} {aG : ArT → ArT × Bool} {o : Int} {x : Nat} {s : ByteArray} {b : Bool} {f : Int} {r q : RefT} {l : List NodeT} : turnH cG aG (.mk 6 o x s b f r q l) = if (aG (arOf r q)).2 = true then .mk 6 o x s b f ⟨((aG (arOf r q)).1.a, (aG (arOf r q)).1.b), r.cf, r.rf⟩ ⟨((aG (arOf r q)).1.c, (aG (arOf r q)).1.d), q.cf, q.rf⟩ l else lostT := by rw [turnH, if_neg (show ¬ (6 : Int) = 5 by decide), if_pos rfl]
theorem turnH_lost (cG : Ad → Ad × Bool) (aG : ArT → ArT × Bool) : turnH cG aG lostT = lostT := turnH_else (by decide) (by decide)
theorem head_comp {cG1 cG2 cG3 : Ad → Ad × Bool} {aG1 aG2 aG3 : ArT → ArT × Bool} {x : NodeT} (hk : x.kind = 5 ∨ x.kind = 6)
    (hc : x.kind = 5 → ((cG1 x.ref.a).2 = true → cG2 (cG1 x.ref.a).1 = cG3 x.ref.a) ∧ (¬ (cG1 x.ref.a).2 = true → ¬ (cG3 x.ref.a).2 = true))
    (ha : x.kind = 6 → ((aG1 (arOf x.ref x.to)).2 = true → aG2 (aG1 (arOf x.ref x.to)).1 = aG3 (arOf x.ref x.to)) ∧ (¬ (aG1 (arOf x.ref x.to)).2 = true → ¬ (aG3 (arOf x.ref x.to)).2 = true)) :
    turnH cG2 aG2 (turnH cG1 aG1 x) = turnH cG3 aG3 x := by
 obtain ⟨k, o, y, s, b, f, r, q, l⟩ := x
 rcases hk with e | e
 · have e : k = 5 := e
   subst e
   obtain ⟨h1, h2⟩ := hc rfl
   simp only [NodeT.ref] at h1 h2
   rw [turnH5, turnH5]
   by_cases ho : (cG1 r.a).2 = true
   · rw [if_pos ho, turnH5]
     simp only
     rw [h1 ho]
   · rw [if_neg ho, if_neg (h2 ho), turnH_lost]
 · have e : k = 6 := e
   subst e
   obtain ⟨h1, h2⟩ := ha rfl
   simp only [NodeT.ref, NodeT.to] at h1 h2
   rw [turnH6, turnH6]
   by_cases ho : (aG1 (arOf r q)).2 = true
   · rw [if_pos ho, turnH6]
     have ee : arOf ⟨((aG1 (arOf r q)).1.a, (aG1 (arOf r q)).1.b), r.cf, r.rf⟩ ⟨((aG1 (arOf r q)).1.c, (aG1 (arOf r q)).1.d), q.cf, q.rf⟩ = (aG1 (arOf r q)).1 := rfl
     rw [ee, h1 ho]
   · rw [if_neg ho, if_neg (h2 ho), turnH_lost]
end
theorem okCt_of {g : PG} (h : GOk g) : ∀ x ∈ g, okCt x.2 := fun x hx => ⟨(h.each x hx).2.1, (h.each x hx).2.2.1, (h.each x hx).2.2.2.1⟩
mutual
theorem flatN_len {cG : Ad → Ad × Bool} {aG : ArT → ArT × Bool} : ∀ (t : NodeT) (ins : Bool), faultT t ins = 0 → (flatT (turnT cG aG t)).length = (flatT t).length
 | .mk k o x s b f r q l, ins, h => by
  rcases fault_cases h with ⟨_, rfl, _⟩ | ⟨h5, h6, hL⟩
  · rw [turn_leaf (t := .mk k o x s b f r q []) rfl, flatT_eq, turnH_noargs rfl, flatT]; rfl
  · rw [turnT, turnH_else h5 h6, flatT, flatT, List.length_cons, List.length_cons, flatNL_len l _ hL]
theorem flatNL_len {cG : Ad → Ad × Bool} {aG : ArT → ArT × Bool} : ∀ (l : List NodeT) (c : Bool), faultL l c = 0 → (flatL (turnL cG aG l)).length = (flatL l).length
 | [], _, _ => rfl
 | t :: l, c, h => by
  obtain ⟨h1, h2⟩ := faultL_cons h
  rw [turnL, flatL, flatL, List.length_append, List.length_append, flatN_len t c h1, flatNL_len l c h2]
end
section
variable {cols : Bool} {k p q : Int} {g : PG}
end
end Go.Proofs.YtdoeejhdenifpaaGreatDoor
/- write, plain: what a head's change makes of a formula; a shifted formula, a shifted content. -/
namespace Go.Proofs.YtdoeejhdenifpaaGreatDoor
open Go.RowKit Go.Sort
structure Head (h : NodeT → NodeT) : Prop where
 form : ∀ t, h t = lostT ∨ ∃ r q, h t = .mk t.kind t.op t.x t.s t.b t.f r q t.args
 other : ∀ k o x s b f r q l, k ≠ 5 → k ≠ 6 → h (.mk k o x s b f r q l) = .mk k o x s b f r q l
 copy : ∀ k o x s b f r q l, h (.mk k o (oneX x) s b f r q (copyL l)) = copyT (h (.mk k o x s b f r q l))
 fault : ∀ k o x s b f r q ins, k = 5 ∨ k = 6 → faultT (.mk k o x s b f r q []) ins = 0 → faultT (h (.mk k o x s b f r q [])) ins = 0 ∧ measT (h (.mk k o x s b f r q [])) = measT (.mk k o x s b f r q [])
section
variable {h : NodeT → NodeT}
mutual
theorem upT_ok (H : Head h) : ∀ t : NodeT, t.ok → (upT h t).ok
 | .mk k o x s b f r q l, hk => by
  rw [upT]
  rcases H.form (.mk k o x s b f r q (upL h l)) with e | ⟨r', q', e⟩
  · rw [e]; exact lostT_ok
  · rw [e]; exact ⟨hk.1, hk.2.1, upL_ok H l hk.2.2⟩
theorem upL_ok (H : Head h) : ∀ l : List NodeT, okL l → okL (upL h l)
 | [], _ => trivial
 | t :: l, hk => ⟨upT_ok H t hk.1, upL_ok H l hk.2⟩
end
mutual
theorem upT_small (H : Head h) : ∀ t : NodeT, smallT t → smallT (upT h t)
 | .mk k o x s b f r q l, hk => by
  rw [upT]
  rcases H.form (.mk k o x s b f r q (upL h l)) with e | ⟨r', q', e⟩
  · rw [e]; exact lostT_small
  · rw [e]
    have h1 := smallT_args hk
    exact ⟨by rw [NodeT.args, upL_len]; exact h1.1, upL_small H l h1.2⟩
theorem upL_small (H : Head h) : ∀ l : List NodeT, smallL l → smallL (upL h l)
 | [], _ => trivial
 | t :: l, hk => ⟨upT_small H t hk.1, upL_small H l hk.2⟩
end
mutual
theorem up_copy (H : Head h) : ∀ t : NodeT, upT h (copyT t) = copyT (upT h t)
 | .mk k o x s b f r q l => by
  rw [copyT, upT, upT, upL_copy H l, H.copy]
theorem upL_copy (H : Head h) : ∀ l : List NodeT, upL h (copyL l) = copyL (upL h l)
 | [] => rfl
 | t :: l => by rw [copyL, upL, upL, copyL, up_copy H t, upL_copy H l]
end
mutual
theorem upT_fault (H : Head h) : ∀ (t : NodeT) (ins : Bool), faultT t ins = 0 → faultT (upT h t) ins = 0 ∧ measT (upT h t) = measT t
 | .mk k o x s b f r q l, ins, hf => by
  rcases fault_cases hf with ⟨hk, rfl, _⟩ | ⟨h5, h6, hL⟩
  · rw [upT, upL]
    exact H.fault k o x s b f r q ins hk hf
  · rw [upT, H.other _ _ _ _ _ _ _ _ _ h5 h6]
    obtain ⟨q1, q2⟩ := upL_fault H l (k == 9) hL
    have hlen : (upL h l).length = l.length := upL_len h l
    rw [faultT] at hf
    by_cases hm : madeB (.mk k o x s b f r q l) = true
    · rw [if_pos hm] at hf
      have hm' := made_args (l' := upL h l) hlen hm
      rw [if_neg (by simpa using h5), if_neg (by simpa using h6)] at hf
      constructor
      · rw [faultT, if_pos hm', if_neg (by simpa using h5), if_neg (by simpa using h6), hlen, q1]
        rw [hL] at hf
        exact hf
      · rw [measT, measT, q2]
    · rw [if_neg hm] at hf; omega
theorem upL_fault (H : Head h) : ∀ (l : List NodeT) (c : Bool), faultL l c = 0 → faultL (upL h l) c = 0 ∧ ∀ n d, measL (upL h l) n d = measL l n d
 | [], _, _ => ⟨by rw [upL, faultL], fun n d => by rw [upL]⟩
 | t :: l, c, hf => by
  rw [faultL] at hf
  split at hf
  · rename_i e
    obtain ⟨q1, q2⟩ := upT_fault H t c e
    obtain ⟨q3, q4⟩ := upL_fault H l c hf
    constructor
    · rw [upL, faultL, if_pos q1]; exact q3
    · intro n d
      rw [upL, measL, measL, q2]; exact q4 _ _
  · rename_i e; exact absurd hf e
end
mutual
theorem up_same (H : Head h) (hs : ∀ x, okN x → x.kind = 5 ∨ x.kind = 6 → h x = x) : ∀ (t : NodeT) (ins : Bool), faultT t ins = 0 → upT h t = t
 | .mk k o x s b f r q l, ins, hf => by
  rcases fault_cases hf with ⟨hk, rfl, hn⟩ | ⟨h5, h6, hL⟩
  · rw [upT, upL]; exact hs _ hn hk
  · rw [upT, H.other _ _ _ _ _ _ _ _ _ h5 h6, upL_same H hs l _ hL]
theorem upL_same (H : Head h) (hs : ∀ x, okN x → x.kind = 5 ∨ x.kind = 6 → h x = x) : ∀ (l : List NodeT) (c : Bool), faultL l c = 0 → upL h l = l
 | [], _, _ => rfl
 | t :: l, c, hf => by
  obtain ⟨h1, h2⟩ := faultL_cons hf
  rw [upL, up_same H hs t c h1, upL_same H hs l c h2]
end
theorem up_check (H : Head h) {t : NodeT} (hc : checkT t = 0) : checkT (upT h t) = 0 := by
 obtain ⟨q1, q2⟩ := upT_fault H t false (checkT_zero hc)
 unfold checkT at *
 rw [q2, q1]
 split at hc
 · omega
 · rename_i e1
   rw [if_neg e1]
   split at hc
   · omega
   · rename_i e2
     rw [if_neg e2]
def contH (h : NodeT → NodeT) (c : ContT) : ContT := if c.kind = 2 then ⟨c.kind, c.v, upT h (copyT c.t)⟩ else c
theorem contH_ok (H : Head h) {c : ContT} (hc : c.ok) : (contH h c).ok := by
 unfold contH
 split
 · exact ⟨hc.1, upT_ok H _ (okT_copy _ hc.2.1), hc.2.2⟩
 · exact hc
theorem contH_small (H : Head h) {c : ContT} (hc : smallT c.t) : smallT (contH h c).t := by
 unfold contH
 split
 · exact upT_small H _ (smallT_copy _ hc)
 · exact hc
theorem contH_valid (H : Head h) {c : ContT} (hc : gvalidB c = true) : gvalidB (contH h (copyC c)) = true := by
 have h2 : gvalidB (copyC c) = true := (gvalidB_copy c).trans hc
 unfold contH
 split
 · rename_i hk
   unfold gvalidB at h2 ⊢
   simp only [hk, Int.reduceBEq, Bool.false_eq_true, if_false, if_true, Bool.and_eq_true] at h2 ⊢
   refine ⟨h2.1, ?_⟩
   have h3 : checkT (copyC c).t = 0 := by simpa using h2.2
   have h4 : checkT (copyT (copyC c).t) = 0 := by
    have : copyT (copyC c).t = (copyC c).t := copyT_idem c.t
    rw [this]; exact h3
   simpa using up_check H h4
 · exact h2
theorem contH_kind (h : NodeT → NodeT) (c : ContT) : (contH h c).kind = c.kind := by unfold contH; split <;> rfl
theorem contH_copy (H : Head h) (c : ContT) : copyC (contH h (copyC c)) = contH h (copyC c) := by
 unfold contH
 split
 · show ContT.mk _ _ _ = ContT.mk _ _ _
   have e1 : copyT (upT h (copyT (copyC c).t)) = upT h (copyT (copyC c).t) := by
    rw [← up_copy H, copyT_idem]
   have e2 : ({ (copyC c).v with x := oneX (copyC c).v.x } : ValT) = (copyC c).v := by
    have := copyC_idem c
    exact congrArg ContT.v this
   simp only [e1, e2]
 · exact copyC_idem c
theorem contH_1 {c : ContT} (hk : c.kind ≠ 2) : contH h c = c := by unfold contH; rw [if_neg hk]
end
theorem shR_of {cc rr : Int} {x : RefT} (h : shB cc rr x = true) : shR cc rr x = ⟨shA cc rr x, x.cf, x.rf⟩ := by unfold shR; rw [if_pos h]
theorem shB_le {cc rr : Int} {x : RefT} (h : shB cc rr x = true) : validB (shR cc rr x).a.1 (shR cc rr x).a.2 = true := by
 rw [shR_of h]
 unfold shB at h
 simp only [Bool.and_eq_true] at h
 exact h.2
theorem lohi_ok {p q : RefT} (hp : validB p.a.1 p.a.2 = true) (hq : validB q.a.1 q.a.2 = true) : (validB (loR p q).a.1 (loR p q).a.2 && validB (hiR p q).a.1 (hiR p q).a.2 && decide ((loR p q).a.1 ≤ (hiR p q).a.1) && decide ((loR p q).a.2 ≤ (hiR p q).a.2)) = true := by
 have h1 := validB_le hp
 have h2 := validB_le hq
 have v1 : validB (loR p q).a.1 (loR p q).a.2 = true := validB_of (by unfold loR; simp only; split <;> split <;> omega)
 have v2 : validB (hiR p q).a.1 (hiR p q).a.2 = true := validB_of (by unfold hiR; simp only; split <;> split <;> omega)
 rw [v1, v2]
 simp only [Bool.true_and, Bool.and_eq_true, decide_eq_true_eq]
 unfold loR hiR
 simp only
 constructor <;> split <;> omega
theorem shH_head (cc rr : Int) : Head (shH cc rr) := by
 constructor
 · intro t
   obtain ⟨k, o, x, s, b, f, r, q, l⟩ := t
   rw [shH]
   by_cases h5 : k = 5
   · rw [if_pos h5]
     by_cases h : shB cc rr r = true
     · rw [if_pos h]; exact Or.inr ⟨_, _, rfl⟩
     · rw [if_neg h]; exact Or.inl rfl
   · rw [if_neg h5]
     by_cases h6 : k = 6
     · rw [if_pos h6]
       by_cases h : shB cc rr r = true
       · rw [if_pos h]
         by_cases g : shB cc rr q = true
         · rw [if_pos g]; exact Or.inr ⟨_, _, rfl⟩
         · rw [if_neg g]; exact Or.inl rfl
       · rw [if_neg h]; exact Or.inl rfl
     · rw [if_neg h6]; exact Or.inr ⟨_, _, rfl⟩
 · intro k o x s b f r q l h5 h6
   rw [shH, if_neg h5, if_neg h6]
 · intro k o x s b f r q l
   rw [shH, shH]
   by_cases h5 : k = 5
   · rw [if_pos h5, if_pos h5]
     by_cases h : shB cc rr r = true
     · rw [if_pos h, if_pos h]; rfl
     · rw [if_neg h, if_neg h, copyT_lost]
   · rw [if_neg h5, if_neg h5]
     by_cases h6 : k = 6
     · rw [if_pos h6, if_pos h6]
       by_cases h : shB cc rr r = true
       · rw [if_pos h, if_pos h]
         by_cases g : shB cc rr q = true
         · rw [if_pos g, if_pos g]; rfl
         · rw [if_neg g, if_neg g, copyT_lost]
       · rw [if_neg h, if_neg h, copyT_lost]
     · rw [if_neg h6, if_neg h6]; rfl
 · intro k o x s b f r q ins hk hf
   rw [faultT] at hf
   by_cases hm : madeB (.mk k o x s b f r q []) = true
   · rw [if_pos hm] at hf
     rw [shH]
     by_cases h5 : k = 5
     · subst h5
       obtain ⟨_, hm'⟩ := made_ref (r' := shR cc rr r) hm
       rw [if_pos rfl]
       by_cases h : shB cc rr r = true
       · rw [if_pos h]
         refine ⟨?_, rfl⟩
         rw [faultT, if_pos hm', if_pos (by rfl), if_pos (shB_le h), faultL]
       · rw [if_neg h]
         exact ⟨fault_lost ins, rfl⟩
     · have h6 : k = 6 := by rcases hk with e | e; exact absurd e h5; exact e
       subst h6
       rw [if_neg (by decide), if_pos (by rfl)] at hf
       obtain ⟨_, hm'⟩ := made_area (r' := loR (shR cc rr r) (shR cc rr q)) (q' := hiR (shR cc rr r) (shR cc rr q)) hm
       rw [if_neg (by decide), if_pos rfl]
       by_cases h : shB cc rr r = true
       · rw [if_pos h]
         by_cases g : shB cc rr q = true
         · rw [if_pos g]
           refine ⟨?_, rfl⟩
           rw [faultT, if_pos hm', if_neg (by decide), if_pos (by rfl), if_pos (lohi_ok (shB_le h) (shB_le g))]
           cases ins
           · split at hf
             · exact hf
             · omega
           · rfl
         · rw [if_neg g]; exact ⟨fault_lost ins, rfl⟩
       · rw [if_neg h]
         exact ⟨fault_lost ins, rfl⟩
   · rw [if_neg hm] at hf; omega
def shC (cc rr : Int) (c : ContT) : ContT := contH (shH cc rr) c
end Go.Proofs.YtdoeejhdenifpaaGreatDoor
/- write.Shift of a valid formula (made by mkt3.py). -/
namespace Go.Proofs.YtdoeejhdenifpaaGreatDoor
open Go.RowKit Go.Sort
theorem all15s (u : NodeT) (a : Option Addr) (n c : Nat) : (nodeC u (.slice a n c)).toArray.all (·.oneCell') = true := all_oneCell_toArray (nodeC_one u _ rfl)
set_option maxRecDepth 100000 in
set_option maxHeartbeats 1000000 in
theorem wShift_any (cc rr : Int) (n : Nat) (t : NodeT) (a : Option Addr) (cap : Nat) (w : World) (hok : t.ok) (hT : Tabs w) (hsm : smallT t) (hin : ArgsIn w n (.slice a t.args.length cap) t.args) (hc : checkT t = 0) :
    Calls Tryz.prog 112 #[nodeV t a t.args.length cap, .int .i64 cc, .int .i64 rr] w fun e w' => ∃ a2 c2, e = .returned (.tuple #[nodeV (upT (shH cc rr) (copyT t)) a2 (upT (shH cc rr) (copyT t)).args.length c2, .int .i64 0]) ∧ SepIn (fun b => w.heap.size ≤ b ∧ b < w'.heap.size) w' n (.slice a2 (upT (shH cc rr) (copyT t)).args.length c2) (upT (shH cc rr) (copyT t)).args ∧ Xt w w' := by
 obtain ⟨k, o, x, s, bb, f, ⟨⟨r1, r2⟩, rc, rf⟩, ⟨⟨q1, q2⟩, qc, qf⟩, l⟩ := t
 simp only [NodeT.args] at hin
 obtain ⟨B, hB⟩ : ∃ B, w.heap.size = B := ⟨_, rfl⟩
 have HBw := Lib.hid hB
 obtain ⟨w0, hw0⟩ : ∃ w0, w.alloc (.cells #[.int .i64 k, .int .i64 o, .float .f64 x, .string s, .bool bb, .int .i64 f, .int .i64 r1, .int .i64 r2, .bool rc, .bool rf, .int .i64 q1, .int .i64 q2, .bool qc, .bool qf, .slice a l.length cap] 49) = w0 := ⟨_, rfl⟩
 have hs0 : w0.heap.size = B + 1 := by rw [← hw0, ← hB]; simp
 obtain ⟨w1, hw1⟩ : ∃ w1, w0.alloc (.cells #[.int .i64 0, .int .i64 0, .float .f64 0, .string ⟨#[]⟩, .bool false, .int .i64 0, .int .i64 0, .int .i64 0, .bool false, .bool false, .int .i64 0, .int .i64 0, .bool false, .bool false, .slice none 0 0] 49) = w1 := ⟨_, rfl⟩
 have hs1 : w1.heap.size = B + 1 + 1 := by rw [← hw1]; simp [hs0]
 have hx1 : Xt w w1 := by rw [← hw1, ← hw0]; exact ((Xt.refl _).alloc _).alloc _
 have hr0 : w1.heap[B]? = some (.cells #[.int .i64 k, .int .i64 o, .float .f64 x, .string s, .bool bb, .int .i64 f, .int .i64 r1, .int .i64 r2, .bool rc, .bool rf, .int .i64 q1, .int .i64 q2, .bool qc, .bool qf, .slice a l.length cap] 49 (0, 0)) := rowX (w := w0) (by rw [← hw1]; exact (Xt.refl _).alloc _) (by rw [← hw0, ← hB]; exact (MapKept.heap_alloc w _).1)
 have hr1 : w1.heap[B + 1]? = some (.cells #[.int .i64 0, .int .i64 0, .float .f64 0, .string ⟨#[]⟩, .bool false, .int .i64 0, .int .i64 0, .int .i64 0, .bool false, .bool false, .int .i64 0, .int .i64 0, .bool false, .bool false, .slice none 0 0] 49 (0, 0)) := by rw [← hw1, ← hs0]; exact (MapKept.heap_alloc w0 _).1
 have HX1 := Lib.hid hx1
 have HR0 := Lib.hid hr0
 have HR1 := Lib.hid hr1
 have HSM := Lib.hid hsm
 have HIN := Lib.hid hin
 have HCH := Lib.hid (Check_any n (.mk k o x s bb f ⟨(r1, r2), rc, rf⟩ ⟨(q1, q2), qc, qf⟩ l) a cap w1 hok (hT.xt hx1) (hin.xt hx1))
 rw [hc] at HCH
 have HC0 := Lib.hid (fcopyS_any n (.mk k o x s bb f ⟨(r1, r2), rc, rf⟩ ⟨(q1, q2), qc, qf⟩ l) a cap)
 obtain ⟨r, hr⟩ : ∃ r, upT (shH cc rr) (copyT (.mk k o x s bb f ⟨(r1, r2), rc, rf⟩ ⟨(q1, q2), qc, qf⟩ l)) = r := ⟨_, rfl⟩
 rw [hr]
 have HRS := Lib.hid hr
 have hm1 : True := trivial
 clear hok hT hsm hin hx1 hr0 hr1 hc hr
 change Calls Tryz.prog 112 #[.agg #[.int .i64 k, .int .i64 o, .float .f64 x, .string s, .bool bb, .int .i64 f, .int .i64 r1, .int .i64 r2, .bool rc, .bool rf, .int .i64 q1, .int .i64 q2, .bool qc, .bool qf, .slice a l.length cap], .int .i64 cc, .int .i64 rr] w _
 go_enter Tryz.func112, Tryz.ntmps112
 go_wp2_with (first
  | (have hm0 := hm1; refine wpList_load_row (P := Tryz.prog) rfl 49 _ rfl B rfl 49 _ (0, 0) _ HR0.out Tryz.underlying49 rfl (by kernel_rfl) ?_; clear hm1 hm0)
  | (go_at_call 102; refine (HCH.out).mono ?_; rintro e w2 ⟨rfl, hx2⟩; have HX2 := Lib.hid hx2; clear hx2)
  | (refine wpList_load_row (P := Tryz.prog) rfl 49 _ rfl B rfl 49 _ (0, 0) _ (rowX HX2.out HR0.out) Tryz.underlying49 rfl (by kernel_rfl) ?_)
  | (go_at_call 76; refine (HC0.out w2 HSM.out (HIN.out.xt (HX1.out.trans HX2.out))).mono ?_; rintro e w3 ⟨a', rfl, hS3, hx3⟩; have HX3 : Hid (Xt w1 w3) := HX2.out.trans hx3; have hsz2 := HX2.out.size; have hsz3 := hx3.size; have HSH := Lib.hid (wshifted_any cc rr n (fun b => w2.heap.size ≤ b ∧ b < w3.heap.size) (copyT (.mk k o x s bb f ⟨(r1, r2), rc, rf⟩ ⟨(q1, q2), qc, qf⟩ l)) a' l.length w3 (fun b hb => hb.2) (by rw [copyT_len, copyT_args]; exact hS3)); rw [copyT_len, HRS.out] at HSH; clear hx3 hS3)
  | (go_at_call 145; refine (HSH.out).mono ?_; rintro e w4 ⟨a2, c2, rfl, hS4, hW4⟩; have HX4 : Hid (Xt w1 w4) := hW4.xt HX3.out (fun b hb => by have := hb.1; omega); have HS4 := Lib.hid hS4; have hsz4 := hW4.size; clear hW4 hS4)
  | (refine wpList_store_row (P := Tryz.prog) rfl 49 _ _ rfl (B + 1) (nodeC r (.slice a2 r.args.length c2)).toArray rfl rfl 49 _ (rowX HX4.out HR1.out) (by kernel_rfl) (by kernel_rfl) (all15s r a2 r.args.length c2) ?_))
 (try simp only [Exit.inBlock, Exit.then])
 refine bodyPost_ret (v := .tuple #[.agg (nodeC r (.slice a2 r.args.length c2)).toArray, .int .i64 0]) ?_ rfl ?_
 · rw [results_cell_tmp rfl]
   show ((asAddr (.pointer (some ⟨B + 1, 0, none⟩))).run _ _).andThen _ = _
   simp only [asAddr, Sem.run_pure, Result.andThen_ok, run_loadVar_row _ _ _ 49 (nodeC r (.slice a2 r.args.length c2)).toArray _ _ (setRow_heap _ _ _ _ _ _ (rowX HX4.out HR1.out)) Tryz.underlying49 rfl (by kernel_rfl)]
   rfl
 · refine ⟨a2, c2, rfl, ?_, ?_⟩
   · have hBw := HBw.out
     have hA2 := HX1.out.size
     refine (HS4.out.keep (fun b hb hlt => setRow_other _ _ _ _ (by have := hb.1; omega))).weak (fun b hb hlt => ⟨by have := hb.1; omega, hlt⟩)
   · exact (HX1.out.trans HX4.out).grownB (setRow_grown _ _ _) (fun q hq => by cases hq; have := HBw.out; omega)
end Go.Proofs.YtdoeejhdenifpaaGreatDoor
/- addr.In. -/
namespace Go.Proofs.YtdoeejhdenifpaaGreatDoor
open Go.RowKit Go.Sort
set_option maxHeartbeats 400000 in
theorem in_any (a b c d x y : Int) (w : World) :
    Calls Tryz.prog 16 #[.agg #[.int .i64 a, .int .i64 b, .int .i64 c, .int .i64 d], .agg #[.int .i64 x, .int .i64 y]] w fun e w' => e = .returned (.bool (inB a b c d x y)) ∧ Gr w w' := by
 unfold inB
 cases h1 : validA a b c d
 all_goals
  go_enter Tryz.func16, Tryz.ntmps16
  go_wp2_with (go_at_call 40; refine (validArea_any _ _ _ _ _).mono ?_; rintro e w' ⟨rfl, hg⟩; obtain ⟨hgc, hgf⟩ := hg.xt.cells; have hgz := hg.xt.sz)
  all_goals (go_ret; refine ⟨by congr 2; try (simp [*]; try omega), Gr.trans (((Gr.refl _).alloc _).alloc _) (by assumption)⟩)
end Go.Proofs.YtdoeejhdenifpaaGreatDoor
/- move.Move's small functions: moved, within, by. -/
namespace Go.Proofs.YtdoeejhdenifpaaGreatDoor
open Go.RowKit Go.Sort
def movG (cc rr : Int) (a : Ad) : Ad := (wrap64 (a.1 + cc), wrap64 (a.2 + rr))
set_option maxRecDepth 100000 in
set_option maxHeartbeats 2000000 in
theorem moved1_any (a : Ad) (pc pr : Nat) (cc rr : Int) (w : World) (h1 : w.cell? ⟨pc, 0, none⟩ = some (.int .i64 cc)) (h2 : w.cell? ⟨pr, 0, none⟩ = some (.int .i64 rr)) :
    Calls Tryz.prog 43 #[.agg #[.int .i64 a.1, .int .i64 a.2], .pointer (some ⟨pc, 0, none⟩), .pointer (some ⟨pr, 0, none⟩)] w fun e w' => e = .returned (.agg #[.int .i64 (movG cc rr a).1, .int .i64 (movG cc rr a).2]) ∧ Xt w w' := by
 obtain ⟨B, hB⟩ : ∃ B, w.heap.size = B := ⟨_, rfl⟩
 obtain ⟨w0, hw0⟩ : ∃ w0, w.alloc (.cells #[.int .i64 a.1, .int .i64 a.2] 24) = w0 := ⟨_, rfl⟩
 have hs0 : w0.heap.size = B + 1 := by rw [← hw0, ← hB]; simp
 have hx0 : Xt w w0 := by rw [← hw0]; exact (Xt.refl w).alloc _
 have c1 := hx0.cellsIn _ _ _ h1
 have c2 := hx0.cellsIn _ _ _ h2
 have l1 := World.block_lt_of_cell? w0 _ c1
 have l2 := World.block_lt_of_cell? w0 _ c2
 obtain ⟨b0, b1, _, _⟩ := cells2 (w := w0) (b := B) (by rw [← hw0, ← hB]; exact (MapKept.heap_alloc w _).1)
 have e1 : (w0.alloc (.cells #[.int .i64 0, .int .i64 0] 24)).cell? ⟨pc, 0, none⟩ = some (.int .i64 cc) := ((Xt.refl w0).alloc _).cellsIn _ _ _ c1
 have e2 : (w0.alloc (.cells #[.int .i64 0, .int .i64 0] 24)).cell? ⟨pr, 0, none⟩ = some (.int .i64 rr) := ((Xt.refl w0).alloc _).cellsIn _ _ _ c2
 have d0 : (w0.alloc (.cells #[.int .i64 0, .int .i64 0] 24)).cell? ⟨B, 0, none⟩ = some (.int .i64 a.1) := ((Xt.refl w0).alloc _).cellsIn _ _ _ b0
 have d1 : (w0.alloc (.cells #[.int .i64 0, .int .i64 0] 24)).cell? ⟨B, 1, none⟩ = some (.int .i64 a.2) := ((Xt.refl w0).alloc _).cellsIn _ _ _ b1
 have HX := Lib.hid hx0
 have HB := Lib.hid hs0
 unfold movG
 clear h1 h2 hx0 c1 c2 l1 l2 b0 b1
 go_enter Tryz.func43, Tryz.ntmps43
 go_wp2
 (try simp only [Exit.inBlock, Exit.then])
 refine bodyPost_ret (results_cell_row rfl _ _ (B + 1) _ _ _ _ rfl (by rw [← HB.out]; exact (MapKept.heap_alloc w0 _).1) Tryz.underlying24 rfl (by kernel_rfl)) rfl ?_
 exact ⟨rfl, HX.out.alloc _⟩
set_option maxRecDepth 100000 in
set_option maxHeartbeats 2000000 in
theorem by_any (a b : Ad) (w : World) :
    Calls Tryz.prog 42 #[.agg #[.int .i64 a.1, .int .i64 a.2], .agg #[.int .i64 b.1, .int .i64 b.2]] w fun e w' => e = .returned (.tuple #[.int .i64 (wrap64 (b.1 - a.1)), .int .i64 (wrap64 (b.2 - a.2))]) ∧ Gr w w' := by
 go_enter Tryz.func42, Tryz.ntmps42
 go_wp2
 go_region
 go_wp2
 go_ret2
 exact ⟨rfl, by repeat (first | exact Gr.refl _ | refine Gr.alloc ?_ _ | refine Gr.drew ?_)⟩
def inA (x : ArT) (a : Ad) : Bool := inB x.a x.b x.c x.d a.1 a.2
def withinA (x y : ArT) : Bool := inA y (x.a, x.b) && inA y (x.c, x.d)
set_option maxRecDepth 100000 in
set_option maxHeartbeats 2000000 in
theorem within_any (x y : ArT) (w : World) :
    Calls Tryz.prog 46 #[arT x, arT y] w fun e w' => e = .returned (.bool (withinA x y)) ∧ Xt w w' := by
 obtain ⟨B, hB⟩ : ∃ B, w.heap.size = B := ⟨_, rfl⟩
 obtain ⟨w0, hw0⟩ : ∃ w0, w.alloc (.cells #[.int .i64 x.a, .int .i64 x.b, .int .i64 x.c, .int .i64 x.d] 26) = w0 := ⟨_, rfl⟩
 have hs0 : w0.heap.size = B + 1 := by rw [← hw0, ← hB]; simp
 obtain ⟨w1, hw1⟩ : ∃ w1, w0.alloc (.cells #[.int .i64 y.a, .int .i64 y.b, .int .i64 y.c, .int .i64 y.d] 26) = w1 := ⟨_, rfl⟩
 have hx1 : Xt w w1 := by rw [← hw1, ← hw0]; exact ((Xt.refl w).alloc _).alloc _
 have HR0 : Hid (w1.heap[B]? = some (.cells #[.int .i64 x.a, .int .i64 x.b, .int .i64 x.c, .int .i64 x.d] 26 (0, 0))) := rowX (w := w0) (by rw [← hw1]; exact (Xt.refl _).alloc _) (by rw [← hw0, ← hB]; exact (MapKept.heap_alloc w _).1)
 have HR1 : Hid (w1.heap[B + 1]? = some (.cells #[.int .i64 y.a, .int .i64 y.b, .int .i64 y.c, .int .i64 y.d] 26 (0, 0))) := by unfold Hid; rw [← hw1, ← hs0]; exact (MapKept.heap_alloc w0 _).1
 have HX1 := Lib.hid hx1
 obtain ⟨⟨x0, x1, x2, x3⟩, _⟩ := cells4 HR0.out
 obtain ⟨⟨y0, y1, y2, y3⟩, _⟩ := cells4 HR1.out
 have HC1 := Lib.hid (in_any y.a y.b y.c y.d x.a x.b w1)
 obtain ⟨v1, hv1⟩ : ∃ v, inA y (x.a, x.b) = v := ⟨_, rfl⟩
 obtain ⟨v2, hv2⟩ : ∃ v, inA y (x.c, x.d) = v := ⟨_, rfl⟩
 rw [show inB y.a y.b y.c y.d x.a x.b = v1 from hv1] at HC1
 have HC2 := Lib.hid (fun V => in_any y.a y.b y.c y.d x.c x.d V)
 rw [show inB y.a y.b y.c y.d x.c x.d = v2 from hv2] at HC2
 unfold withinA
 rw [hv1, hv2]
 have hm1 : True := trivial
 clear hx1 hv1 hv2
 cases v1
 · go_enter Tryz.func46, Tryz.ntmps46
   go_wp2_with (first
    | (go_at_call 16; refine (HC1.out).mono ?_; rintro e w2 ⟨rfl, hg2⟩; have HX2 : Hid (Xt w w2) := HX1.out.trans hg2.xt; clear hg2))
   go_ret
   exact ⟨rfl, HX2.out⟩
 · go_enter Tryz.func46, Tryz.ntmps46
   go_wp2_with (first
    | (go_at_call 16; have hm0 := hm1; clear hm1 hm0; refine (HC1.out).mono ?_; rintro e w2 ⟨rfl, hg2⟩; have HX2 : Hid (Xt w w2) := HX1.out.trans hg2.xt; obtain ⟨⟨x0', x1', x2', x3'⟩, _⟩ := cells4 (rowX hg2.xt HR0.out); obtain ⟨⟨y0', y1', y2', y3'⟩, _⟩ := cells4 (rowX hg2.xt HR1.out); clear hg2)
    | (go_at_call 16; refine (HC2.out _).mono ?_; rintro e w3 ⟨rfl, hg3⟩; have HX3 : Hid (Xt w w3) := HX2.out.trans hg3.xt; clear hg3))
   go_ret
   exact ⟨rfl, HX3.out⟩
end Go.Proofs.YtdoeejhdenifpaaGreatDoor
/- move.Move's closures: what becomes of a cell. -/
namespace Go.Proofs.YtdoeejhdenifpaaGreatDoor
open Go.RowKit Go.Sort Go.MapKept
attribute [local go_sem] Oper.semAt_some
structure MvAt (w : World) (pf pm pg pc pr : Nat) (f g : ArT) (cc rr : Int) : Prop where
 rf : w.heap[pf]? = some (.cells #[.int .i64 f.a, .int .i64 f.b, .int .i64 f.c, .int .i64 f.d] 26 (0, 0))
 rm : w.cell? ⟨pm, 0, none⟩ = some (.func (.func 43) #[] #[.pointer (some ⟨pc, 0, none⟩), .pointer (some ⟨pr, 0, none⟩)])
 rg : w.heap[pg]? = some (.cells #[.int .i64 g.a, .int .i64 g.b, .int .i64 g.c, .int .i64 g.d] 26 (0, 0))
 rc : w.cell? ⟨pc, 0, none⟩ = some (.int .i64 cc)
 rr : w.cell? ⟨pr, 0, none⟩ = some (.int .i64 rr)
theorem MvAt.xt {w w' : World} {pf pm pg pc pr : Nat} {f g : ArT} {cc rr : Int} (h : MvAt w pf pm pg pc pr f g cc rr) (hx : Xt w w') : MvAt w' pf pm pg pc pr f g cc rr :=
 ⟨rowX hx h.rf, hx.cellsIn _ _ _ h.rm, rowX hx h.rg, hx.cellsIn _ _ _ h.rc, hx.cellsIn _ _ _ h.rr⟩
theorem MvAt.kept {w w' : World} {pf pm pg pc pr m : Nat} {f g : ArT} {cc rr : Int} (h : MvAt w pf pm pg pc pr f g cc rr) (hk : ∀ b, b < m → w'.heap[b]? = w.heap[b]?) (hm : pf < m ∧ pm < m ∧ pg < m ∧ pc < m ∧ pr < m) : MvAt w' pf pm pg pc pr f g cc rr :=
 ⟨(hk _ hm.1).trans h.rf, (World.cell?_of_block (w := w) (a := ⟨pm, 0, none⟩) (hk _ hm.2.1)).trans h.rm, (hk _ hm.2.2.1).trans h.rg, (World.cell?_of_block (w := w) (a := ⟨pc, 0, none⟩) (hk _ hm.2.2.2.1)).trans h.rc, (World.cell?_of_block (w := w) (a := ⟨pr, 0, none⟩) (hk _ hm.2.2.2.2)).trans h.rr⟩
def mvC (f g : ArT) (cc rr : Int) (a : Ad) : Ad × Bool := if inA f a = true then (movG cc rr a, true) else (a, !inA g a)
def mvA (f g : ArT) (cc rr : Int) (x : ArT) : ArT × Bool := if withinA x f = true then (⟨(movG cc rr (x.a, x.b)).1, (movG cc rr (x.a, x.b)).2, (movG cc rr (x.c, x.d)).1, (movG cc rr (x.c, x.d)).2⟩, true) else (x, !withinA x g)
set_option maxRecDepth 100000 in
set_option maxHeartbeats 4000000 in
theorem mvCell_any (a : Ad) (pf pm pg pc pr : Nat) (f g : ArT) (cc rr : Int) (w : World) (h : MvAt w pf pm pg pc pr f g cc rr) :
    Calls Tryz.prog 44 #[.agg #[.int .i64 a.1, .int .i64 a.2], .pointer (some ⟨pf, 0, none⟩), .pointer (some ⟨pm, 0, none⟩), .pointer (some ⟨pg, 0, none⟩)] w fun e w' => e = .returned (.tuple #[.agg #[.int .i64 (mvC f g cc rr a).1.1, .int .i64 (mvC f g cc rr a).1.2], .bool (mvC f g cc rr a).2]) ∧ Xt w w' := by
 obtain ⟨B, hB⟩ : ∃ B, w.heap.size = B := ⟨_, rfl⟩
 obtain ⟨w0, hw0⟩ : ∃ w0, w.alloc (.cells #[.int .i64 a.1, .int .i64 a.2] 24) = w0 := ⟨_, rfl⟩
 have hs0 : w0.heap.size = B + 1 := by rw [← hw0, ← hB]; simp
 obtain ⟨w1, hw1⟩ : ∃ w1, w0.alloc (.cells #[.int .i64 0, .int .i64 0] 24) = w1 := ⟨_, rfl⟩
 have hx1 : Xt w w1 := by rw [← hw1, ← hw0]; exact ((Xt.refl w).alloc _).alloc _
 have HB : Hid (w1.heap[B]? = some (.cells #[.int .i64 a.1, .int .i64 a.2] 24 (0, 0))) := by
  unfold Hid; rw [← hw1]; exact (Below.heap_alloc w0 _ _ (by omega)).trans (by rw [← hw0, ← hB]; exact (MapKept.heap_alloc w _).1)
 have HR : Hid (w1.heap[B + 1]? = some (.cells #[.int .i64 0, .int .i64 0] 24 (0, 0))) := by
  unfold Hid; rw [← hw1, ← hs0]; exact (MapKept.heap_alloc w0 _).1
 have HPG : Hid (pg ≠ B + 1) := Lib.hid fun e => by
  have := (Array.getElem?_eq_some_iff.1 h.rg).1
  omega
 have HM := Lib.hid (h.xt hx1)
 have HX1 := Lib.hid hx1
 have hBB := Lib.hid hB
 have HCF := Lib.hid (in_any f.a f.b f.c f.d a.1 a.2 w1)
 obtain ⟨vf, hvf⟩ : ∃ v, inA f a = v := ⟨_, rfl⟩
 rw [show inB f.a f.b f.c f.d a.1 a.2 = vf from hvf] at HCF
 obtain ⟨⟨x0, x1, x2, x3⟩, _⟩ := cells4 HM.out.rf
 obtain ⟨b0, b1, _, _⟩ := cells2 HB.out
 unfold mvC
 rw [hvf]
 clear hx1 h hvf
 have hm1 : True := trivial
 cases vf
 · simp only [Bool.false_eq_true, if_false]
   obtain ⟨vg, hvg⟩ : ∃ v, inA g a = v := ⟨_, rfl⟩
   rw [hvg]
   have HVG := Lib.hid hvg
   clear hvg
   go_enter Tryz.func44, Tryz.ntmps44
   go_wp2_with (first
    | (go_at_call 16; have hm0 := hm1; clear hm1 hm0; refine (HCF.out).mono ?_; rintro e w2 ⟨rfl, hg2⟩; have HX2 : Hid (Xt w1 w2) := hg2.xt; clear hg2))
   have HX2d : Hid (Xt w1 w2.drew) := HX2.out.drew
   have HMS : Hid (∀ V, Xt w1 V → V.cell? ⟨B, 0, none⟩ = some (.int .i64 a.1) ∧ V.cell? ⟨B, 1, none⟩ = some (.int .i64 a.2) ∧ V.cell? ⟨pg, 0, none⟩ = some (.int .i64 g.a) ∧ V.cell? ⟨pg, 1, none⟩ = some (.int .i64 g.b) ∧ V.cell? ⟨pg, 2, none⟩ = some (.int .i64 g.c) ∧ V.cell? ⟨pg, 3, none⟩ = some (.int .i64 g.d)) := Lib.hid fun V hV => by
    obtain ⟨b0, b1, _, _⟩ := cells2 (rowX hV HB.out)
    obtain ⟨⟨x0, x1, x2, x3⟩, _⟩ := cells4 (HM.out.xt hV).rg
    exact ⟨b0, b1, x0, x1, x2, x3⟩
   have hlg := HM.out.rg
   have hpgB : pg < B + 1 ∨ B + 1 < pg ∨ pg = B + 1 := by omega
   have HCG := Lib.hid (in_any g.a g.b g.c g.d a.1 a.2 w2.drew)
   rw [show inB g.a g.b g.c g.d a.1 a.2 = vg from HVG.out] at HCG
   have HMT : Hid (∀ V, Xt w1 V → ((V.setCell ⟨B + 1, 0, none⟩ (.int .i64 a.1)).setCell ⟨B + 1, 1, none⟩ (.int .i64 a.2)).cell? ⟨B, 0, none⟩ = some (.int .i64 a.1) ∧ ((V.setCell ⟨B + 1, 0, none⟩ (.int .i64 a.1)).setCell ⟨B + 1, 1, none⟩ (.int .i64 a.2)).cell? ⟨B, 1, none⟩ = some (.int .i64 a.2) ∧ ((V.setCell ⟨B + 1, 0, none⟩ (.int .i64 a.1)).setCell ⟨B + 1, 1, none⟩ (.int .i64 a.2)).cell? ⟨pg, 0, none⟩ = some (.int .i64 g.a) ∧ ((V.setCell ⟨B + 1, 0, none⟩ (.int .i64 a.1)).setCell ⟨B + 1, 1, none⟩ (.int .i64 a.2)).cell? ⟨pg, 1, none⟩ = some (.int .i64 g.b) ∧ ((V.setCell ⟨B + 1, 0, none⟩ (.int .i64 a.1)).setCell ⟨B + 1, 1, none⟩ (.int .i64 a.2)).cell? ⟨pg, 2, none⟩ = some (.int .i64 g.c) ∧ ((V.setCell ⟨B + 1, 0, none⟩ (.int .i64 a.1)).setCell ⟨B + 1, 1, none⟩ (.int .i64 a.2)).cell? ⟨pg, 3, none⟩ = some (.int .i64 g.d)) := Lib.hid fun V hV => by
    obtain ⟨b0, b1, x0, x1, x2, x3⟩ := HMS.out V hV
    have hk : ∀ b o u, b ≠ B + 1 → V.cell? ⟨b, o, none⟩ = some u → ((V.setCell ⟨B + 1, 0, none⟩ (.int .i64 a.1)).setCell ⟨B + 1, 1, none⟩ (.int .i64 a.2)).cell? ⟨b, o, none⟩ = some u := fun b o u hb hu => (World.cell?_setCell_other _ _ _ _ (by simp)).trans ((World.cell?_setCell_other _ _ _ _ (by simp)).trans hu)
    exact ⟨hk _ _ _ (by omega) b0, hk _ _ _ (by omega) b1, hk _ _ _ HPG.out x0, hk _ _ _ HPG.out x1, hk _ _ _ HPG.out x2, hk _ _ _ HPG.out x3⟩
   clear hlg hpgB
   refine wp_region_held_drew (S := fun V => V.cell? ⟨B, 0, none⟩ = some (.int .i64 a.1) ∧ V.cell? ⟨B, 1, none⟩ = some (.int .i64 a.2) ∧ V.cell? ⟨pg, 0, none⟩ = some (.int .i64 g.a) ∧ V.cell? ⟨pg, 1, none⟩ = some (.int .i64 g.b) ∧ V.cell? ⟨pg, 2, none⟩ = some (.int .i64 g.c) ∧ V.cell? ⟨pg, 3, none⟩ = some (.int .i64 g.d)) (by kernel_rfl) (HMS.out _ HX2d.out) (fun hHeld => ?_)
   refine tkH 0 ?_ ?_ ?_
   rotate_left
   · intro V hSw; (try dsimp only at hSw); obtain ⟨u0, u1, u2, u3, u4, u5⟩ := hSw; go_simp; first | done | with_reducible rfl
   try simp only [Act.put, nm]
   refine tkH 1 ?_ ?_ ?_
   rotate_left
   · intro V hSw; (try dsimp only at hSw); obtain ⟨u0, u1, u2, u3, u4, u5⟩ := hSw; go_simp; first | done | with_reducible rfl
   try simp only [Act.put, nm]
   refine tkH 2 ?_ ?_ ?_
   rotate_left
   · intro V hSw; (try dsimp only at hSw); obtain ⟨u0, u1, u2, u3, u4, u5⟩ := hSw; go_simp; first | done | with_reducible rfl
   try simp only [Act.put, nm]
   refine rdH 3 (fun K hK => ?_)
   go_simp
   refine (HCG.out).mono ?_
   rintro e w3 ⟨rfl, hg3⟩
   have HX3 : Hid (Xt w1 w3) := HX2d.out.trans hg3.xt
   obtain ⟨e0', e1', g0', g1'⟩ := cells2 (rowX HX3.out HR.out)
   refine hK.out _ _ (HMS.out _ HX3.out) (fun hHeld2 => ?_)
   clear hK K hg3
   try simp only [Act.put, nm]
   refine tkH 4 ?_ ?_ ?_
   rotate_left
   · intro V hSw; (try dsimp only at hSw); obtain ⟨u0, u1, u2, u3, u4, u5⟩ := hSw; go_simp; first | done | with_reducible rfl
   try simp only [Act.put, nm]
   refine rdH 5 (fun K hK => ?_)
   go_simp
   refine hK.out _ _ (HMT.out _ HX3.out) (fun hHeld3 => ?_)
   clear hK K
   try simp only [Act.put, nm]
   refine tkH 6 ?_ ?_ ?_
   rotate_left
   · intro V hSw; (try dsimp only at hSw); obtain ⟨u0, u1, u2, u3, u4, u5⟩ := hSw; go_simp; first | done | with_reducible rfl
   try simp only [Act.put, nm]
   refine wpAnyH_done (by kernel_rfl) ?_ _
   go_wp2_with fail
   have hrow : ((w3.setCell ⟨B + 1, 0, none⟩ (.int .i64 a.1)).setCell ⟨B + 1, 1, none⟩ (.int .i64 a.2)).heap[B + 1]? = some (.cells #[.int .i64 a.1, .int .i64 a.2] 24 (0, 0)) := setCell_row (setCell_row (rowX HX3.out HR.out) 0 _) 1 _
   have hxe : Xt w ((w3.setCell ⟨B + 1, 0, none⟩ (.int .i64 a.1)).setCell ⟨B + 1, 1, none⟩ (.int .i64 a.2)) := (((HX1.out.trans HX3.out).grownB (setCell_grown _ _ _ _) (fun q hq => by cases hq; rw [hBB.out]; omega))).grownB (setCell_grown _ _ _ _) (fun q hq => by cases hq; rw [hBB.out]; omega)
   (try simp only [Exit.inBlock, Exit.then])
   refine bodyPost_ret (v := .tuple #[.agg #[.int .i64 a.1, .int .i64 a.2], .bool (!vg)]) ?_ rfl ⟨rfl, hxe⟩
   rw [results_cell_tmp rfl]
   show ((asAddr (.pointer (some ⟨B + 1, 0, none⟩))).run _ _).andThen _ = _
   simp only [asAddr, Sem.run_pure, Result.andThen_ok, run_loadVar_row _ _ _ 24 _ _ _ hrow Tryz.underlying24 rfl (by kernel_rfl)]
   rfl
 · simp only [if_true]
   have hb2 : True := trivial
   go_enter Tryz.func44, Tryz.ntmps44
   go_wp2_with (first
    | (go_at_call 16; have hm0 := hm1; clear hm1 hm0; refine (HCF.out).mono ?_; rintro e w2 ⟨rfl, hg2⟩; have HX2 : Hid (Xt w1 w2) := hg2.xt; obtain ⟨b0', b1', _, _⟩ := cells2 (rowX hg2.xt HB.out); obtain ⟨e0, e1, g0, g1⟩ := cells2 (rowX hg2.xt HR.out); have HM2 := Lib.hid (HM.out.xt hg2.xt); have hrm := HM2.out.rm; clear hg2)
    | (go_at_call 43; refine (moved1_any a pc pr cc rr _ HM2.out.rc HM2.out.rr).mono ?_; rintro e w3 ⟨rfl, hx3⟩; have HX3 : Hid (Xt w1 w3) := HX2.out.trans hx3; obtain ⟨e0', e1', g0', g1'⟩ := cells2 (rowX HX3.out HR.out); clear hx3))
   have hrow : ((w3.setCell ⟨B + 1, 0, none⟩ (.int .i64 (movG cc rr a).1)).setCell ⟨B + 1, 1, none⟩ (.int .i64 (movG cc rr a).2)).heap[B + 1]? = some (.cells #[.int .i64 (movG cc rr a).1, .int .i64 (movG cc rr a).2] 24 (0, 0)) := setCell_row (setCell_row (rowX HX3.out HR.out) 0 _) 1 _
   have hxe : Xt w ((w3.setCell ⟨B + 1, 0, none⟩ (.int .i64 (movG cc rr a).1)).setCell ⟨B + 1, 1, none⟩ (.int .i64 (movG cc rr a).2)) := (((HX1.out.trans HX3.out).grownB (setCell_grown _ _ _ _) (fun q hq => by cases hq; rw [hBB.out]; omega))).grownB (setCell_grown _ _ _ _) (fun q hq => by cases hq; rw [hBB.out]; omega)
   (try simp only [Exit.inBlock, Exit.then])
   refine bodyPost_ret (v := .tuple #[.agg #[.int .i64 (movG cc rr a).1, .int .i64 (movG cc rr a).2], .bool true]) ?_ rfl ⟨rfl, hxe⟩
   rw [results_cell_tmp rfl]
   show ((asAddr (.pointer (some ⟨B + 1, 0, none⟩))).run _ _).andThen _ = _
   simp only [asAddr, Sem.run_pure, Result.andThen_ok, run_loadVar_row _ _ _ 24 _ _ _ hrow Tryz.underlying24 rfl (by kernel_rfl)]
   rfl
end Go.Proofs.YtdoeejhdenifpaaGreatDoor
/- move.Move's closures: what becomes of an area (made by mkr3.py). -/
namespace Go.Proofs.YtdoeejhdenifpaaGreatDoor
open Go.RowKit Go.Sort Go.MapKept
attribute [local go_sem] Oper.semAt_some
set_option maxRecDepth 100000 in
set_option maxHeartbeats 4000000 in
theorem mvArea_any (x : ArT) (pf pm pg pc pr : Nat) (f g : ArT) (cc rr : Int) (w : World) (h : MvAt w pf pm pg pc pr f g cc rr) :
    Calls Tryz.prog 45 #[arT x, .pointer (some ⟨pf, 0, none⟩), .pointer (some ⟨pm, 0, none⟩), .pointer (some ⟨pg, 0, none⟩)] w fun e w' => e = .returned (.tuple #[arT (mvA f g cc rr x).1, .bool (mvA f g cc rr x).2]) ∧ Xt w w' := by
 obtain ⟨B, hB⟩ : ∃ B, w.heap.size = B := ⟨_, rfl⟩
 obtain ⟨w0, hw0⟩ : ∃ w0, w.alloc (.cells #[.int .i64 x.a, .int .i64 x.b, .int .i64 x.c, .int .i64 x.d] 26) = w0 := ⟨_, rfl⟩
 have hs0 : w0.heap.size = B + 1 := by rw [← hw0, ← hB]; simp
 obtain ⟨w1, hw1⟩ : ∃ w1, w0.alloc (.cells #[.int .i64 0, .int .i64 0, .int .i64 0, .int .i64 0] 26) = w1 := ⟨_, rfl⟩
 have hx1 : Xt w w1 := by rw [← hw1, ← hw0]; exact ((Xt.refl w).alloc _).alloc _
 have HB : Hid (w1.heap[B]? = some (.cells #[.int .i64 x.a, .int .i64 x.b, .int .i64 x.c, .int .i64 x.d] 26 (0, 0))) := by
  unfold Hid; rw [← hw1]; exact (Below.heap_alloc w0 _ _ (by omega)).trans (by rw [← hw0, ← hB]; exact (MapKept.heap_alloc w _).1)
 have HR : Hid (w1.heap[B + 1]? = some (.cells #[.int .i64 0, .int .i64 0, .int .i64 0, .int .i64 0] 26 (0, 0))) := by
  unfold Hid; rw [← hw1, ← hs0]; exact (MapKept.heap_alloc w0 _).1
 have HPG : Hid (pg ≠ B + 1) := Lib.hid fun e => by
  have := (Array.getElem?_eq_some_iff.1 h.rg).1
  omega
 have HPM : Hid (pm ≠ B + 1) := Lib.hid fun e => by
  have := World.block_lt_of_cell? w _ h.rm
  simp only at this
  omega
 have HM := Lib.hid (h.xt hx1)
 have HX1 := Lib.hid hx1
 have hBB := Lib.hid hB
 have HCF := Lib.hid (within_any x f w1)
 obtain ⟨vf, hvf⟩ : ∃ v, withinA x f = v := ⟨_, rfl⟩
 rw [hvf] at HCF
 obtain ⟨⟨x0, x1, x2, x3⟩, _⟩ := cells4 HM.out.rf
 obtain ⟨⟨b0, b1, b2, b3⟩, _⟩ := cells4 HB.out
 unfold mvA
 rw [hvf]
 clear hx1 h hvf
 have hm1 : True := trivial
 cases vf
 · simp only [Bool.false_eq_true, if_false]
   obtain ⟨vg, hvg⟩ : ∃ v, withinA x g = v := ⟨_, rfl⟩
   rw [hvg]
   have HVG := Lib.hid hvg
   clear hvg
   go_enter Tryz.func45, Tryz.ntmps45
   go_wp2_with (first
    | (go_at_call 46; have hm0 := hm1; clear hm1 hm0; refine (HCF.out).mono ?_; rintro e w2 ⟨rfl, hg2⟩; have HX2 : Hid (Xt w1 w2) := hg2; clear hg2))
   have HX2d : Hid (Xt w1 w2.drew) := HX2.out.drew
   have HMS : Hid (∀ V, Xt w1 V → V.cell? ⟨B, 0, none⟩ = some (.int .i64 x.a) ∧ V.cell? ⟨B, 1, none⟩ = some (.int .i64 x.b) ∧ V.cell? ⟨B, 2, none⟩ = some (.int .i64 x.c) ∧ V.cell? ⟨B, 3, none⟩ = some (.int .i64 x.d) ∧ V.cell? ⟨pg, 0, none⟩ = some (.int .i64 g.a) ∧ V.cell? ⟨pg, 1, none⟩ = some (.int .i64 g.b) ∧ V.cell? ⟨pg, 2, none⟩ = some (.int .i64 g.c) ∧ V.cell? ⟨pg, 3, none⟩ = some (.int .i64 g.d)) := Lib.hid fun V hV => by
    obtain ⟨⟨b0, b1, b2, b3⟩, _⟩ := cells4 (rowX hV HB.out)
    obtain ⟨⟨x0, x1, x2, x3⟩, _⟩ := cells4 (HM.out.xt hV).rg
    exact ⟨b0, b1, b2, b3, x0, x1, x2, x3⟩
   have HCG := Lib.hid (within_any x g w2.drew)
   rw [HVG.out] at HCG
   have HMT : Hid (∀ V, Xt w1 V → ((((V.setCell ⟨B + 1, 0, none⟩ (.int .i64 x.a)).setCell ⟨B + 1, 1, none⟩ (.int .i64 x.b)).setCell ⟨B + 1, 2, none⟩ (.int .i64 x.c)).setCell ⟨B + 1, 3, none⟩ (.int .i64 x.d)).cell? ⟨B, 0, none⟩ = some (.int .i64 x.a) ∧ ((((V.setCell ⟨B + 1, 0, none⟩ (.int .i64 x.a)).setCell ⟨B + 1, 1, none⟩ (.int .i64 x.b)).setCell ⟨B + 1, 2, none⟩ (.int .i64 x.c)).setCell ⟨B + 1, 3, none⟩ (.int .i64 x.d)).cell? ⟨B, 1, none⟩ = some (.int .i64 x.b) ∧ ((((V.setCell ⟨B + 1, 0, none⟩ (.int .i64 x.a)).setCell ⟨B + 1, 1, none⟩ (.int .i64 x.b)).setCell ⟨B + 1, 2, none⟩ (.int .i64 x.c)).setCell ⟨B + 1, 3, none⟩ (.int .i64 x.d)).cell? ⟨B, 2, none⟩ = some (.int .i64 x.c) ∧ ((((V.setCell ⟨B + 1, 0, none⟩ (.int .i64 x.a)).setCell ⟨B + 1, 1, none⟩ (.int .i64 x.b)).setCell ⟨B + 1, 2, none⟩ (.int .i64 x.c)).setCell ⟨B + 1, 3, none⟩ (.int .i64 x.d)).cell? ⟨B, 3, none⟩ = some (.int .i64 x.d) ∧ ((((V.setCell ⟨B + 1, 0, none⟩ (.int .i64 x.a)).setCell ⟨B + 1, 1, none⟩ (.int .i64 x.b)).setCell ⟨B + 1, 2, none⟩ (.int .i64 x.c)).setCell ⟨B + 1, 3, none⟩ (.int .i64 x.d)).cell? ⟨pg, 0, none⟩ = some (.int .i64 g.a) ∧ ((((V.setCell ⟨B + 1, 0, none⟩ (.int .i64 x.a)).setCell ⟨B + 1, 1, none⟩ (.int .i64 x.b)).setCell ⟨B + 1, 2, none⟩ (.int .i64 x.c)).setCell ⟨B + 1, 3, none⟩ (.int .i64 x.d)).cell? ⟨pg, 1, none⟩ = some (.int .i64 g.b) ∧ ((((V.setCell ⟨B + 1, 0, none⟩ (.int .i64 x.a)).setCell ⟨B + 1, 1, none⟩ (.int .i64 x.b)).setCell ⟨B + 1, 2, none⟩ (.int .i64 x.c)).setCell ⟨B + 1, 3, none⟩ (.int .i64 x.d)).cell? ⟨pg, 2, none⟩ = some (.int .i64 g.c) ∧ ((((V.setCell ⟨B + 1, 0, none⟩ (.int .i64 x.a)).setCell ⟨B + 1, 1, none⟩ (.int .i64 x.b)).setCell ⟨B + 1, 2, none⟩ (.int .i64 x.c)).setCell ⟨B + 1, 3, none⟩ (.int .i64 x.d)).cell? ⟨pg, 3, none⟩ = some (.int .i64 g.d)) := Lib.hid fun V hV => by
    obtain ⟨k0, k1, k2, k3, k4, k5, k6, k7⟩ := HMS.out V hV
    have hk : ∀ b o u, b ≠ B + 1 → V.cell? ⟨b, o, none⟩ = some u → ((((V.setCell ⟨B + 1, 0, none⟩ (.int .i64 x.a)).setCell ⟨B + 1, 1, none⟩ (.int .i64 x.b)).setCell ⟨B + 1, 2, none⟩ (.int .i64 x.c)).setCell ⟨B + 1, 3, none⟩ (.int .i64 x.d)).cell? ⟨b, o, none⟩ = some u := fun b o u hb hu => (World.cell?_setCell_other _ _ _ _ (by simp)).trans ((World.cell?_setCell_other _ _ _ _ (by simp)).trans ((World.cell?_setCell_other _ _ _ _ (by simp)).trans ((World.cell?_setCell_other _ _ _ _ (by simp)).trans hu)))
    exact ⟨hk _ _ _ (by omega) k0, hk _ _ _ (by omega) k1, hk _ _ _ (by omega) k2, hk _ _ _ (by omega) k3, hk _ _ _ HPG.out k4, hk _ _ _ HPG.out k5, hk _ _ _ HPG.out k6, hk _ _ _ HPG.out k7⟩
   refine wp_region_held_drew (S := fun V => V.cell? ⟨B, 0, none⟩ = some (.int .i64 x.a) ∧ V.cell? ⟨B, 1, none⟩ = some (.int .i64 x.b) ∧ V.cell? ⟨B, 2, none⟩ = some (.int .i64 x.c) ∧ V.cell? ⟨B, 3, none⟩ = some (.int .i64 x.d) ∧ V.cell? ⟨pg, 0, none⟩ = some (.int .i64 g.a) ∧ V.cell? ⟨pg, 1, none⟩ = some (.int .i64 g.b) ∧ V.cell? ⟨pg, 2, none⟩ = some (.int .i64 g.c) ∧ V.cell? ⟨pg, 3, none⟩ = some (.int .i64 g.d)) (by kernel_rfl) (HMS.out _ HX2d.out) (fun hHeld => ?_)
   refine tkH 0 ?_ ?_ ?_
   rotate_left
   · intro V hSw; (try dsimp only at hSw); obtain ⟨u0, u1, u2, u3, u4, u5, u6, u7⟩ := hSw; go_simp; first | done | with_reducible rfl
   try simp only [Act.put, nm]
   refine tkH 1 ?_ ?_ ?_
   rotate_left
   · intro V hSw; (try dsimp only at hSw); obtain ⟨u0, u1, u2, u3, u4, u5, u6, u7⟩ := hSw; go_simp; first | done | with_reducible rfl
   try simp only [Act.put, nm]
   refine tkH 2 ?_ ?_ ?_
   rotate_left
   · intro V hSw; (try dsimp only at hSw); obtain ⟨u0, u1, u2, u3, u4, u5, u6, u7⟩ := hSw; go_simp; first | done | with_reducible rfl
   try simp only [Act.put, nm]
   refine rdH 3 (fun K hK => ?_)
   go_simp
   refine (HCG.out).mono ?_
   rintro e w3 ⟨rfl, hg3⟩
   have HX3 : Hid (Xt w1 w3) := HX2d.out.trans hg3
   obtain ⟨⟨e0, e1, e2, e3⟩, ⟨g0, g1, g2, g3⟩⟩ := cells4 (rowX HX3.out HR.out)
   refine hK.out _ _ (HMS.out _ HX3.out) (fun hHeld2 => ?_)
   clear hK K hg3
   try simp only [Act.put, nm]
   refine tkH 4 ?_ ?_ ?_
   rotate_left
   · intro V hSw; (try dsimp only at hSw); obtain ⟨u0, u1, u2, u3, u4, u5, u6, u7⟩ := hSw; go_simp; first | done | with_reducible rfl
   try simp only [Act.put, nm]
   refine rdH 5 (fun K hK => ?_)
   go_simp
   refine hK.out _ _ (HMT.out _ HX3.out) (fun hHeld3 => ?_)
   clear hK K
   try simp only [Act.put, nm]
   refine tkH 6 ?_ ?_ ?_
   rotate_left
   · intro V hSw; (try dsimp only at hSw); obtain ⟨u0, u1, u2, u3, u4, u5, u6, u7⟩ := hSw; go_simp; first | done | with_reducible rfl
   try simp only [Act.put, nm]
   refine wpAnyH_done (by kernel_rfl) ?_ _
   go_wp2_with fail
   have hrow : ((((w3.setCell ⟨B + 1, 0, none⟩ (.int .i64 x.a)).setCell ⟨B + 1, 1, none⟩ (.int .i64 x.b)).setCell ⟨B + 1, 2, none⟩ (.int .i64 x.c)).setCell ⟨B + 1, 3, none⟩ (.int .i64 x.d)).heap[B + 1]? = some (.cells #[.int .i64 x.a, .int .i64 x.b, .int .i64 x.c, .int .i64 x.d] 26 (0, 0)) := setCell_row (setCell_row (setCell_row (setCell_row (rowX HX3.out HR.out) 0 _) 1 _) 2 _) 3 _
   have hgr : ∀ {A C : World}, Xt w A → C = A → Xt w C := fun h e => e ▸ h
   have hone : ∀ (A : World) (o : Nat) (u : Value), Xt w A → Xt w (A.setCell ⟨B + 1, o, none⟩ u) := fun A o u h => h.grownB (setCell_grown _ _ _ _) (fun q hq => by cases hq; rw [hBB.out]; omega)
   have hxe : Xt w ((((w3.setCell ⟨B + 1, 0, none⟩ (.int .i64 x.a)).setCell ⟨B + 1, 1, none⟩ (.int .i64 x.b)).setCell ⟨B + 1, 2, none⟩ (.int .i64 x.c)).setCell ⟨B + 1, 3, none⟩ (.int .i64 x.d)) := hone _ _ _ (hone _ _ _ (hone _ _ _ (hone _ _ _ (HX1.out.trans HX3.out))))
   (try simp only [Exit.inBlock, Exit.then])
   refine bodyPost_ret (v := .tuple #[.agg #[.int .i64 x.a, .int .i64 x.b, .int .i64 x.c, .int .i64 x.d], .bool (!vg)]) ?_ rfl ⟨rfl, hxe⟩
   rw [results_cell_tmp rfl]
   show ((asAddr (.pointer (some ⟨B + 1, 0, none⟩))).run _ _).andThen _ = _
   simp only [asAddr, Sem.run_pure, Result.andThen_ok, run_loadVar_row _ _ _ 26 _ _ _ hrow Tryz.underlying26 rfl (by kernel_rfl)]
   rfl
 · simp only [if_true]
   go_enter Tryz.func45, Tryz.ntmps45
   go_wp2_with (first
    | (go_at_call 46; have hm0 := hm1; clear hm1 hm0; refine (HCF.out).mono ?_; rintro e w2 ⟨rfl, hg2⟩; have HX2 : Hid (Xt w1 w2) := hg2; clear hg2))
   have HX2d : Hid (Xt w1 w2.drew) := HX2.out.drew
   have HMS : Hid (∀ V, Xt w1 V → V.cell? ⟨B, 0, none⟩ = some (.int .i64 x.a) ∧ V.cell? ⟨B, 1, none⟩ = some (.int .i64 x.b) ∧ V.cell? ⟨B, 2, none⟩ = some (.int .i64 x.c) ∧ V.cell? ⟨B, 3, none⟩ = some (.int .i64 x.d) ∧ V.cell? ⟨pm, 0, none⟩ = some (.func (.func 43) #[] #[.pointer (some ⟨pc, 0, none⟩), .pointer (some ⟨pr, 0, none⟩)])) := Lib.hid fun V hV => by
    obtain ⟨⟨b0, b1, b2, b3⟩, _⟩ := cells4 (rowX hV HB.out)
    exact ⟨b0, b1, b2, b3, (HM.out.xt hV).rm⟩
   have HMT : Hid (∀ V, Xt w1 V → ((((V.setCell ⟨B + 1, 0, none⟩ (.int .i64 (movG cc rr (x.a, x.b)).1)).setCell ⟨B + 1, 1, none⟩ (.int .i64 (movG cc rr (x.a, x.b)).2)).setCell ⟨B + 1, 2, none⟩ (.int .i64 (movG cc rr (x.c, x.d)).1)).setCell ⟨B + 1, 3, none⟩ (.int .i64 (movG cc rr (x.c, x.d)).2)).cell? ⟨B, 0, none⟩ = some (.int .i64 x.a) ∧ ((((V.setCell ⟨B + 1, 0, none⟩ (.int .i64 (movG cc rr (x.a, x.b)).1)).setCell ⟨B + 1, 1, none⟩ (.int .i64 (movG cc rr (x.a, x.b)).2)).setCell ⟨B + 1, 2, none⟩ (.int .i64 (movG cc rr (x.c, x.d)).1)).setCell ⟨B + 1, 3, none⟩ (.int .i64 (movG cc rr (x.c, x.d)).2)).cell? ⟨B, 1, none⟩ = some (.int .i64 x.b) ∧ ((((V.setCell ⟨B + 1, 0, none⟩ (.int .i64 (movG cc rr (x.a, x.b)).1)).setCell ⟨B + 1, 1, none⟩ (.int .i64 (movG cc rr (x.a, x.b)).2)).setCell ⟨B + 1, 2, none⟩ (.int .i64 (movG cc rr (x.c, x.d)).1)).setCell ⟨B + 1, 3, none⟩ (.int .i64 (movG cc rr (x.c, x.d)).2)).cell? ⟨B, 2, none⟩ = some (.int .i64 x.c) ∧ ((((V.setCell ⟨B + 1, 0, none⟩ (.int .i64 (movG cc rr (x.a, x.b)).1)).setCell ⟨B + 1, 1, none⟩ (.int .i64 (movG cc rr (x.a, x.b)).2)).setCell ⟨B + 1, 2, none⟩ (.int .i64 (movG cc rr (x.c, x.d)).1)).setCell ⟨B + 1, 3, none⟩ (.int .i64 (movG cc rr (x.c, x.d)).2)).cell? ⟨B, 3, none⟩ = some (.int .i64 x.d) ∧ ((((V.setCell ⟨B + 1, 0, none⟩ (.int .i64 (movG cc rr (x.a, x.b)).1)).setCell ⟨B + 1, 1, none⟩ (.int .i64 (movG cc rr (x.a, x.b)).2)).setCell ⟨B + 1, 2, none⟩ (.int .i64 (movG cc rr (x.c, x.d)).1)).setCell ⟨B + 1, 3, none⟩ (.int .i64 (movG cc rr (x.c, x.d)).2)).cell? ⟨pm, 0, none⟩ = some (.func (.func 43) #[] #[.pointer (some ⟨pc, 0, none⟩), .pointer (some ⟨pr, 0, none⟩)])) := Lib.hid fun V hV => by
    obtain ⟨k0, k1, k2, k3, k4⟩ := HMS.out V hV
    have hk : ∀ b o u, b ≠ B + 1 → V.cell? ⟨b, o, none⟩ = some u → ((((V.setCell ⟨B + 1, 0, none⟩ (.int .i64 (movG cc rr (x.a, x.b)).1)).setCell ⟨B + 1, 1, none⟩ (.int .i64 (movG cc rr (x.a, x.b)).2)).setCell ⟨B + 1, 2, none⟩ (.int .i64 (movG cc rr (x.c, x.d)).1)).setCell ⟨B + 1, 3, none⟩ (.int .i64 (movG cc rr (x.c, x.d)).2)).cell? ⟨b, o, none⟩ = some u := fun b o u hb hu => (World.cell?_setCell_other _ _ _ _ (by simp)).trans ((World.cell?_setCell_other _ _ _ _ (by simp)).trans ((World.cell?_setCell_other _ _ _ _ (by simp)).trans ((World.cell?_setCell_other _ _ _ _ (by simp)).trans hu)))
    exact ⟨hk _ _ _ (by omega) k0, hk _ _ _ (by omega) k1, hk _ _ _ (by omega) k2, hk _ _ _ (by omega) k3, hk _ _ _ HPM.out k4⟩
   refine wp_region_held_drew (S := fun V => V.cell? ⟨B, 0, none⟩ = some (.int .i64 x.a) ∧ V.cell? ⟨B, 1, none⟩ = some (.int .i64 x.b) ∧ V.cell? ⟨B, 2, none⟩ = some (.int .i64 x.c) ∧ V.cell? ⟨B, 3, none⟩ = some (.int .i64 x.d) ∧ V.cell? ⟨pm, 0, none⟩ = some (.func (.func 43) #[] #[.pointer (some ⟨pc, 0, none⟩), .pointer (some ⟨pr, 0, none⟩)])) (by kernel_rfl) (HMS.out _ HX2d.out) (fun hHeld => ?_)
   refine tkH 0 ?_ ?_ ?_
   rotate_left
   · intro V hSw; (try dsimp only at hSw); obtain ⟨u0, u1, u2, u3, u4⟩ := hSw; go_simp; first | done | with_reducible rfl
   try simp only [Act.put, nm]
   refine tkH 1 ?_ ?_ ?_
   rotate_left
   · intro V hSw; (try dsimp only at hSw); obtain ⟨u0, u1, u2, u3, u4⟩ := hSw; go_simp; first | done | with_reducible rfl
   try simp only [Act.put, nm]
   refine tkH 2 ?_ ?_ ?_
   rotate_left
   · intro V hSw; (try dsimp only at hSw); obtain ⟨u0, u1, u2, u3, u4⟩ := hSw; go_simp; first | done | with_reducible rfl
   try simp only [Act.put, nm]
   refine tkH 4 ?_ ?_ ?_
   rotate_left
   · intro V hSw; (try dsimp only at hSw); obtain ⟨u0, u1, u2, u3, u4⟩ := hSw; go_simp; first | done | with_reducible rfl
   try simp only [Act.put, nm]
   refine tkH 5 ?_ ?_ ?_
   rotate_left
   · intro V hSw; (try dsimp only at hSw); obtain ⟨u0, u1, u2, u3, u4⟩ := hSw; go_simp; first | done | with_reducible rfl
   try simp only [Act.put, nm]
   refine tkH 6 ?_ ?_ ?_
   rotate_left
   · intro V hSw; (try dsimp only at hSw); obtain ⟨u0, u1, u2, u3, u4⟩ := hSw; go_simp; first | done | with_reducible rfl
   try simp only [Act.put, nm]
   refine rdH 3 (fun K hK => ?_)
   go_simp
   refine (moved1_any (x.a, x.b) pc pr cc rr _ (HM.out.xt HX2d.out).rc (HM.out.xt HX2d.out).rr).mono ?_
   rintro e v3 ⟨rfl, hv3⟩
   have HV3 : Hid (Xt w1 v3) := HX2d.out.trans hv3
   refine hK.out _ _ (HMS.out _ HV3.out) (fun hHeldA => ?_)
   clear hK K hv3
   try simp only [Act.put, nm]
   refine rdH 7 (fun K hK => ?_)
   go_simp
   refine (moved1_any (x.c, x.d) pc pr cc rr _ (HM.out.xt HV3.out).rc (HM.out.xt HV3.out).rr).mono ?_
   rintro e w3 ⟨rfl, hw3⟩
   have HX3 : Hid (Xt w1 w3) := HV3.out.trans hw3
   obtain ⟨⟨e0, e1, e2, e3⟩, ⟨g0, g1, g2, g3⟩⟩ := cells4 (rowX HX3.out HR.out)
   refine hK.out _ _ (HMS.out _ HX3.out) (fun hHeldB => ?_)
   clear hK K hw3
   try simp only [Act.put, nm]
   refine tkH 8 ?_ ?_ ?_
   rotate_left
   · intro V hSw; (try dsimp only at hSw); obtain ⟨u0, u1, u2, u3, u4⟩ := hSw; go_simp; first | done | with_reducible rfl
   try simp only [Act.put, nm]
   refine rdH 9 (fun K hK => ?_)
   go_simp
   refine hK.out _ _ (HMT.out _ HX3.out) (fun hHeld3 => ?_)
   clear hK K
   try simp only [Act.put, nm]
   refine tkH 10 ?_ ?_ ?_
   rotate_left
   · intro V hSw; (try dsimp only at hSw); obtain ⟨u0, u1, u2, u3, u4⟩ := hSw; go_simp; first | done | with_reducible rfl
   try simp only [Act.put, nm]
   refine wpAnyH_done (by kernel_rfl) ?_ _
   go_wp2_with fail
   have hrow : ((((w3.setCell ⟨B + 1, 0, none⟩ (.int .i64 (movG cc rr (x.a, x.b)).1)).setCell ⟨B + 1, 1, none⟩ (.int .i64 (movG cc rr (x.a, x.b)).2)).setCell ⟨B + 1, 2, none⟩ (.int .i64 (movG cc rr (x.c, x.d)).1)).setCell ⟨B + 1, 3, none⟩ (.int .i64 (movG cc rr (x.c, x.d)).2)).heap[B + 1]? = some (.cells #[.int .i64 (movG cc rr (x.a, x.b)).1, .int .i64 (movG cc rr (x.a, x.b)).2, .int .i64 (movG cc rr (x.c, x.d)).1, .int .i64 (movG cc rr (x.c, x.d)).2] 26 (0, 0)) := setCell_row (setCell_row (setCell_row (setCell_row (rowX HX3.out HR.out) 0 _) 1 _) 2 _) 3 _
   have hgr : ∀ {A C : World}, Xt w A → C = A → Xt w C := fun h e => e ▸ h
   have hone : ∀ (A : World) (o : Nat) (u : Value), Xt w A → Xt w (A.setCell ⟨B + 1, o, none⟩ u) := fun A o u h => h.grownB (setCell_grown _ _ _ _) (fun q hq => by cases hq; rw [hBB.out]; omega)
   have hxe : Xt w ((((w3.setCell ⟨B + 1, 0, none⟩ (.int .i64 (movG cc rr (x.a, x.b)).1)).setCell ⟨B + 1, 1, none⟩ (.int .i64 (movG cc rr (x.a, x.b)).2)).setCell ⟨B + 1, 2, none⟩ (.int .i64 (movG cc rr (x.c, x.d)).1)).setCell ⟨B + 1, 3, none⟩ (.int .i64 (movG cc rr (x.c, x.d)).2)) := hone _ _ _ (hone _ _ _ (hone _ _ _ (hone _ _ _ (HX1.out.trans HX3.out))))
   (try simp only [Exit.inBlock, Exit.then])
   refine bodyPost_ret (v := .tuple #[.agg #[.int .i64 (movG cc rr (x.a, x.b)).1, .int .i64 (movG cc rr (x.a, x.b)).2, .int .i64 (movG cc rr (x.c, x.d)).1, .int .i64 (movG cc rr (x.c, x.d)).2], .bool true]) ?_ rfl ⟨rfl, hxe⟩
   rw [results_cell_tmp rfl]
   show ((asAddr (.pointer (some ⟨B + 1, 0, none⟩))).run _ _).andThen _ = _
   simp only [asAddr, Sem.run_pure, Result.andThen_ok, run_loadVar_row _ _ _ 26 _ _ _ hrow Tryz.underlying26 rfl (by kernel_rfl)]
   rfl
end Go.Proofs.YtdoeejhdenifpaaGreatDoor
/- quadrillelaw22's shifted and small; move.there (made by mkr4.py). -/
namespace Go.Proofs.YtdoeejhdenifpaaGreatDoor
open Go.RowKit Go.Sort Go.MapKept
attribute [local go_sem] Oper.semAt_some
def lastOf (f : ArT) (g : Ad) : Ad := (wrap64 (wrap64 (g.1 + f.c) - f.a), wrap64 (wrap64 (g.2 + f.d) - f.b))
def thereA (f : ArT) (g : Ad) : ArT := ⟨g.1, g.2, (lastOf f g).1, (lastOf f g).2⟩
set_option maxRecDepth 100000 in
set_option maxHeartbeats 4000000 in
theorem there_any (f : ArT) (g : Ad) (w : World) :
    Calls Tryz.prog 41 #[arT f, .agg #[.int .i64 g.1, .int .i64 g.2]] w fun e w' => e = .returned (.tuple #[arT (thereA f g), .bool (validB g.1 g.2 && validB (lastOf f g).1 (lastOf f g).2)]) ∧ Xt w w' := by
 obtain ⟨B, hB⟩ : ∃ B, w.heap.size = B := ⟨_, rfl⟩
 obtain ⟨w0, hw0⟩ : ∃ w0, w.alloc (.cells #[.int .i64 f.a, .int .i64 f.b, .int .i64 f.c, .int .i64 f.d] 26) = w0 := ⟨_, rfl⟩
 have hs0 : w0.heap.size = B + 1 := by rw [← hw0, ← hB]; simp
 obtain ⟨w1, hw1⟩ : ∃ w1, w0.alloc (.cells #[.int .i64 g.1, .int .i64 g.2] 24) = w1 := ⟨_, rfl⟩
 have hs1 : w1.heap.size = B + 1 + 1 := by rw [← hw1]; simp [hs0]
 obtain ⟨w2, hw2⟩ : ∃ w2, w1.alloc (.cells #[.int .i64 0, .int .i64 0, .int .i64 0, .int .i64 0] 26) = w2 := ⟨_, rfl⟩
 have hs2 : w2.heap.size = B + 1 + 1 + 1 := by rw [← hw2]; simp [hs1]
 have HX2 : Hid (Xt w w2) := by unfold Hid; rw [← hw2, ← hw1, ← hw0]; exact (((Xt.refl w).alloc _).alloc _).alloc _
 have HR0 : Hid (w2.heap[B]? = some (.cells #[.int .i64 f.a, .int .i64 f.b, .int .i64 f.c, .int .i64 f.d] 26 (0, 0))) := rowX (w := w0) (by rw [← hw2, ← hw1]; exact ((Xt.refl _).alloc _).alloc _) (by rw [← hw0, ← hB]; exact (MapKept.heap_alloc w _).1)
 have HR1 : Hid (w2.heap[B + 1]? = some (.cells #[.int .i64 g.1, .int .i64 g.2] 24 (0, 0))) := rowX (w := w1) (by rw [← hw2]; exact (Xt.refl _).alloc _) (by rw [← hw1, ← hs0]; exact (MapKept.heap_alloc w0 _).1)
 have HR2 : Hid (w2.heap[B + 1 + 1]? = some (.cells #[.int .i64 0, .int .i64 0, .int .i64 0, .int .i64 0] 26 (0, 0))) := by unfold Hid; rw [← hw2, ← hs1]; exact (MapKept.heap_alloc w1 _).1
 obtain ⟨⟨x0, x1, x2, x3⟩, _⟩ := cells4 HR0.out
 obtain ⟨y0, y1, _, _⟩ := cells2 HR1.out
 obtain ⟨la, hla⟩ : ∃ la, lastOf f g = la := ⟨_, rfl⟩
 have HLA := Lib.hid hla
 have hl1 : wrap64 (wrap64 (g.1 + f.c) - f.a) = la.1 := by rw [← hla]; rfl
 have hl2 : wrap64 (wrap64 (g.2 + f.d) - f.b) = la.2 := by rw [← hla]; rfl
 obtain ⟨v1, hv1⟩ : ∃ v, validB g.1 g.2 = v := ⟨_, rfl⟩
 obtain ⟨v2, hv2⟩ : ∃ v, validB la.1 la.2 = v := ⟨_, rfl⟩
 have HC1 := Lib.hid (fun V => valid_any g.1 g.2 V)
 rw [hv1] at HC1
 have HC2 := Lib.hid (fun V => valid_any la.1 la.2 V)
 rw [hv2] at HC2
 unfold thereA
 rw [hla, hv1, hv2]
 clear hv1 hv2 hla
 go_enter Tryz.func41, Tryz.ntmps41
 go_upto_region 2 with fail
 simp only [hl1, hl2]
 obtain ⟨wl, hwl⟩ : ∃ wl, w2.alloc (.cells #[.int .i64 la.1, .int .i64 la.2] 24) = wl := ⟨_, rfl⟩
 have HXL : Hid (Xt w2 wl) := by unfold Hid; rw [← hwl]; exact (Xt.refl _).alloc _
 have HRL : Hid (wl.heap[B + 1 + 1 + 1]? = some (.cells #[.int .i64 la.1, .int .i64 la.2] 24 (0, 0))) := by unfold Hid; rw [← hwl, ← hs2]; exact (MapKept.heap_alloc w2 _).1
 simp only [hwl]
 clear hwl
 have HMS : Hid (∀ V, Xt wl V → V.cell? ⟨B + 1, 0, none⟩ = some (.int .i64 g.1) ∧ V.cell? ⟨B + 1, 1, none⟩ = some (.int .i64 g.2) ∧ V.cell? ⟨B + 1 + 1 + 1, 0, none⟩ = some (.int .i64 la.1) ∧ V.cell? ⟨B + 1 + 1 + 1, 1, none⟩ = some (.int .i64 la.2)) := Lib.hid fun V hV => by
  obtain ⟨b0, b1, _, _⟩ := cells2 (rowX (HXL.out.trans hV) HR1.out)
  obtain ⟨x0, x1, _, _⟩ := cells2 (rowX hV HRL.out)
  exact ⟨b0, b1, x0, x1⟩
 have HW0 : Hid (Xt wl wl.drew) := (Xt.refl wl).drew
 have HHH : Hid (∀ (A : World), Xt w A → Xt w ((((A.setCell ⟨B + 1 + 1, 0, none⟩ (.int .i64 g.1)).setCell ⟨B + 1 + 1, 1, none⟩ (.int .i64 g.2)).setCell ⟨B + 1 + 1, 2, none⟩ (.int .i64 la.1)).setCell ⟨B + 1 + 1, 3, none⟩ (.int .i64 la.2))) := Lib.hid fun A hA => by
  have hone : ∀ (A : World) (o : Nat) (u : Value), Xt w A → Xt w (A.setCell ⟨B + 1 + 1, o, none⟩ u) := fun A o u h => h.grownB (setCell_grown _ _ _ _) (fun q hq => by cases hq; rw [hB]; omega)
  exact hone _ _ _ (hone _ _ _ (hone _ _ _ (hone _ _ _ hA)))
 have HMT : Hid (∀ V, Xt wl V → ((((V.setCell ⟨B + 1 + 1, 0, none⟩ (.int .i64 g.1)).setCell ⟨B + 1 + 1, 1, none⟩ (.int .i64 g.2)).setCell ⟨B + 1 + 1, 2, none⟩ (.int .i64 la.1)).setCell ⟨B + 1 + 1, 3, none⟩ (.int .i64 la.2)).cell? ⟨B + 1, 0, none⟩ = some (.int .i64 g.1) ∧ ((((V.setCell ⟨B + 1 + 1, 0, none⟩ (.int .i64 g.1)).setCell ⟨B + 1 + 1, 1, none⟩ (.int .i64 g.2)).setCell ⟨B + 1 + 1, 2, none⟩ (.int .i64 la.1)).setCell ⟨B + 1 + 1, 3, none⟩ (.int .i64 la.2)).cell? ⟨B + 1, 1, none⟩ = some (.int .i64 g.2) ∧ ((((V.setCell ⟨B + 1 + 1, 0, none⟩ (.int .i64 g.1)).setCell ⟨B + 1 + 1, 1, none⟩ (.int .i64 g.2)).setCell ⟨B + 1 + 1, 2, none⟩ (.int .i64 la.1)).setCell ⟨B + 1 + 1, 3, none⟩ (.int .i64 la.2)).cell? ⟨B + 1 + 1 + 1, 0, none⟩ = some (.int .i64 la.1) ∧ ((((V.setCell ⟨B + 1 + 1, 0, none⟩ (.int .i64 g.1)).setCell ⟨B + 1 + 1, 1, none⟩ (.int .i64 g.2)).setCell ⟨B + 1 + 1, 2, none⟩ (.int .i64 la.1)).setCell ⟨B + 1 + 1, 3, none⟩ (.int .i64 la.2)).cell? ⟨B + 1 + 1 + 1, 1, none⟩ = some (.int .i64 la.2)) := Lib.hid fun V hV => by
  obtain ⟨k0, k1, k2, k3⟩ := HMS.out V hV
  have hk : ∀ b o u, b ≠ B + 1 + 1 → V.cell? ⟨b, o, none⟩ = some u → ((((V.setCell ⟨B + 1 + 1, 0, none⟩ (.int .i64 g.1)).setCell ⟨B + 1 + 1, 1, none⟩ (.int .i64 g.2)).setCell ⟨B + 1 + 1, 2, none⟩ (.int .i64 la.1)).setCell ⟨B + 1 + 1, 3, none⟩ (.int .i64 la.2)).cell? ⟨b, o, none⟩ = some u := fun b o u hb hu => (World.cell?_setCell_other _ _ _ _ (by simp)).trans ((World.cell?_setCell_other _ _ _ _ (by simp)).trans ((World.cell?_setCell_other _ _ _ _ (by simp)).trans ((World.cell?_setCell_other _ _ _ _ (by simp)).trans hu)))
  exact ⟨hk _ _ _ (by omega) k0, hk _ _ _ (by omega) k1, hk _ _ _ (by omega) k2, hk _ _ _ (by omega) k3⟩
 refine wp_region_held_drew (S := fun V => V.cell? ⟨B + 1, 0, none⟩ = some (.int .i64 g.1) ∧ V.cell? ⟨B + 1, 1, none⟩ = some (.int .i64 g.2) ∧ V.cell? ⟨B + 1 + 1 + 1, 0, none⟩ = some (.int .i64 la.1) ∧ V.cell? ⟨B + 1 + 1 + 1, 1, none⟩ = some (.int .i64 la.2)) (by kernel_rfl) (HMS.out _ HW0.out) (fun hHeld => ?_)
 refine tkH 0 ?_ ?_ ?_
 rotate_left
 · intro V hSw; (try dsimp only at hSw); obtain ⟨u0, u1, u2, u3⟩ := hSw; go_simp; first | done | with_reducible rfl
 try simp only [Act.put, nm]
 refine tkH 1 ?_ ?_ ?_
 rotate_left
 · intro V hSw; (try dsimp only at hSw); obtain ⟨u0, u1, u2, u3⟩ := hSw; go_simp; first | done | with_reducible rfl
 try simp only [Act.put, nm]
 refine tkH 2 ?_ ?_ ?_
 rotate_left
 · intro V hSw; (try dsimp only at hSw); obtain ⟨u0, u1, u2, u3⟩ := hSw; go_simp; first | done | with_reducible rfl
 try simp only [Act.put, nm]
 refine tkH 3 ?_ ?_ ?_
 rotate_left
 · intro V hSw; (try dsimp only at hSw); obtain ⟨u0, u1, u2, u3⟩ := hSw; go_simp; first | done | with_reducible rfl
 try simp only [Act.put, nm]
 refine rdH 4 (fun K hK => ?_)
 go_simp
 refine (HC1.out _).mono ?_
 rintro e w3 ⟨rfl, hw3⟩
 have HX3 : Hid (Xt wl w3) := (by unfold Hid; rw [hw3]; exact HW0.out.alloc _)
 cases v1
 · refine hK.out _ _ (HMS.out _ HX3.out) (fun hHeld2 => ?_)
   clear hK K hw3
   try simp only [Act.put, nm]
   refine tkH 5 ?_ ?_ ?_
   rotate_left
   · intro V hSw; (try dsimp only at hSw); obtain ⟨u0, u1, u2, u3⟩ := hSw; go_simp; first | done | with_reducible rfl
   try simp only [Act.put, nm]
   refine skH 6 ?_
   try simp only [Act.put, nm]
   refine rdH 7 (fun K hK => ?_)
   go_simp
   refine hK.out _ _ (HMS.out _ HX3.out) (fun hHeld2' => ?_)
   clear hK K
   try simp only [Act.put, nm]
   obtain ⟨⟨e0, e1, e2, e3⟩, ⟨g0, g1, g2, g3⟩⟩ := cells4 (rowX (HXL.out.trans HX3.out) HR2.out)
   refine tkH 8 ?_ ?_ ?_
   rotate_left
   · intro V hSw; (try dsimp only at hSw); obtain ⟨u0, u1, u2, u3⟩ := hSw; go_simp; first | done | with_reducible rfl
   try simp only [Act.put, nm]
   refine rdH 9 (fun K hK => ?_)
   go_simp
   refine hK.out _ _ (HMT.out _ HX3.out) (fun hHeld3 => ?_)
   clear hK K
   try simp only [Act.put, nm]
   refine tkH 10 ?_ ?_ ?_
   rotate_left
   · intro V hSw; (try dsimp only at hSw); obtain ⟨u0, u1, u2, u3⟩ := hSw; go_simp; first | done | with_reducible rfl
   try simp only [Act.put, nm]
   refine wpAnyH_done (by kernel_rfl) ?_ _
   go_wp2_with fail
   have hrow : ((((w3.setCell ⟨B + 1 + 1, 0, none⟩ (.int .i64 g.1)).setCell ⟨B + 1 + 1, 1, none⟩ (.int .i64 g.2)).setCell ⟨B + 1 + 1, 2, none⟩ (.int .i64 la.1)).setCell ⟨B + 1 + 1, 3, none⟩ (.int .i64 la.2)).heap[B + 1 + 1]? = some (.cells #[.int .i64 g.1, .int .i64 g.2, .int .i64 la.1, .int .i64 la.2] 26 (0, 0)) := setCell_row (setCell_row (setCell_row (setCell_row (rowX (HXL.out.trans HX3.out) HR2.out) 0 _) 1 _) 2 _) 3 _
   have hxe := HHH.out w3 ((HX2.out.trans HXL.out).trans HX3.out)
   (try simp only [Exit.inBlock, Exit.then])
   refine bodyPost_ret (v := .tuple #[.agg #[.int .i64 g.1, .int .i64 g.2, .int .i64 la.1, .int .i64 la.2], .bool false]) ?_ rfl ⟨rfl, hxe⟩
   rw [results_cell_tmp rfl]
   show ((asAddr (.pointer (some ⟨B + 1 + 1, 0, none⟩))).run _ _).andThen _ = _
   simp only [asAddr, Sem.run_pure, Result.andThen_ok, run_loadVar_row _ _ _ 26 _ _ _ hrow Tryz.underlying26 rfl (by kernel_rfl)]
   rfl
 · refine hK.out _ _ (HMS.out _ HX3.out) (fun hHeld2 => ?_)
   clear hK K hw3
   try simp only [Act.put, nm]
   refine tkH 5 ?_ ?_ ?_
   rotate_left
   · intro V hSw; (try dsimp only at hSw); obtain ⟨u0, u1, u2, u3⟩ := hSw; go_simp; first | done | with_reducible rfl
   try simp only [Act.put, nm]
   refine tkH 6 ?_ ?_ ?_
   rotate_left
   · intro V hSw; (try dsimp only at hSw); obtain ⟨u0, u1, u2, u3⟩ := hSw; go_simp; first | done | with_reducible rfl
   try simp only [Act.put, nm]
   refine rdH 7 (fun K hK => ?_)
   go_simp
   refine (HC2.out _).mono ?_
   rintro e w4 ⟨rfl, hw4⟩
   have HX3 : Hid (Xt wl w4) := (by unfold Hid; rw [hw4]; exact HX3.out.alloc _)
   refine hK.out _ _ (HMS.out _ HX3.out) (fun hHeld2' => ?_)
   clear hK K hw4
   try simp only [Act.put, nm]
   obtain ⟨⟨e0, e1, e2, e3⟩, ⟨g0, g1, g2, g3⟩⟩ := cells4 (rowX (HXL.out.trans HX3.out) HR2.out)
   refine tkH 8 ?_ ?_ ?_
   rotate_left
   · intro V hSw; (try dsimp only at hSw); obtain ⟨u0, u1, u2, u3⟩ := hSw; go_simp; first | done | with_reducible rfl
   try simp only [Act.put, nm]
   refine rdH 9 (fun K hK => ?_)
   go_simp
   refine hK.out _ _ (HMT.out _ HX3.out) (fun hHeld3 => ?_)
   clear hK K
   try simp only [Act.put, nm]
   refine tkH 10 ?_ ?_ ?_
   rotate_left
   · intro V hSw; (try dsimp only at hSw); obtain ⟨u0, u1, u2, u3⟩ := hSw; go_simp; first | done | with_reducible rfl
   try simp only [Act.put, nm]
   refine wpAnyH_done (by kernel_rfl) ?_ _
   go_wp2_with fail
   have hrow : ((((w4.setCell ⟨B + 1 + 1, 0, none⟩ (.int .i64 g.1)).setCell ⟨B + 1 + 1, 1, none⟩ (.int .i64 g.2)).setCell ⟨B + 1 + 1, 2, none⟩ (.int .i64 la.1)).setCell ⟨B + 1 + 1, 3, none⟩ (.int .i64 la.2)).heap[B + 1 + 1]? = some (.cells #[.int .i64 g.1, .int .i64 g.2, .int .i64 la.1, .int .i64 la.2] 26 (0, 0)) := setCell_row (setCell_row (setCell_row (setCell_row (rowX (HXL.out.trans HX3.out) HR2.out) 0 _) 1 _) 2 _) 3 _
   have hxe := HHH.out w4 ((HX2.out.trans HXL.out).trans HX3.out)
   (try simp only [Exit.inBlock, Exit.then])
   refine bodyPost_ret (v := .tuple #[.agg #[.int .i64 g.1, .int .i64 g.2, .int .i64 la.1, .int .i64 la.2], .bool v2]) ?_ rfl ⟨rfl, hxe⟩
   rw [results_cell_tmp rfl]
   show ((asAddr (.pointer (some ⟨B + 1 + 1, 0, none⟩))).run _ _).andThen _ = _
   simp only [asAddr, Sem.run_pure, Result.andThen_ok, run_loadVar_row _ _ _ 26 _ _ _ hrow Tryz.underlying26 rfl (by kernel_rfl)]
   rfl
end Go.Proofs.YtdoeejhdenifpaaGreatDoor
