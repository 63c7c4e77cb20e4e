import Derived.Test.YtideclfpbpjebaaGreatDoorB16
import Derived.Test.YtideclfpbpjebaaGreatDoorB2
import Derived.Deep.CutBlock
import Derived.Deep.DeepCutAuto
namespace Go.Proofs.YtideclfpbpjebaaGreatDoor
section
open Go.RowKit Go.Sort Go.Maps Go.Shelf

theorem rowX {w w' : World} (hx : Xt w w') {b : Nat} {o : Obj} (h : w.heap[b]? = some o) : w'.heap[b]? = some o := (hx.block b (Array.getElem?_eq_some_iff.1 h).1).trans h
theorem cells2 {w : World} {b : Nat} {u v : Value} {T : TypeId} (h : w.heap[b]? = some (.cells #[u, v] T (0, 0))) : w.cell? ⟨b, 0, none⟩ = some u ∧ w.cell? ⟨b, 1, none⟩ = some v ∧ w.frozen? ⟨b, 0, none⟩ = false ∧ w.frozen? ⟨b, 1, none⟩ = false := by
  refine ⟨?_, ?_, ?_, ?_⟩ <;> simp [World.cell?, World.frozen?, h]
theorem one_row {w : World} {b : Nat} {u : Value} {T : TypeId} (h : w.heap[b]? = some (.cells #[u] T (0, 0))) : w.cell? ⟨b, 0, none⟩ = some u ∧ w.frozen? ⟨b, 0, none⟩ = false := by simp [World.cell?, World.frozen?, h]
theorem cells4 {w : World} {b : Nat} {u v x y : Value} {T : TypeId} (h : w.heap[b]? = some (.cells #[u, v, x, y] T (0, 0))) : (w.cell? ⟨b, 0, none⟩ = some u ∧ w.cell? ⟨b, 1, none⟩ = some v ∧ w.cell? ⟨b, 2, none⟩ = some x ∧ w.cell? ⟨b, 3, none⟩ = some y) ∧ w.frozen? ⟨b, 0, none⟩ = false ∧ w.frozen? ⟨b, 1, none⟩ = false ∧ w.frozen? ⟨b, 2, none⟩ = false ∧ w.frozen? ⟨b, 3, none⟩ = false := by
  refine ⟨⟨?_, ?_, ?_, ?_⟩, ?_, ?_, ?_, ?_⟩ <;> simp [World.cell?, World.frozen?, h]
theorem grownBy_far {a b c : World} {m : Nat} {row : Option Nat} (h : a.grownBy b (some m)) (k : b.grownBy c row) (hr : ∀ r, row = some r → a.heap.size ≤ r) : a.grownBy c (some m) :=
  ⟨k.os.trans h.os, k.tape.trans h.tape, k.output.trans h.output, Nat.le_trans h.size k.size, fun i hi hn => (k.block i (Nat.lt_of_lt_of_le hi h.size) (fun e => by have := hr i e.symm; omega)).trans (h.block i hi hn)⟩
theorem grownBy_two {a b c : World} {m : Nat} (h : a.grownBy b (some m)) (k : b.grownBy c (some m)) : a.grownBy c (some m) :=
  ⟨k.os.trans h.os, k.tape.trans h.tape, k.output.trans h.output, Nat.le_trans h.size k.size, fun i hi hn => (k.block i (Nat.lt_of_lt_of_le hi h.size) hn).trans (h.block i hi hn)⟩
/-- What an owner's writing turns: blocks with the property alone. -/
structure Wr (S : Nat → Prop) (w w' : World) : Prop where
  os : w'.os = w.os
  tape : w'.tape = w.tape
  output : w'.output = w.output
  size : w.heap.size ≤ w'.heap.size
  block : ∀ b, b < w.heap.size → ¬ S b → w'.heap[b]? = w.heap[b]?
theorem Wr.refl (S : Nat → Prop) (w : World) : Wr S w w := ⟨rfl, rfl, rfl, Nat.le_refl _, fun _ _ _ => rfl⟩
theorem Wr.trans {S : Nat → Prop} {a b c : World} (h : Wr S a b) (k : Wr S b c) : Wr S a c :=
  ⟨k.os.trans h.os, k.tape.trans h.tape, k.output.trans h.output, Nat.le_trans h.size k.size, fun i hi hn => (k.block i (Nat.lt_of_lt_of_le hi h.size) hn).trans (h.block i hi hn)⟩
theorem Wr.of_xt {S : Nat → Prop} {w w' : World} (h : Xt w w') : Wr S w w' := ⟨h.os, h.tape, h.output, h.size, fun b hb _ => h.block b hb⟩
theorem Wr.cell {S : Nat → Prop} {w : World} {b o : Nat} (v : Value) (hb : S b) : Wr S w (w.setCell ⟨b, o, none⟩ v) := ⟨rfl, rfl, rfl, by simp, fun j _ hn => Below.heap_setCell _ _ _ _ (fun e => hn (e ▸ hb))⟩
theorem load_bool6 (w : World) (b : Nat) (u : Value) (h : w.cell? ⟨b, 0, none⟩ = some u) : (loadVar 4 ⟨b, 0, none⟩).run Tryz.prog w = .ok u w := by go_simp
theorem results_one6 {fn : Func} {p : Tmp} {t1 : TypeId} (h : fn.results = #[.cell p t1]) (tmps : Array Value) (w : World) (b1 : Nat) (u : Value) (hp : tmps.getD p undef = .pointer (some ⟨b1, 0, none⟩))
    (l1 : (loadVar t1 ⟨b1, 0, none⟩).run Tryz.prog w = .ok u w) : (results fn tmps).run Tryz.prog w = .ok u w := by
  have hp' : tmps[p]?.getD undef = .pointer (some ⟨b1, 0, none⟩) := by simpa using hp
  simp [results, h, hp', asAddr, l1]
/-- What holds while something is counted in a cell. -/
structure LJ {α : Type} (W0 : World) (R : Nat) (f : List α → Int) (pre : List α) (W : World) : Prop where
  grown : W0.grownBy W (some R)
  cnt : W.heap[R]? = some (.cells #[.int .i64 (f pre)] 3 (0, 0))
theorem LJ.own {α : Type} {W0 : World} {R : Nat} {f : List α → Int} : OwnFrom W0.heap.size (fun pre W => LJ W0 R f pre W) := fun s X Y row hs hg hr => by
  obtain ⟨h1, h2⟩ := hs
  exact ⟨grownBy_far h1 hg (fun r e => (hr r e).1), rowCells_own h2 hg (fun r e => (hr r e).2)⟩
end
section
open Go.RowKit Go.Sort Go.Maps Go.Shelf Go.MapKept
attribute [local go_sem] Oper.semAt_some

/-- A grid of the document: its list is never written again. -/
structure DG (w : World) (rb : Nat) (l : List PI) : Prop where
  obj : ∃ v, w.heap[rb]? = some (.cells #[v] 31 (0, 0)) ∧ PutsIn w v l
  sorted : SortedM (pis l)
  many : l.length ≤ 4096
  small : ∀ x ∈ l, smallT x.c.t
theorem DG.cell {w : World} {rb : Nat} {l : List PI} (h : DG w rb l) : ∃ v, w.cell? ⟨rb, 0, none⟩ = some v ∧ PutsIn w v l :=
  let ⟨v, h1, h2⟩ := h.obj; ⟨v, by simp [World.cell?, h1], h2⟩
theorem DG.lt {w : World} {rb : Nat} {l : List PI} (h : DG w rb l) : rb < w.heap.size := let ⟨_, h1, _⟩ := h.obj; (Array.getElem?_eq_some_iff.1 h1).1
theorem DG.xt {w w' : World} {rb : Nat} {l : List PI} (h : DG w rb l) (hx : Xt w w') : DG w' rb l :=
  ⟨let ⟨v, h1, h2⟩ := h.obj; ⟨v, (hx.block _ h.lt).trans h1, h2.xt hx⟩, h.sorted, h.many, h.small⟩
/-- How many keys stand ahead; is the cell there? -/
structure PosR (a : Ad) (l : List PI) (lo : Nat) (is : Bool) : Prop where
  le : lo ≤ l.length
  ahead : ∀ (j : Nat) (x : PI), l[j]? = some x → (adLt x.a a = true ↔ j < lo)
  there : is = true ↔ ∃ x, l[lo]? = some x ∧ x.a = a
theorem pis_lt {l : List PI} (h : SortedM (pis l)) {i j : Nat} {x y : PI} (hx : l[i]? = some x) (hy : l[j]? = some y) (hij : i < j) : adLt x.a y.a = true := by
  have hp : l.Pairwise (fun x y => adLt x.a y.a = true) := by
    unfold SortedM pis at h
    rwa [List.pairwise_map] at h
  have hi := (List.getElem?_eq_some_iff.1 hx)
  have hj := (List.getElem?_eq_some_iff.1 hy)
  obtain ⟨i1, e1⟩ := hi
  obtain ⟨j1, e2⟩ := hj
  have := List.pairwise_iff_getElem.1 hp i j i1 j1 hij
  rw [e1, e2] at this
  exact this
theorem adLt_ord (x a : Ad) : (orI (cmpI x.2 a.2) (cmpI x.1 a.1) < 0) ↔ adLt x a = true := by
  simp only [adLt, orI, cmpI, Bool.or_eq_true, Bool.and_eq_true, decide_eq_true_eq]
  repeat' split
  all_goals omega
theorem adLt_tr {a b c : Ad} (h : adLt a b = true) (k : adLt b c = true) : adLt a c = true := by
  simp only [adLt, Bool.or_eq_true, Bool.and_eq_true, decide_eq_true_eq] at h k ⊢
  omega
/-- One look halves what is left. -/
theorem pos_step {l : List PI} (h : SortedM (pis l)) {a : Ad} {k : Nat} {x : PI} (hx : l[k]? = some x) :
    (adLt x.a a = true → ∀ (j : Nat) (y : PI), l[j]? = some y → j < k + 1 → adLt y.a a = true) ∧ (¬ adLt x.a a = true → ∀ (j : Nat) (y : PI), l[j]? = some y → k ≤ j → ¬ adLt y.a a = true) := by
  constructor
  · intro hl j y hy hj
    by_cases e : j = k
    · subst e; rw [hx] at hy; cases hy; exact hl
    · exact adLt_tr (pis_lt h hy hx (by omega)) hl
  · intro hl j y hy hj hc
    by_cases e : j = k
    · subst e; rw [hx] at hy; cases hy; exact hl hc
    · exact hl (adLt_tr (pis_lt h hx hy (by omega)) hc)
def PlaceR (a : Ad) (l : List PI) (w : World) (e : Ending) (w' : World) : Prop := ∃ (lo : Nat) (is : Bool), e = .returned (.tuple #[.int .i64 lo, .bool is]) ∧ PosR a l lo is ∧ Xt w w'
theorem is_there {x : PI} {a : Ad} : (decide (x.a.1 = a.1) && decide (x.a.2 = a.2)) = true ↔ ∃ y, some x = some y ∧ y.a = a := by
  rw [Bool.and_eq_true, decide_eq_true_eq, decide_eq_true_eq]
  constructor
  · exact fun h => ⟨x, rfl, Prod.ext h.1 h.2⟩
  · rintro ⟨y, e, rfl⟩
    cases e
    exact ⟨rfl, rfl⟩
set_option maxRecDepth 100000 in
set_option maxHeartbeats 4000000 in
theorem place17_any (rb : Nat) (l : List PI) (a : Ad) (w : World) (h : DG w rb l) :
    Calls Tryz.prog 44 #[.pointer (some ⟨rb, 0, none⟩), .agg #[.int .i64 a.1, .int .i64 a.2]] w (PlaceR a l w) := by
  obtain ⟨v, hc, hP⟩ := h.cell
  obtain ⟨la, lc, rfl, hlc, hlc2⟩ := hP.shape
  have hm := h.many
  have HS := Lib.hid h.sorted
  obtain ⟨B, hB⟩ : ∃ B, w.heap.size = B := ⟨_, rfl⟩
  obtain ⟨w0, hw0⟩ : ∃ w0, w.alloc (.cells #[.int .i64 a.1, .int .i64 a.2] 36) = w0 := ⟨_, rfl⟩
  have HX0 : Hid (Xt w w0) := by unfold Hid; rw [← hw0]; exact (Xt.refl _).alloc _
  have HR0 : Hid (w0.heap[B]? = some (.cells #[.int .i64 a.1, .int .i64 a.2] 36 (0, 0))) := by unfold Hid; rw [← hw0, ← hB]; exact (MapKept.heap_alloc w _).1
  have HP := Lib.hid (hP.xt HX0.out)
  have HC := Lib.hid (HX0.out.cellsIn _ _ _ hc)
  have hc0 := HC.out
  clear h hc hP
  go_enter Tryz.func44, Tryz.ntmps44
  go_wp2_with fail
  go_loopw [6, 7, 8] (fun s6 s7 s8 wr => ∃ lo hi : Nat, lo ≤ hi ∧ hi ≤ l.length ∧ s6 = .int .i64 lo ∧ s7 = .int .i64 hi ∧ Hid (∀ (j : Nat) (x : PI), l[j]? = some x → j < lo → adLt x.a a = true) ∧ Hid (∀ (j : Nat) (x : PI), l[j]? = some x → hi ≤ j → ¬ adLt x.a a = true) ∧ Hid (Xt w0 wr)) (fun s6 s7 _ _ => (intOf s7 - intOf s6).toNat)
  case atStart => exact ⟨0, l.length, by omega, by omega, rfl, rfl, (fun j x _ hj => by omega), (fun j x hx hj => by have := (List.getElem?_eq_some_iff.1 hx).1; omega), Xt.refl _⟩
  case round =>
    obtain ⟨lo, hi, hlh, hhl, rfl, rfl, HLO, HHI, HX⟩ := hrel
    by_cases hlt : lo < hi
    · obtain ⟨k, hk⟩ : ∃ k, (lo + hi) / 2 = k := ⟨_, rfl⟩
      have hkl : k < l.length := by omega
      have hadd : IntKind.i64.wrap ((lo : Int) + (hi : Int)) = ((lo + hi : Nat) : Int) := by rw [IntKind.wrap_i64]; omega
      have hquo : IntKind.i64.wrap (Int.tdiv ((lo + hi : Nat) : Int) 2) = (k : Int) := by
        rw [← hk, Int.tdiv_eq_ediv_of_nonneg (by omega), IntKind.wrap_i64]; omega
      have hb1 : ((lo : Int) < (hi : Int)) := by omega
      have hk2 : ((lo : Int) + (hi : Int)) / 2 = (k : Int) := by omega
      obtain ⟨x, hx⟩ : ∃ x, l[k]? = some x := ⟨l[k], List.getElem?_eq_getElem hkl⟩
      obtain ⟨b, off, rfl, q0, q1, _, _⟩ := HP.out.at hx
      obtain ⟨ov, hov⟩ : ∃ o, orI (cmpI x.a.2 a.2) (cmpI x.a.1 a.1) = o := ⟨_, rfl⟩
      have HO := Lib.hid (fun V => order10_any x.a.1 x.a.2 a.1 a.2 V)
      rw [hov] at HO
      have hord := adLt_ord x.a a
      rw [hov] at hord
      have HORD := Lib.hid hord
      have HX5 := Lib.hid hx
      have hkc : (k : Int) < (l.length : Int) := by omega
      have HF : Hid (∀ V, Xt wr V → V.cell? ⟨rb, 0, none⟩ = some (.slice (some ⟨b, off, none⟩) l.length lc) ∧ V.cell? ⟨b, off + k * 23, none⟩ = some (.int .i64 x.a.1) ∧ V.cell? ⟨b, off + k * 23 + 1, none⟩ = some (.int .i64 x.a.2) ∧ V.cell? ⟨B, 0, none⟩ = some (.int .i64 a.1) ∧ V.cell? ⟨B, 1, none⟩ = some (.int .i64 a.2)) := Lib.hid fun V hV => by
        have hc := (HX.out.trans hV).cellsIn
        obtain ⟨u0, u1, _, _⟩ := cells2 (rowX (HX.out.trans hV) HR0.out)
        exact ⟨hc _ _ _ HC.out, hc _ _ _ q0, hc _ _ _ q1, u0, u1⟩
      clear hov hord hx q0 q1 hk
      go_upto_region 5 with fail
      try simp only [hk2]
      have HXD : Hid (Xt wr wr.drew) := (Xt.refl wr).drew
      refine wp_region_held_drew (S := fun V => Xt wr V) (by kernel_rfl) HXD.out (fun hHeld => ?_)
      refine wpAnyH_take (i := 0) (oi := _) (v := ?_) rfl (by kernel_rfl) (by kernel_rfl) (by kernel_rfl) (fun _ _ _ h => h) (Or.inl ⟨by rfl, ?_⟩) (by assumption) ?_
      rotate_left
      · intro V hSw; obtain ⟨u0, u1, u2, u3, u4⟩ := HF.out V hSw; go_simp; first | done | with_reducible rfl
      try simp only [Act.put, List.getElem_toArray, List.getElem_cons_zero, List.setIfInBounds_toArray, List.set_cons_zero, List.set_cons_succ]
      refine wpAnyH_take (i := 1) (oi := _) (v := ?_) rfl (by kernel_rfl) (by kernel_rfl) (by kernel_rfl) (fun _ _ _ h => h) (Or.inl ⟨by rfl, ?_⟩) (by assumption) ?_
      rotate_left
      · intro V hSw; obtain ⟨u0, u1, u2, u3, u4⟩ := HF.out V hSw; go_simp; first | done | with_reducible rfl
      try simp only [Act.put, List.getElem_toArray, List.getElem_cons_zero, List.getElem_cons_succ, List.setIfInBounds_toArray, List.set_cons_zero, List.set_cons_succ]
      refine wpAnyH_take (i := 2) (oi := _) (v := ?_) rfl (by kernel_rfl) (by kernel_rfl) (by kernel_rfl) (fun _ _ _ h => h) (Or.inl ⟨by rfl, ?_⟩) (by assumption) ?_
      rotate_left
      · intro V hSw; obtain ⟨u0, u1, u2, u3, u4⟩ := HF.out V hSw; go_simp; first | done | with_reducible rfl
      try simp only [Act.put, List.getElem_toArray, List.getElem_cons_zero, List.getElem_cons_succ, List.setIfInBounds_toArray, List.set_cons_zero, List.set_cons_succ]
      refine wpAnyH_take (i := 3) (oi := _) (v := ?_) rfl (by kernel_rfl) (by kernel_rfl) (by kernel_rfl) (fun _ _ _ h => h) (Or.inl ⟨by rfl, ?_⟩) (by assumption) ?_
      rotate_left
      · intro V hSw; obtain ⟨u0, u1, u2, u3, u4⟩ := HF.out V hSw; go_simp; first | done | with_reducible rfl
      try simp only [Act.put, List.getElem_toArray, List.getElem_cons_zero, List.getElem_cons_succ, List.setIfInBounds_toArray, List.set_cons_zero, List.set_cons_succ]
      refine wpAnyH_take (i := 4) (oi := _) (v := ?_) rfl (by kernel_rfl) (by kernel_rfl) (by kernel_rfl) (fun _ _ _ h => h) (Or.inl ⟨by rfl, ?_⟩) (by assumption) ?_
      rotate_left
      · intro V hSw; obtain ⟨u0, u1, u2, u3, u4⟩ := HF.out V hSw; go_simp; first | done | with_reducible rfl
      try simp only [Act.put, List.getElem_toArray, List.getElem_cons_zero, List.getElem_cons_succ, List.setIfInBounds_toArray, List.set_cons_zero, List.set_cons_succ]
      refine wpAnyH_take (i := 5) (oi := _) (v := ?_) rfl (by kernel_rfl) (by kernel_rfl) (by kernel_rfl) (fun _ _ _ h => h) (Or.inl ⟨by rfl, ?_⟩) (by assumption) ?_
      rotate_left
      · intro V hSw; obtain ⟨u0, u1, u2, u3, u4⟩ := HF.out V hSw; go_simp; first | done | with_reducible rfl
      try simp only [Act.put, List.getElem_toArray, List.getElem_cons_zero, List.getElem_cons_succ, List.setIfInBounds_toArray, List.set_cons_zero, List.set_cons_succ]
      refine wpAnyH_take (i := 6) (oi := _) (v := ?_) rfl (by kernel_rfl) (by kernel_rfl) (by kernel_rfl) (fun _ _ _ h => h) (Or.inl ⟨by rfl, ?_⟩) (by assumption) ?_
      rotate_left
      · intro V hSw; obtain ⟨u0, u1, u2, u3, u4⟩ := HF.out V hSw; go_simp; first | done | with_reducible rfl
      try simp only [Act.put, List.getElem_toArray, List.getElem_cons_zero, List.getElem_cons_succ, List.setIfInBounds_toArray, List.set_cons_zero, List.set_cons_succ]
      refine wpAnyH_take (i := 7) (oi := _) (v := ?_) rfl (by kernel_rfl) (by kernel_rfl) (by kernel_rfl) (fun _ _ _ h => h) (Or.inl ⟨by rfl, ?_⟩) (by assumption) ?_
      rotate_left
      · intro V hSw; obtain ⟨u0, u1, u2, u3, u4⟩ := HF.out V hSw; go_simp; first | done | with_reducible rfl
      try simp only [Act.put, List.getElem_toArray, List.getElem_cons_zero, List.getElem_cons_succ, List.setIfInBounds_toArray, List.set_cons_zero, List.set_cons_succ]
      refine wpAnyH_take (i := 8) (oi := _) (v := ?_) rfl (by kernel_rfl) (by kernel_rfl) (by kernel_rfl) (fun _ _ _ h => h) (Or.inl ⟨by rfl, ?_⟩) (by assumption) ?_
      rotate_left
      · intro V hSw; obtain ⟨u0, u1, u2, u3, u4⟩ := HF.out V hSw; go_simp; first | done | with_reducible rfl
      try simp only [Act.put, List.getElem_toArray, List.getElem_cons_zero, List.getElem_cons_succ, List.setIfInBounds_toArray, List.set_cons_zero, List.set_cons_succ]
      refine wpAnyH_ready (rs := [9]) (by kernel_rfl) (by simp) ?_
      refine AllReadyH.cons (o := _) rfl (fun K hK => ?_) AllReadyH.nil
      go_simp
      refine (HO.out _).mono ?_
      rintro e w1 ⟨rfl, hg1⟩
      replace HXD := Lib.hid (HXD.out.trans hg1.xt)
      refine hK.out _ _ HXD.out (fun hHe => ?_)
      clear hK K hg1
      try simp only [Act.put, List.getElem_toArray, List.getElem_cons_zero, List.getElem_cons_succ, List.setIfInBounds_toArray, List.set_cons_zero, List.set_cons_succ]
      by_cases hl : adLt x.a a = true
      · have hb2 : ov < 0 := HORD.out.2 hl
        have HL := Lib.hid hl
        clear hl
        refine wpAnyH_take (i := 10) (oi := _) (v := ?_) rfl (by kernel_rfl) (by kernel_rfl) (by kernel_rfl) (fun _ _ _ h => h) (Or.inl ⟨by rfl, ?_⟩) (by assumption) ?_
        rotate_left
        · intro V hSw; obtain ⟨u0, u1, u2, u3, u4⟩ := HF.out V hSw; go_simp; first | done | with_reducible rfl
        try simp only [Act.put, List.getElem_toArray, List.getElem_cons_zero, List.getElem_cons_succ, List.setIfInBounds_toArray, List.set_cons_zero, List.set_cons_succ]
        refine wpAnyH_done (by kernel_rfl) ?_ _
        go_wp2_with fail
        go_roundw
        case rel => exact ⟨k + 1, hi, by omega, by omega, by simp, rfl, (fun j y hy hj => (pos_step HS.out HX5.out).1 HL.out j y hy hj), HHI.out, HX.out.trans HXD.out⟩
        case measure => simp [intOf]; omega
      · have hb2 : ¬ ov < 0 := fun h => hl (HORD.out.1 h)
        have HL := Lib.hid hl
        clear hl
        refine wpAnyH_take (i := 10) (oi := _) (v := ?_) rfl (by kernel_rfl) (by kernel_rfl) (by kernel_rfl) (fun _ _ _ h => h) (Or.inl ⟨by rfl, ?_⟩) (by assumption) ?_
        rotate_left
        · intro V hSw; obtain ⟨u0, u1, u2, u3, u4⟩ := HF.out V hSw; go_simp; first | done | with_reducible rfl
        try simp only [Act.put, List.getElem_toArray, List.getElem_cons_zero, List.getElem_cons_succ, List.setIfInBounds_toArray, List.set_cons_zero, List.set_cons_succ]
        refine wpAnyH_done (by kernel_rfl) ?_ _
        go_wp2_with fail
        go_roundw
        case rel => exact ⟨lo, k, by omega, by omega, rfl, by simp, HLO.out, (fun j y hy hj => (pos_step HS.out HX5.out).2 HL.out j y hy hj), HX.out.trans HXD.out⟩
        case measure => simp [intOf]; omega
    · have hb1 : ¬ ((lo : Int) < (hi : Int)) := by omega
      obtain rfl : lo = hi := by omega
      have hah : ∀ (j : Nat) (x : PI), l[j]? = some x → (adLt x.a a = true ↔ j < lo) := fun j x hx => ⟨fun h => by
        by_cases hj : j < lo
        · exact hj
        · exact absurd h (HHI.out j x hx (by omega)), fun h => HLO.out j x hx h⟩
      have HAH := Lib.hid hah
      clear hah
      by_cases hln : lo < l.length
      · have hb2 : ((lo : Int) < (l.length : Int)) := by omega
        obtain ⟨x, hx⟩ : ∃ x, l[lo]? = some x := ⟨l[lo], List.getElem?_eq_getElem hln⟩
        obtain ⟨b, off, rfl, q0, q1, _, _⟩ := HP.out.at hx
        have HX5 := Lib.hid hx
        have HF : Hid (∀ V, Xt wr V → V.cell? ⟨rb, 0, none⟩ = some (.slice (some ⟨b, off, none⟩) l.length lc) ∧ V.cell? ⟨b, off + lo * 23, none⟩ = some (.int .i64 x.a.1) ∧ V.cell? ⟨b, off + lo * 23 + 1, none⟩ = some (.int .i64 x.a.2) ∧ V.cell? ⟨B, 0, none⟩ = some (.int .i64 a.1) ∧ V.cell? ⟨B, 1, none⟩ = some (.int .i64 a.2)) := Lib.hid fun V hV => by
          have hc := (HX.out.trans hV).cellsIn
          obtain ⟨u0, u1, _, _⟩ := cells2 (rowX (HX.out.trans hV) HR0.out)
          exact ⟨hc _ _ _ HC.out, hc _ _ _ q0, hc _ _ _ q1, u0, u1⟩
        clear hx q0 q1
        go_upto_region 8 with fail
        have HXD : Hid (Xt wr wr.drew) := (Xt.refl wr).drew
        refine wp_region_held_drew (S := fun V => Xt wr V) (by kernel_rfl) HXD.out (fun hHeld => ?_)
        refine wpAnyH_take (i := 0) (oi := _) (v := ?_) rfl (by kernel_rfl) (by kernel_rfl) (by kernel_rfl) (fun _ _ _ h => h) (Or.inl ⟨by rfl, ?_⟩) (by assumption) ?_
        rotate_left
        · intro V hSw; obtain ⟨u0, u1, u2, u3, u4⟩ := HF.out V hSw; go_simp; first | done | with_reducible rfl
        try simp only [Act.put, List.getElem_toArray, List.getElem_cons_zero, List.setIfInBounds_toArray, List.set_cons_zero, List.set_cons_succ]
        refine wpAnyH_take (i := 1) (oi := _) (v := ?_) rfl (by kernel_rfl) (by kernel_rfl) (by kernel_rfl) (fun _ _ _ h => h) (Or.inl ⟨by rfl, ?_⟩) (by assumption) ?_
        rotate_left
        · intro V hSw; obtain ⟨u0, u1, u2, u3, u4⟩ := HF.out V hSw; go_simp; first | done | with_reducible rfl
        try simp only [Act.put, List.getElem_toArray, List.getElem_cons_zero, List.getElem_cons_succ, List.setIfInBounds_toArray, List.set_cons_zero, List.set_cons_succ]
        refine wpAnyH_take (i := 2) (oi := _) (v := ?_) rfl (by kernel_rfl) (by kernel_rfl) (by kernel_rfl) (fun _ _ _ h => h) (Or.inl ⟨by rfl, ?_⟩) (by assumption) ?_
        rotate_left
        · intro V hSw; obtain ⟨u0, u1, u2, u3, u4⟩ := HF.out V hSw; go_simp; first | done | with_reducible rfl
        try simp only [Act.put, List.getElem_toArray, List.getElem_cons_zero, List.getElem_cons_succ, List.setIfInBounds_toArray, List.set_cons_zero, List.set_cons_succ]
        refine wpAnyH_take (i := 3) (oi := _) (v := ?_) rfl (by kernel_rfl) (by kernel_rfl) (by kernel_rfl) (fun _ _ _ h => h) (Or.inl ⟨by rfl, ?_⟩) (by assumption) ?_
        rotate_left
        · intro V hSw; obtain ⟨u0, u1, u2, u3, u4⟩ := HF.out V hSw; go_simp; first | done | with_reducible rfl
        try simp only [Act.put, List.getElem_toArray, List.getElem_cons_zero, List.getElem_cons_succ, List.setIfInBounds_toArray, List.set_cons_zero, List.set_cons_succ]
        refine wpAnyH_take (i := 4) (oi := _) (v := ?_) rfl (by kernel_rfl) (by kernel_rfl) (by kernel_rfl) (fun _ _ _ h => h) (Or.inl ⟨by rfl, ?_⟩) (by assumption) ?_
        rotate_left
        · intro V hSw; obtain ⟨u0, u1, u2, u3, u4⟩ := HF.out V hSw; go_simp; first | done | with_reducible rfl
        try simp only [Act.put, List.getElem_toArray, List.getElem_cons_zero, List.getElem_cons_succ, List.setIfInBounds_toArray, List.set_cons_zero, List.set_cons_succ]
        refine wpAnyH_take (i := 5) (oi := _) (v := ?_) rfl (by kernel_rfl) (by kernel_rfl) (by kernel_rfl) (fun _ _ _ h => h) (Or.inl ⟨by rfl, ?_⟩) (by assumption) ?_
        rotate_left
        · intro V hSw; obtain ⟨u0, u1, u2, u3, u4⟩ := HF.out V hSw; go_simp; first | done | with_reducible rfl
        try simp only [Act.put, List.getElem_toArray, List.getElem_cons_zero, List.getElem_cons_succ, List.setIfInBounds_toArray, List.set_cons_zero, List.set_cons_succ]
        refine wpAnyH_take (i := 6) (oi := _) (v := ?_) rfl (by kernel_rfl) (by kernel_rfl) (by kernel_rfl) (fun _ _ _ h => h) (Or.inl ⟨by rfl, ?_⟩) (by assumption) ?_
        rotate_left
        · intro V hSw; obtain ⟨u0, u1, u2, u3, u4⟩ := HF.out V hSw; go_simp; first | done | with_reducible rfl
        try simp only [Act.put, List.getElem_toArray, List.getElem_cons_zero, List.getElem_cons_succ, List.setIfInBounds_toArray, List.set_cons_zero, List.set_cons_succ]
        refine wpAnyH_take (i := 7) (oi := _) (v := ?_) rfl (by kernel_rfl) (by kernel_rfl) (by kernel_rfl) (fun _ _ _ h => h) (Or.inl ⟨by rfl, ?_⟩) (by assumption) ?_
        rotate_left
        · intro V hSw; obtain ⟨u0, u1, u2, u3, u4⟩ := HF.out V hSw; go_simp; first | done | with_reducible rfl
        try simp only [Act.put, List.getElem_toArray, List.getElem_cons_zero, List.getElem_cons_succ, List.setIfInBounds_toArray, List.set_cons_zero, List.set_cons_succ]
        refine wpAnyH_take (i := 8) (oi := _) (v := ?_) rfl (by kernel_rfl) (by kernel_rfl) (by kernel_rfl) (fun _ _ _ h => h) (Or.inl ⟨by rfl, ?_⟩) (by assumption) ?_
        rotate_left
        · intro V hSw; obtain ⟨u0, u1, u2, u3, u4⟩ := HF.out V hSw; go_simp; first | done | with_reducible rfl
        try simp only [Act.put, List.getElem_toArray, List.getElem_cons_zero, List.getElem_cons_succ, List.setIfInBounds_toArray, List.set_cons_zero, List.set_cons_succ]
        refine wpAnyH_take (i := 9) (oi := _) (v := ?_) rfl (by kernel_rfl) (by kernel_rfl) (by kernel_rfl) (fun _ _ _ h => h) (Or.inl ⟨by rfl, ?_⟩) (by assumption) ?_
        rotate_left
        · intro V hSw; obtain ⟨u0, u1, u2, u3, u4⟩ := HF.out V hSw; go_simp; first | done | with_reducible rfl
        try simp only [Act.put, List.getElem_toArray, List.getElem_cons_zero, List.getElem_cons_succ, List.setIfInBounds_toArray, List.set_cons_zero, List.set_cons_succ]
        refine wpAnyH_take (i := 10) (oi := _) (v := ?_) rfl (by kernel_rfl) (by kernel_rfl) (by kernel_rfl) (fun _ _ _ h => h) (Or.inl ⟨by rfl, ?_⟩) (by assumption) ?_
        rotate_left
        · intro V hSw; obtain ⟨u0, u1, u2, u3, u4⟩ := HF.out V hSw; go_simp; first | done | with_reducible rfl
        try simp only [Act.put, List.getElem_toArray, List.getElem_cons_zero, List.getElem_cons_succ, List.setIfInBounds_toArray, List.set_cons_zero, List.set_cons_succ]
        refine wpAnyH_take (i := 11) (oi := _) (v := ?_) rfl (by kernel_rfl) (by kernel_rfl) (by kernel_rfl) (fun _ _ _ h => h) (Or.inl ⟨by rfl, ?_⟩) (by assumption) ?_
        rotate_left
        · intro V hSw; obtain ⟨u0, u1, u2, u3, u4⟩ := HF.out V hSw; go_simp; first | done | with_reducible rfl
        try simp only [Act.put, List.getElem_toArray, List.getElem_cons_zero, List.getElem_cons_succ, List.setIfInBounds_toArray, List.set_cons_zero, List.set_cons_succ]
        refine wpAnyH_take (i := 12) (oi := _) (v := ?_) rfl (by kernel_rfl) (by kernel_rfl) (by kernel_rfl) (fun _ _ _ h => h) (Or.inl ⟨by rfl, ?_⟩) (by assumption) ?_
        rotate_left
        · intro V hSw; obtain ⟨u0, u1, u2, u3, u4⟩ := HF.out V hSw; go_simp; first | done | with_reducible rfl
        try simp only [Act.put, List.getElem_toArray, List.getElem_cons_zero, List.getElem_cons_succ, List.setIfInBounds_toArray, List.set_cons_zero, List.set_cons_succ]
        refine wpAnyH_take (i := 13) (oi := _) (v := ?_) rfl (by kernel_rfl) (by kernel_rfl) (by kernel_rfl) (fun _ _ _ h => h) (Or.inl ⟨by rfl, ?_⟩) (by assumption) ?_
        rotate_left
        · intro V hSw; obtain ⟨u0, u1, u2, u3, u4⟩ := HF.out V hSw; go_simp; first | done | with_reducible rfl
        try simp only [Act.put, List.getElem_toArray, List.getElem_cons_zero, List.getElem_cons_succ, List.setIfInBounds_toArray, List.set_cons_zero, List.set_cons_succ]
        refine wpAnyH_take (i := 14) (oi := _) (v := ?_) rfl (by kernel_rfl) (by kernel_rfl) (by kernel_rfl) (fun _ _ _ h => h) (Or.inl ⟨by rfl, ?_⟩) (by assumption) ?_
        rotate_left
        · intro V hSw; obtain ⟨u0, u1, u2, u3, u4⟩ := HF.out V hSw; go_simp; first | done | with_reducible rfl
        try simp only [Act.put, List.getElem_toArray, List.getElem_cons_zero, List.getElem_cons_succ, List.setIfInBounds_toArray, List.set_cons_zero, List.set_cons_succ]
        refine wpAnyH_take (i := 15) (oi := _) (v := ?_) rfl (by kernel_rfl) (by kernel_rfl) (by kernel_rfl) (fun _ _ _ h => h) (Or.inl ⟨by rfl, ?_⟩) (by assumption) ?_
        rotate_left
        · intro V hSw; obtain ⟨u0, u1, u2, u3, u4⟩ := HF.out V hSw; go_simp; first | done | with_reducible rfl
        try simp only [Act.put, List.getElem_toArray, List.getElem_cons_zero, List.getElem_cons_succ, List.setIfInBounds_toArray, List.set_cons_zero, List.set_cons_succ]
        refine wpAnyH_take (i := 16) (oi := _) (v := ?_) rfl (by kernel_rfl) (by kernel_rfl) (by kernel_rfl) (fun _ _ _ h => h) (Or.inl ⟨by rfl, ?_⟩) (by assumption) ?_
        rotate_left
        · intro V hSw; obtain ⟨u0, u1, u2, u3, u4⟩ := HF.out V hSw; go_simp; first | done | with_reducible rfl
        try simp only [Act.put, List.getElem_toArray, List.getElem_cons_zero, List.getElem_cons_succ, List.setIfInBounds_toArray, List.set_cons_zero, List.set_cons_succ]
        refine wpAnyH_take (i := 17) (oi := _) (v := ?_) rfl (by kernel_rfl) (by kernel_rfl) (by kernel_rfl) (fun _ _ _ h => h) (Or.inl ⟨by rfl, ?_⟩) (by assumption) ?_
        rotate_left
        · intro V hSw; obtain ⟨u0, u1, u2, u3, u4⟩ := HF.out V hSw; go_simp; first | done | with_reducible rfl
        try simp only [Act.put, List.getElem_toArray, List.getElem_cons_zero, List.getElem_cons_succ, List.setIfInBounds_toArray, List.set_cons_zero, List.set_cons_succ]
        refine wpAnyH_take (i := 18) (oi := _) (v := .bool (decide (x.a.1 = a.1 ∧ x.a.2 = a.2))) rfl (by kernel_rfl) (by kernel_rfl) (by kernel_rfl) (fun _ _ _ h => h) (Or.inl ⟨by rfl, ?_⟩) (by assumption) ?_
        · intro V hSw; obtain ⟨u0, u1, u2, u3, u4⟩ := HF.out V hSw; go_simp; (by_cases h1 : x.a.1 = a.1 <;> by_cases h2 : x.a.2 = a.2 <;> simp [h1, h2])
        try simp only [Act.put, List.getElem_toArray, List.getElem_cons_zero, List.getElem_cons_succ, List.setIfInBounds_toArray, List.set_cons_zero, List.set_cons_succ]
        refine wpAnyH_take (i := 19) (oi := _) (v := ?_) rfl (by kernel_rfl) (by kernel_rfl) (by kernel_rfl) (fun _ _ _ h => h) (Or.inl ⟨by rfl, ?_⟩) (by assumption) ?_
        rotate_left
        · intro V hSw; obtain ⟨u0, u1, u2, u3, u4⟩ := HF.out V hSw; go_simp; first | done | with_reducible rfl
        try simp only [Act.put, List.getElem_toArray, List.getElem_cons_zero, List.getElem_cons_succ, List.setIfInBounds_toArray, List.set_cons_zero, List.set_cons_succ]
        refine wpAnyH_take (i := 20) (oi := _) (v := ?_) rfl (by kernel_rfl) (by kernel_rfl) (by kernel_rfl) (fun _ _ _ h => h) (Or.inl ⟨by rfl, ?_⟩) (by assumption) ?_
        rotate_left
        · intro V hSw; obtain ⟨u0, u1, u2, u3, u4⟩ := HF.out V hSw; go_simp; first | done | with_reducible rfl
        try simp only [Act.put, List.getElem_toArray, List.getElem_cons_zero, List.getElem_cons_succ, List.setIfInBounds_toArray, List.set_cons_zero, List.set_cons_succ]
        refine wpAnyH_take (i := 21) (oi := _) (v := ?_) rfl (by kernel_rfl) (by kernel_rfl) (by kernel_rfl) (fun _ _ _ h => h) (Or.inl ⟨by rfl, ?_⟩) (by assumption) ?_
        rotate_left
        · intro V hSw; obtain ⟨u0, u1, u2, u3, u4⟩ := HF.out V hSw; go_simp; first | done | with_reducible rfl
        try simp only [Act.put, List.getElem_toArray, List.getElem_cons_zero, List.getElem_cons_succ, List.setIfInBounds_toArray, List.set_cons_zero, List.set_cons_succ]
        refine wpAnyH_done (by kernel_rfl) ?_ _
        go_wp2_with fail
        refine bodyPost_ret (v := .tuple #[.int .i64 lo, .bool (decide (x.a.1 = a.1) && decide (x.a.2 = a.2))]) (by simp [results]) rfl ?_
        unfold PlaceR
        exact ⟨lo, _, rfl, ⟨by omega, HAH.out, by rw [HX5.out]; exact is_there⟩, (HX0.out.trans HX.out).trans HXD.out⟩
      · have hb2 : ¬ ((lo : Int) < (l.length : Int)) := by omega
        have HF : Hid (∀ V, Xt wr V → V.cell? ⟨rb, 0, none⟩ = some (.slice la l.length lc)) := Lib.hid fun V hV => (HX.out.trans hV).cellsIn _ _ _ HC.out
        go_upto_region 8 with fail
        have HXD : Hid (Xt wr wr.drew) := (Xt.refl wr).drew
        refine wp_region_held_drew (S := fun V => Xt wr V) (by kernel_rfl) HXD.out (fun hHeld => ?_)
        refine wpAnyH_take (i := 0) (oi := _) (v := ?_) rfl (by kernel_rfl) (by kernel_rfl) (by kernel_rfl) (fun _ _ _ h => h) (Or.inl ⟨by rfl, ?_⟩) (by assumption) ?_
        rotate_left
        · intro V hSw; have u0 := HF.out V hSw; go_simp; first | done | with_reducible rfl
        try simp only [Act.put, List.getElem_toArray, List.getElem_cons_zero, List.setIfInBounds_toArray, List.set_cons_zero, List.set_cons_succ]
        refine wpAnyH_take (i := 1) (oi := _) (v := ?_) rfl (by kernel_rfl) (by kernel_rfl) (by kernel_rfl) (fun _ _ _ h => h) (Or.inl ⟨by rfl, ?_⟩) (by assumption) ?_
        rotate_left
        · intro V hSw; have u0 := HF.out V hSw; go_simp; first | done | with_reducible rfl
        try simp only [Act.put, List.getElem_toArray, List.getElem_cons_zero, List.getElem_cons_succ, List.setIfInBounds_toArray, List.set_cons_zero, List.set_cons_succ]
        refine wpAnyH_take (i := 2) (oi := _) (v := ?_) rfl (by kernel_rfl) (by kernel_rfl) (by kernel_rfl) (fun _ _ _ h => h) (Or.inl ⟨by rfl, ?_⟩) (by assumption) ?_
        rotate_left
        · intro V hSw; have u0 := HF.out V hSw; go_simp; first | done | with_reducible rfl
        try simp only [Act.put, List.getElem_toArray, List.getElem_cons_zero, List.getElem_cons_succ, List.setIfInBounds_toArray, List.set_cons_zero, List.set_cons_succ]
        refine wpAnyH_take (i := 3) (oi := _) (v := ?_) rfl (by kernel_rfl) (by kernel_rfl) (by kernel_rfl) (fun _ _ _ h => h) (Or.inl ⟨by rfl, ?_⟩) (by assumption) ?_
        rotate_left
        · intro V hSw; have u0 := HF.out V hSw; go_simp; first | done | with_reducible rfl
        try simp only [Act.put, List.getElem_toArray, List.getElem_cons_zero, List.getElem_cons_succ, List.setIfInBounds_toArray, List.set_cons_zero, List.set_cons_succ]
        refine wpAnyH_take (i := 4) (oi := _) (v := ?_) rfl (by kernel_rfl) (by kernel_rfl) (by kernel_rfl) (fun _ _ _ h => h) (Or.inl ⟨by rfl, ?_⟩) (by assumption) ?_
        rotate_left
        · intro V hSw; have u0 := HF.out V hSw; go_simp; first | done | with_reducible rfl
        try simp only [Act.put, List.getElem_toArray, List.getElem_cons_zero, List.getElem_cons_succ, List.setIfInBounds_toArray, List.set_cons_zero, List.set_cons_succ]
        refine wpAnyH_take (i := 5) (oi := _) (v := ?_) rfl (by kernel_rfl) (by kernel_rfl) (by kernel_rfl) (fun _ _ _ h => h) (Or.inl ⟨by rfl, ?_⟩) (by assumption) ?_
        rotate_left
        · intro V hSw; have u0 := HF.out V hSw; go_simp; first | done | with_reducible rfl
        try simp only [Act.put, List.getElem_toArray, List.getElem_cons_zero, List.getElem_cons_succ, List.setIfInBounds_toArray, List.set_cons_zero, List.set_cons_succ]
        refine wpAnyH_take (i := 6) (oi := _) (v := ?_) rfl (by kernel_rfl) (by kernel_rfl) (by kernel_rfl) (fun _ _ _ h => h) (Or.inl ⟨by rfl, ?_⟩) (by assumption) ?_
        rotate_left
        · intro V hSw; have u0 := HF.out V hSw; go_simp; first | done | with_reducible rfl
        try simp only [Act.put, List.getElem_toArray, List.getElem_cons_zero, List.getElem_cons_succ, List.setIfInBounds_toArray, List.set_cons_zero, List.set_cons_succ]
        refine wpAnyH_take (i := 7) (oi := _) (v := ?_) rfl (by kernel_rfl) (by kernel_rfl) (by kernel_rfl) (fun _ _ _ h => h) (Or.inl ⟨by rfl, ?_⟩) (by assumption) ?_
        rotate_left
        · intro V hSw; have u0 := HF.out V hSw; go_simp; first | done | with_reducible rfl
        try simp only [Act.put, List.getElem_toArray, List.getElem_cons_zero, List.getElem_cons_succ, List.setIfInBounds_toArray, List.set_cons_zero, List.set_cons_succ]
        refine wpAnyH_take (i := 8) (oi := _) (v := ?_) rfl (by kernel_rfl) (by kernel_rfl) (by kernel_rfl) (fun _ _ _ h => h) (Or.inl ⟨by rfl, ?_⟩) (by assumption) ?_
        rotate_left
        · intro V hSw; have u0 := HF.out V hSw; go_simp; first | done | with_reducible rfl
        try simp only [Act.put, List.getElem_toArray, List.getElem_cons_zero, List.getElem_cons_succ, List.setIfInBounds_toArray, List.set_cons_zero, List.set_cons_succ]
        refine wpAnyH_take (i := 9) (oi := _) (v := undef) rfl (by kernel_rfl) (by kernel_rfl) (by kernel_rfl) (fun _ _ _ h => h) (Or.inr ⟨by rfl, rfl⟩) (by assumption) ?_
        try simp only [Act.put, List.getElem_toArray, List.getElem_cons_zero, List.getElem_cons_succ, List.setIfInBounds_toArray, List.set_cons_zero, List.set_cons_succ]
        refine wpAnyH_take (i := 10) (oi := _) (v := undef) rfl (by kernel_rfl) (by kernel_rfl) (by kernel_rfl) (fun _ _ _ h => h) (Or.inr ⟨by rfl, rfl⟩) (by assumption) ?_
        try simp only [Act.put, List.getElem_toArray, List.getElem_cons_zero, List.getElem_cons_succ, List.setIfInBounds_toArray, List.set_cons_zero, List.set_cons_succ]
        refine wpAnyH_take (i := 11) (oi := _) (v := undef) rfl (by kernel_rfl) (by kernel_rfl) (by kernel_rfl) (fun _ _ _ h => h) (Or.inr ⟨by rfl, rfl⟩) (by assumption) ?_
        try simp only [Act.put, List.getElem_toArray, List.getElem_cons_zero, List.getElem_cons_succ, List.setIfInBounds_toArray, List.set_cons_zero, List.set_cons_succ]
        refine wpAnyH_take (i := 12) (oi := _) (v := undef) rfl (by kernel_rfl) (by kernel_rfl) (by kernel_rfl) (fun _ _ _ h => h) (Or.inr ⟨by rfl, rfl⟩) (by assumption) ?_
        try simp only [Act.put, List.getElem_toArray, List.getElem_cons_zero, List.getElem_cons_succ, List.setIfInBounds_toArray, List.set_cons_zero, List.set_cons_succ]
        refine wpAnyH_take (i := 13) (oi := _) (v := undef) rfl (by kernel_rfl) (by kernel_rfl) (by kernel_rfl) (fun _ _ _ h => h) (Or.inr ⟨by rfl, rfl⟩) (by assumption) ?_
        try simp only [Act.put, List.getElem_toArray, List.getElem_cons_zero, List.getElem_cons_succ, List.setIfInBounds_toArray, List.set_cons_zero, List.set_cons_succ]
        refine wpAnyH_take (i := 14) (oi := _) (v := undef) rfl (by kernel_rfl) (by kernel_rfl) (by kernel_rfl) (fun _ _ _ h => h) (Or.inr ⟨by rfl, rfl⟩) (by assumption) ?_
        try simp only [Act.put, List.getElem_toArray, List.getElem_cons_zero, List.getElem_cons_succ, List.setIfInBounds_toArray, List.set_cons_zero, List.set_cons_succ]
        refine wpAnyH_take (i := 15) (oi := _) (v := undef) rfl (by kernel_rfl) (by kernel_rfl) (by kernel_rfl) (fun _ _ _ h => h) (Or.inr ⟨by rfl, rfl⟩) (by assumption) ?_
        try simp only [Act.put, List.getElem_toArray, List.getElem_cons_zero, List.getElem_cons_succ, List.setIfInBounds_toArray, List.set_cons_zero, List.set_cons_succ]
        refine wpAnyH_take (i := 16) (oi := _) (v := undef) rfl (by kernel_rfl) (by kernel_rfl) (by kernel_rfl) (fun _ _ _ h => h) (Or.inr ⟨by rfl, rfl⟩) (by assumption) ?_
        try simp only [Act.put, List.getElem_toArray, List.getElem_cons_zero, List.getElem_cons_succ, List.setIfInBounds_toArray, List.set_cons_zero, List.set_cons_succ]
        refine wpAnyH_take (i := 17) (oi := _) (v := undef) rfl (by kernel_rfl) (by kernel_rfl) (by kernel_rfl) (fun _ _ _ h => h) (Or.inr ⟨by rfl, rfl⟩) (by assumption) ?_
        try simp only [Act.put, List.getElem_toArray, List.getElem_cons_zero, List.getElem_cons_succ, List.setIfInBounds_toArray, List.set_cons_zero, List.set_cons_succ]
        refine wpAnyH_take (i := 18) (oi := _) (v := undef) rfl (by kernel_rfl) (by kernel_rfl) (by kernel_rfl) (fun _ _ _ h => h) (Or.inr ⟨by rfl, rfl⟩) (by assumption) ?_
        try simp only [Act.put, List.getElem_toArray, List.getElem_cons_zero, List.getElem_cons_succ, List.setIfInBounds_toArray, List.set_cons_zero, List.set_cons_succ]
        refine wpAnyH_take (i := 19) (oi := _) (v := ?_) rfl (by kernel_rfl) (by kernel_rfl) (by kernel_rfl) (fun _ _ _ h => h) (Or.inl ⟨by rfl, ?_⟩) (by assumption) ?_
        rotate_left
        · intro V hSw; have u0 := HF.out V hSw; go_simp; first | done | with_reducible rfl
        try simp only [Act.put, List.getElem_toArray, List.getElem_cons_zero, List.getElem_cons_succ, List.setIfInBounds_toArray, List.set_cons_zero, List.set_cons_succ]
        refine wpAnyH_take (i := 20) (oi := _) (v := ?_) rfl (by kernel_rfl) (by kernel_rfl) (by kernel_rfl) (fun _ _ _ h => h) (Or.inl ⟨by rfl, ?_⟩) (by assumption) ?_
        rotate_left
        · intro V hSw; have u0 := HF.out V hSw; go_simp; first | done | with_reducible rfl
        try simp only [Act.put, List.getElem_toArray, List.getElem_cons_zero, List.getElem_cons_succ, List.setIfInBounds_toArray, List.set_cons_zero, List.set_cons_succ]
        refine wpAnyH_take (i := 21) (oi := _) (v := ?_) rfl (by kernel_rfl) (by kernel_rfl) (by kernel_rfl) (fun _ _ _ h => h) (Or.inl ⟨by rfl, ?_⟩) (by assumption) ?_
        rotate_left
        · intro V hSw; have u0 := HF.out V hSw; go_simp; first | done | with_reducible rfl
        try simp only [Act.put, List.getElem_toArray, List.getElem_cons_zero, List.getElem_cons_succ, List.setIfInBounds_toArray, List.set_cons_zero, List.set_cons_succ]
        refine wpAnyH_done (by kernel_rfl) ?_ _
        go_wp2_with fail
        refine bodyPost_ret (v := .tuple #[.int .i64 lo, .bool false]) (by simp [results]) rfl ?_
        unfold PlaceR
        refine ⟨lo, false, rfl, ⟨by omega, HAH.out, ?_⟩, (HX0.out.trans HX.out).trans HXD.out⟩
        rw [List.getElem?_eq_none (by omega)]
        simp
theorem pis_take {l : List PI} {i : Nat} {x : PI} (hx : l[i]? = some x) : pis (l.take (i + 1)) = pis (l.take i) ++ [(x.a, x.c)] := by
  unfold pis
  rw [List.take_add_one, hx]
  simp
end
end Go.Proofs.YtideclfpbpjebaaGreatDoor
