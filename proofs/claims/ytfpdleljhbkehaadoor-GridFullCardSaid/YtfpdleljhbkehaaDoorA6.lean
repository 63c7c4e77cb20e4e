import Derived.Test.YtfpdleljhbkehaaDoorW34
namespace Go.Proofs.YtfpdleljhbkehaaDoor
open Go.RowKit Go.Sort

/-! ### how many cells a grid has -/
section
variable {α : Type}
theorem delM_none {a : Ad} {M : List (Ad × α)} (h : lkM a M = none) : delM a M = M := List.filter_eq_self.2 fun x hx => by have := lkM_none.1 h x hx; simp [this]
theorem delM_len {a : Ad} : ∀ {M : List (Ad × α)}, SortedM M → (lkM a M).isSome = true → (delM a M).length + 1 = M.length
  | [], _, h => by simp [lkM] at h
  | x :: r, hs, h => by
    obtain ⟨h1, h2⟩ := List.pairwise_cons.1 hs
    unfold delM
    rw [List.filter_cons]
    by_cases hx : x.1 = a
    · simp only [hx, decide_true, Bool.not_true, Bool.false_eq_true, if_false, List.length_cons]
      have : r.filter (fun x => !decide (x.1 = a)) = r := List.filter_eq_self.2 fun y hy => by
        have hne : y.1 ≠ a := fun e => by have := h1 y hy; rw [hx, e, adLt_irrefl] at this; cases this
        simp [hne]
      rw [this]
    · simp only [hx, decide_false, Bool.not_false, if_true, List.length_cons]
      have h' : (lkM a r).isSome = true := by unfold lkM at h; rwa [if_neg hx] at h
      have := delM_len h2 h'
      unfold delM at this
      omega
theorem len_setM_new {a : Ad} {l : α} : ∀ {M : List (Ad × α)}, lkM a M = none → (setM a l M).length = M.length + 1
  | [], _ => by simp [setM]
  | x :: r, h => by
    unfold lkM at h
    by_cases hx : x.1 = a
    · simp [hx] at h
    · rw [if_neg hx] at h
      unfold setM
      rw [if_neg hx]
      split
      · simp
      · simp [len_setM_new h]
end
/-- The first n cells, row by row. -/
structure Full (wd n : Nat) (M : GM) : Prop where
  sorted : SortedM M
  len : M.length = n
  keys : ∀ x ∈ M, 1 ≤ x.1.1 ∧ x.1.1 ≤ wd ∧ 1 ≤ x.1.2 ∧ (x.1.2 - 1).toNat * wd + (x.1.1 - 1).toNat < n
  one : 0 < n → (lkM (1, 1) M).isSome = true
theorem Full.no {wd n : Nat} {M : GM} (h : Full wd n M) {a : Ad} (ha : n ≤ (a.2 - 1).toNat * wd + (a.1 - 1).toNat) : lkM a M = none := lkM_none.2 fun x hx e => by
  have := (h.keys x hx).2.2.2
  rw [e] at this; omega
theorem Full.put {wd n : Nat} {M : GM} (h : Full wd n M) {r c : Nat} (hc : c < wd) (hn : n = r * wd + c) (x : CE) : Full wd (n + 1) (setM ((c : Int) + 1, (r : Int) + 1) x M) := by
  have hno : lkM ((c : Int) + 1, (r : Int) + 1) M = none := h.no (by
    rw [show ((r : Int) + 1 - 1).toNat = r by omega, show ((c : Int) + 1 - 1).toNat = c by omega]; omega)
  refine ⟨sorted_setM _ _ h.sorted, by rw [len_setM_new hno, h.len], fun y hy => ?_, fun _ => ?_⟩
  · rcases mem_setM hy with rfl | hy
    · refine ⟨by show (1 : Int) ≤ (c : Int) + 1; omega, by show (c : Int) + 1 ≤ (wd : Int); omega, by show (1 : Int) ≤ (r : Int) + 1; omega, ?_⟩
      show ((r : Int) + 1 - 1).toNat * wd + ((c : Int) + 1 - 1).toNat < n + 1
      rw [show ((r : Int) + 1 - 1).toNat = r by omega, show ((c : Int) + 1 - 1).toNat = c by omega]; omega
    · have := h.keys y hy; omega
  · rw [lkM_set]
    by_cases hn0 : 0 < n
    · split
      · rfl
      · exact h.one hn0
    · have hz : r * wd = 0 ∧ c = 0 := by omega
      have hr : r = 0 := by
        rcases Nat.mul_eq_zero.1 hz.1 with h | h
        · exact h
        · omega
      rw [hr, hz.2]
      simp
theorem Full.last {wd : Nat} {M : GM} (h : Full wd 4096 M) (hw : 1 ≤ wd) : (wd = 1 → lkM (2, 1) M = none) ∧ (wd ≠ 1 → lkM (256, 4096) M = none) := by
  refine ⟨fun e => lkM_none.2 fun x hx q => ?_, fun e => h.no ?_⟩
  · have := (h.keys x hx).2.1; rw [q] at this; simp at this; omega
  · show 4096 ≤ 4095 * wd + 255; omega
end Go.Proofs.YtfpdleljhbkehaaDoor
namespace Go.Proofs.YtfpdleljhbkehaaDoor
open Go.RowKit Go.Sort

/-! ### a full grid: what five Puts do -/
theorem zero_yes : gvalidB zeroC = true := by kernel_rfl
theorem one_valid : validB (1, 1).1 (1, 1).2 = true := by kernel_rfl
theorem zeroC_ok : zeroC.ok := by simp [ContT.ok, zeroC, NodeT.ok, okL, ByteArray.size]
theorem GridIs.cellsIn {w w' : World} {gb mb : Nat} {M : GM} (h : GridIs w gb mb M) (hg : w.grownBy w' (some mb)) : CellsIn w w' := let ⟨_, hm, _⟩ := h.map; CellsIn.of_grown hm hg
structure FiveP (M : GM) (last : Ad) (c d : ContT) : Prop where
  c1 : putCode M last c = 41
  t1 : ∀ x, putTo M last c x = M
  c2 : putCode M last zeroC = 0
  t2 : ∀ x, putTo M last zeroC x = M
  c3 : putCode M (1, 1) d = 0
  c4 : ∀ x, putCode (putTo M (1, 1) d x) (1, 1) zeroC = 0
  c5 : ∀ x y, putCode (putTo (putTo M (1, 1) d x) (1, 1) zeroC y) last c = 0
  l5 : ∀ x y z, (putTo (putTo (putTo M (1, 1) d x) (1, 1) zeroC y) last c z).length = 4096
theorem five {M : GM} {last : Ad} {c d : ContT} (hs : SortedM M) (hl : M.length = 4096) (hla : lkM last M = none) (hv : validB last.1 last.2 = true) (hh : (lkM (1, 1) M).isSome = true) (hne : last ≠ (1, 1)) (vc : gvalidB c = true) (vd : gvalidB d = true) (hk : (c.kind == 0) = false) : FiveP M last c d := by
  have hne' : ¬ ((1, 1) : Ad) = last := fun e => hne e.symm
  have hkz : (zeroC.kind == 0) = true := rfl
  have hf1 : fullB M last = true := by simp [fullB, hla, hl]
  have hf2 : fullB M (1, 1) = false := by simp [fullB, hh]
  have hz : ∀ M' : GM, ∀ x, putTo M' (1, 1) zeroC x = delM (1, 1) M' := fun M' x => by simp only [putTo, zero_yes, hkz]; rfl
  have h3 : ∀ x, SortedM (putTo M (1, 1) d x) ∧ lkM last (putTo M (1, 1) d x) = none ∧ (delM (1, 1) (putTo M (1, 1) d x)).length = 4095 := by
    intro x
    cases hdk : (d.kind == 0) with
    | true =>
      have e : putTo M (1, 1) d x = delM (1, 1) M := by simp only [putTo, vd, hdk]; rfl
      rw [e]
      have e2 : delM (1, 1) (delM (1, 1) M) = delM (1, 1) M := delM_none (by rw [lkM_del]; simp)
      have := delM_len hs hh
      exact ⟨sorted_delM _ hs, by rw [lkM_del, if_neg hne']; exact hla, by rw [e2]; omega⟩
    | false =>
      have e : putTo M (1, 1) d x = setM (1, 1) (copyC d, x) M := by simp only [putTo, vd, hdk, hf2]; rfl
      rw [e]
      have h1 := len_setM (l := (copyC d, x)) hs hh
      have := delM_len (a := (1, 1)) (sorted_setM (1, 1) (copyC d, x) hs) (by rw [lkM_set]; simp)
      exact ⟨sorted_setM _ _ hs, by rw [lkM_set, if_neg hne']; exact hla, by omega⟩
  refine ⟨?_, ?_, ?_, ?_, ?_, ?_, ?_, ?_⟩
  · simp only [putCode, vc, hv, hk, hf1]; rfl
  · intro x; simp only [putTo, vc, hv, hk, hf1]; rfl
  · simp only [putCode, zero_yes, hv, hkz]; rfl
  · intro x
    have : putTo M last zeroC x = delM last M := by simp only [putTo, zero_yes, hv, hkz]; rfl
    rw [this, delM_none hla]
  · cases hdk : (d.kind == 0) with
    | true => simp only [putCode, vd, hdk]; rfl
    | false => simp only [putCode, vd, hdk, hf2]; rfl
  · intro x; simp only [putCode, zero_yes, hkz]; rfl
  · intro x y
    rw [hz]
    obtain ⟨q1, q2, q3⟩ := h3 x
    generalize delM (1, 1) (putTo M (1, 1) d x) = M4 at q3 ⊢
    have : fullB M4 last = false := by unfold fullB; simp; intro _; omega
    simp only [putCode, vc, hv, hk, this]; rfl
  · intro x y z
    rw [hz]
    obtain ⟨q1, q2, q3⟩ := h3 x
    have h4 : lkM last (delM (1, 1) (putTo M (1, 1) d x)) = none := by rw [lkM_del, if_neg hne']; exact q2
    generalize delM (1, 1) (putTo M (1, 1) d x) = M4 at h4 q3 ⊢
    have : fullB M4 last = false := by unfold fullB; simp; intro _; omega
    have e : putTo M4 last c z = setM last (copyC c, z) M4 := by simp only [putTo, vc, hv, hk, this]; rfl
    rw [e, len_setM_new h4, q3]
end Go.Proofs.YtfpdleljhbkehaaDoor
