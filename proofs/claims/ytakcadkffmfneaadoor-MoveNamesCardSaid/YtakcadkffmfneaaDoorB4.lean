import Derived.Test.YtakcadkffmfneaaDoorB9
import Derived.Test.YtakcadkffmfneaaDoorW27
/- What a copy has is valid as what it was copied from. -/
namespace Go.Proofs.YtakcadkffmfneaaDoor
open Go.RowKit Go.Sort

/-! ### a copy's answers -/
theorem nan_nan : (FloatKind.format .f64).order 9221120237041090560 9221120237041090560 != some .eq := by decide +kernel
theorem one_cases (x : Nat) : oneX x = x ∨ (oneX x = 9221120237041090560 ∧ ((FloatKind.format .f64).order x x != some .eq) = true) := by
  unfold oneX
  cases h : ((FloatKind.format .f64).order x x != some .eq)
  · exact Or.inl rfl
  · exact Or.inr ⟨rfl, rfl⟩
theorem oneX_idem (x : Nat) : oneX (oneX x) = oneX x := by
  rcases one_cases x with h | ⟨h, _⟩
  · rw [h, h]
  · rw [h]; unfold oneX; rw [if_pos nan_nan]
theorem classX_one (x : Nat) : classX (oneX x) = classX x := by
  rcases one_cases x with h | ⟨h, h2⟩
  · rw [h]
  · rw [h]
    have e1 : classX 9221120237041090560 = 1 := by unfold classX ordX; rw [if_pos nan_nan]
    have e2 : classX x = 1 := by unfold classX ordX; rw [if_pos h2]
    rw [e1, e2]
theorem beq_of_bne {a : Option Ordering} (h : (a != some .eq) = true) : (a == some .eq) = false := by
  cases a with
  | none => rfl
  | some o => cases o <;> first | rfl | (exact absurd h (by decide))
theorem negX_one (x : Nat) : negX (oneX x) = negX x := by
  rcases one_cases x with h | ⟨h, h2⟩
  · rw [h]
  · rw [h]; unfold negX; rw [beq_of_bne h2, beq_of_bne nan_nan, Bool.false_and, Bool.false_and]
theorem zero_zero : ((FloatKind.format .f64).order 0 0 != some .eq) = false := by decide +kernel
theorem oneX_zero (x : Nat) : oneX x = 0 ↔ x = 0 := by
  rcases one_cases x with h | ⟨h, h2⟩
  · rw [h]
  · rw [h]
    constructor
    · intro e; exact absurd e (by decide)
    · rintro rfl; rw [zero_zero] at h2; cases h2
mutual
theorem copyT_idem : ∀ t : NodeT, copyT (copyT t) = copyT t
  | .mk k op x s b f r q args => by simp only [copyT, oneX_idem, copyL_idem args]
theorem copyL_idem : ∀ l : List NodeT, copyL (copyL l) = copyL l
  | [] => rfl
  | t :: r => by simp only [copyL, copyT_idem t, copyL_idem r]
end
theorem copyL_len (l : List NodeT) : (copyL l).length = l.length := by rw [copyL_map]; simp
mutual
theorem measT_copy : ∀ t : NodeT, measT (copyT t) = measT t
  | .mk k op x s b f r q args => by simp only [copyT, measT, measL_copy args]
theorem measL_copy : ∀ (l : List NodeT) (n d : Int), measL (copyL l) n d = measL l n d
  | [], n, d => rfl
  | t :: r, n, d => by simp only [copyL, measL, measT_copy t, measL_copy r]
end
theorem alike_iff (t u : NodeT) : alikeB t u = true ↔ t.kind = u.kind ∧ t.op = u.op ∧ ((oneX t.x : Nat) : Int) = ((oneX u.x : Nat) : Int) ∧ t.s.toList = u.s.toList ∧ t.b = u.b ∧ t.f = u.f ∧ refB t.ref u.ref = true ∧ refB t.to u.to = true := by
  unfold alikeB
  simp only [Bool.and_eq_true, decide_eq_true_eq, and_assoc]
theorem alikeB_x (k op : Int) (x y : Nat) (s : ByteArray) (b : Bool) (f : Int) (r q : RefT) (args : List NodeT) (t : NodeT) (h : oneX x = oneX y) : alikeB t (.mk k op x s b f r q args) = alikeB t (.mk k op y s b f r q args) := by
  rw [Bool.eq_iff_iff, alike_iff, alike_iff]
  show (_ ∧ _ ∧ _ = ((oneX x : Nat) : Int) ∧ _) ↔ (_ ∧ _ ∧ _ = ((oneX y : Nat) : Int) ∧ _)
  rw [h]; exact Iff.rfl
theorem alikeB_l (k op : Int) (x y : Nat) (s : ByteArray) (b : Bool) (f : Int) (r q : RefT) (a1 a2 : List NodeT) (t : NodeT) (h : oneX x = oneX y) : alikeB (.mk k op x s b f r q a1) t = alikeB (.mk k op y s b f r q a2) t := by
  rw [Bool.eq_iff_iff, alike_iff, alike_iff]
  show (_ ∧ _ ∧ ((oneX x : Nat) : Int) = _ ∧ _) ↔ (_ ∧ _ ∧ ((oneX y : Nat) : Int) = _ ∧ _)
  rw [h]; exact Iff.rfl
theorem madeB_copy (t : NodeT) : madeB (copyT t) = madeB t := by
  obtain ⟨k, op, x, s, b, f, r, q, args⟩ := t
  have hl := fun u => alikeB_l k op (oneX x) x s b f r q (copyL args) args u (oneX_idem x)
  simp only [copyT, madeB, classX_one, negX_one, copyL_len, hl]
  rw [alikeB_x 1 0 (oneX x) x ⟨#[]⟩ false 0 zR zR [] _ (oneX_idem x)]
mutual
theorem faultT_copy : ∀ (t : NodeT) (i : Bool), faultT (copyT t) i = faultT t i
  | .mk k op x s b f r q args, i => by
    have hm := madeB_copy (.mk k op x s b f r q args)
    simp only [copyT] at hm ⊢
    rw [faultT, faultT, hm, faultL_copy args, copyL_len]
theorem faultL_copy : ∀ (l : List NodeT) (c : Bool), faultL (copyL l) c = faultL l c
  | [], c => rfl
  | t :: r, c => by rw [copyL, faultL, faultL, faultT_copy t, faultL_copy r]
end
theorem checkT_copy (t : NodeT) : checkT (copyT t) = checkT t := by unfold checkT; rw [measT_copy, faultT_copy]
theorem dec_one (x : Nat) : decide (((oneX x : Nat) : Int) = 0) = decide ((x : Int) = 0) := by
  have h := oneX_zero x
  rw [decide_eq_decide]; omega
theorem noNodeB_copy (t : NodeT) : noNodeB (copyT t) = noNodeB t := by
  unfold noNodeB
  rw [copyT_kind, copyT_op, copyT_x, copyT_s, copyT_b, copyT_f, copyT_ref, copyT_to, copyT_len, dec_one]
theorem noValB_copy (v : ValT) : noValB { v with x := oneX v.x } = noValB v := by unfold noValB; simp only [dec_one]
theorem vvalidB_copy (v : ValT) : vvalidB { v with x := oneX v.x } = vvalidB v := by unfold vvalidB restB; simp only [dec_one]
theorem gvalidB_copy (c : ContT) : gvalidB (copyC c) = gvalidB c := by
  unfold gvalidB copyC
  simp only [noValB_copy, noNodeB_copy, vvalidB_copy, checkT_copy]
theorem copyC_idem (c : ContT) : copyC (copyC c) = copyC c := by unfold copyC; simp only [oneX_idem, copyT_idem]
theorem zeroC_copy : copyC zeroC = zeroC := by
  have : oneX 0 = 0 := (oneX_zero 0).2 rfl
  simp only [copyC, zeroC, copyT, copyL, this]
theorem oneX_lt {x : Nat} (h : x < 18446744073709551616) : oneX x < 18446744073709551616 := by unfold oneX; split <;> omega
mutual
theorem okT_copy : ∀ t : NodeT, t.ok → (copyT t).ok
  | .mk k op x s b f r q args, h => by simp only [copyT, NodeT.ok] at h ⊢; exact ⟨h.1, oneX_lt h.2.1, okL_copy args h.2.2⟩
theorem okL_copy : ∀ l : List NodeT, okL l → okL (copyL l)
  | [], h => h
  | t :: r, h => by simp only [copyL, okL] at h ⊢; exact ⟨okT_copy t h.1, okL_copy r h.2⟩
end
theorem okC_copy {c : ContT} (h : c.ok) : (copyC c).ok := ⟨h.1, okT_copy _ h.2.1, oneX_lt h.2.2⟩
end Go.Proofs.YtakcadkffmfneaaDoor
namespace Go.Proofs.YtakcadkffmfneaaDoor
open Go.RowKit Go.Sort

/-! ### how many cells a grid has -/
section
variable {α : Type}
theorem delM_none {a : Ad} {M : List (Ad × α)} (h : lkM a M = none) : delM a M = M := List.filter_eq_self.2 fun x hx => by have := lkM_none.1 h x hx; simp [this]
theorem delM_len {a : Ad} : ∀ {M : List (Ad × α)}, SortedM M → (lkM a M).isSome = true → (delM a M).length + 1 = M.length
  | [], _, h => by simp [lkM] at h
  | x :: r, hs, h => by
    obtain ⟨h1, h2⟩ := List.pairwise_cons.1 hs
    unfold delM
    rw [List.filter_cons]
    by_cases hx : x.1 = a
    · simp only [hx, decide_true, Bool.not_true, Bool.false_eq_true, if_false, List.length_cons]
      have : r.filter (fun x => !decide (x.1 = a)) = r := List.filter_eq_self.2 fun y hy => by
        have hne : y.1 ≠ a := fun e => by have := h1 y hy; rw [hx, e, adLt_irrefl] at this; cases this
        simp [hne]
      rw [this]
    · simp only [hx, decide_false, Bool.not_false, if_true, List.length_cons]
      have h' : (lkM a r).isSome = true := by unfold lkM at h; rwa [if_neg hx] at h
      have := delM_len h2 h'
      unfold delM at this
      omega
theorem len_setM_new {a : Ad} {l : α} : ∀ {M : List (Ad × α)}, lkM a M = none → (setM a l M).length = M.length + 1
  | [], _ => by simp [setM]
  | x :: r, h => by
    unfold lkM at h
    by_cases hx : x.1 = a
    · simp [hx] at h
    · rw [if_neg hx] at h
      unfold setM
      rw [if_neg hx]
      split
      · simp
      · simp [len_setM_new h]
end
/-- The first n cells, row by row. -/
structure Full (wd n : Nat) (M : GM) : Prop where
  sorted : SortedM M
  len : M.length = n
  keys : ∀ x ∈ M, 1 ≤ x.1.1 ∧ x.1.1 ≤ wd ∧ 1 ≤ x.1.2 ∧ (x.1.2 - 1).toNat * wd + (x.1.1 - 1).toNat < n
  one : 0 < n → (lkM (1, 1) M).isSome = true
theorem Full.no {wd n : Nat} {M : GM} (h : Full wd n M) {a : Ad} (ha : n ≤ (a.2 - 1).toNat * wd + (a.1 - 1).toNat) : lkM a M = none := lkM_none.2 fun x hx e => by
  have := (h.keys x hx).2.2.2
  rw [e] at this; omega
theorem Full.put {wd n : Nat} {M : GM} (h : Full wd n M) {r c : Nat} (hc : c < wd) (hn : n = r * wd + c) (x : CE) : Full wd (n + 1) (setM ((c : Int) + 1, (r : Int) + 1) x M) := by
  have hno : lkM ((c : Int) + 1, (r : Int) + 1) M = none := h.no (by
    rw [show ((r : Int) + 1 - 1).toNat = r by omega, show ((c : Int) + 1 - 1).toNat = c by omega]; omega)
  refine ⟨sorted_setM _ _ h.sorted, by rw [len_setM_new hno, h.len], fun y hy => ?_, fun _ => ?_⟩
  · rcases mem_setM hy with rfl | hy
    · refine ⟨by show (1 : Int) ≤ (c : Int) + 1; omega, by show (c : Int) + 1 ≤ (wd : Int); omega, by show (1 : Int) ≤ (r : Int) + 1; omega, ?_⟩
      show ((r : Int) + 1 - 1).toNat * wd + ((c : Int) + 1 - 1).toNat < n + 1
      rw [show ((r : Int) + 1 - 1).toNat = r by omega, show ((c : Int) + 1 - 1).toNat = c by omega]; omega
    · have := h.keys y hy; omega
  · rw [lkM_set]
    by_cases hn0 : 0 < n
    · split
      · rfl
      · exact h.one hn0
    · have hz : r * wd = 0 ∧ c = 0 := by omega
      have hr : r = 0 := by
        rcases Nat.mul_eq_zero.1 hz.1 with h | h
        · exact h
        · omega
      rw [hr, hz.2]
      simp
theorem Full.last {wd : Nat} {M : GM} (h : Full wd 4096 M) (hw : 1 ≤ wd) : (wd = 1 → lkM (2, 1) M = none) ∧ (wd ≠ 1 → lkM (256, 4096) M = none) := by
  refine ⟨fun e => lkM_none.2 fun x hx q => ?_, fun e => h.no ?_⟩
  · have := (h.keys x hx).2.1; rw [q] at this; simp at this; omega
  · show 4096 ≤ 4095 * wd + 255; omega
end Go.Proofs.YtakcadkffmfneaaDoor
/- Plain grids. -/
namespace Go.Proofs.YtakcadkffmfneaaDoor
open Go.RowKit Go.Sort

/-! ### plain grids -/
abbrev PG := List (Ad × ContT)
def er (M : GM) : PG := M.map fun x => (x.1, x.2.1)
theorem er_lk (a : Ad) : ∀ M : GM, lkM a (er M) = (lkM a M).map (·.1)
  | [] => rfl
  | x :: r => by
    have ih := er_lk a r
    unfold er at ih ⊢
    rw [List.map_cons, lkM, lkM]
    by_cases h : x.1 = a
    · simp [h]
    · simp only [h, if_false]; exact ih
theorem er_set (a : Ad) (c : ContT) (p : Option Addr) : ∀ M : GM, er (setM a (c, p) M) = setM a c (er M)
  | [] => rfl
  | x :: r => by
    have ih := er_set a c p r
    unfold er at ih ⊢
    rw [List.map_cons, setM, setM]
    by_cases h : x.1 = a
    · simp [h]
    · simp only [h, if_false]
      by_cases h2 : adLt a x.1 = true
      · simp [h2]
      · simp only [h2, Bool.false_eq_true, if_false, List.map_cons, ih]
theorem er_del (a : Ad) (M : GM) : er (delM a M) = delM a (er M) := by
  unfold er delM
  rw [List.filter_map]
  rfl
theorem er_sorted {M : GM} : SortedM (er M) ↔ SortedM M := by unfold SortedM er; rw [List.pairwise_map]
theorem er_len (M : GM) : (er M).length = M.length := by simp [er]
theorem er_keys (M : GM) : (er M).map (·.1) = M.map (·.1) := by simp [er]
def fullP (P : PG) (a : Ad) : Bool := !(lkM a P).isSome && decide (4096 ≤ P.length)
def codeP (P : PG) (a : Ad) (c : ContT) : Int := if gvalidB c = false then 1 else if validB a.1 a.2 = false then 20 else if (c.kind == 0) = true then 0 else if fullP P a = true then 41 else 0
def putP (P : PG) (a : Ad) (c : ContT) : PG := if gvalidB c = false then P else if validB a.1 a.2 = false then P else if (c.kind == 0) = true then delM a P else if fullP P a = true then P else setM a (copyC c) P
theorem er_full (M : GM) (a : Ad) : fullB M a = fullP (er M) a := by unfold fullB fullP; rw [er_lk, er_len]; simp
theorem er_code (M : GM) (a : Ad) (c : ContT) : putCode M a c = codeP (er M) a c := by unfold putCode codeP; rw [er_full]
theorem er_put (M : GM) (a : Ad) (c : ContT) (x : Option Addr) : er (putTo M a c x) = putP (er M) a c := by
  unfold putTo putP
  rw [er_full]
  split
  · rfl
  split
  · rfl
  split
  · exact er_del a M
  split
  · rfl
  · exact er_set a (copyC c) x M
structure GOk (P : PG) : Prop where
  sorted : SortedM P
  many : P.length ≤ 4096
  each : ∀ x ∈ P, validB x.1.1 x.1.2 = true ∧ gvalidB x.2 = true ∧ (x.2.kind == 0) = false ∧ copyC x.2 = x.2 ∧ x.2.ok
theorem GOk.nil : GOk [] := ⟨List.Pairwise.nil, by simp, fun x hx => by cases hx⟩
theorem GOk.del {P : PG} (h : GOk P) (a : Ad) : GOk (delM a P) := ⟨sorted_delM a h.sorted, Nat.le_trans (List.length_filter_le ..) h.many, fun x hx => h.each x (List.mem_filter.1 hx).1⟩
theorem GOk.set {P : PG} (h : GOk P) {a : Ad} {c : ContT} (hf : fullP P a = false) (hv : validB a.1 a.2 = true) (hg : gvalidB c = true) (hk : (c.kind == 0) = false) (hok : c.ok) : GOk (setM a (copyC c) P) := by
  refine ⟨sorted_setM a _ h.sorted, ?_, fun x hx => ?_⟩
  · unfold fullP at hf
    cases hl : lkM a P with
    | none =>
      rw [len_setM_new hl]
      rw [hl] at hf
      simp only [Option.isSome_none, Bool.not_false, Bool.true_and, decide_eq_false_iff_not] at hf
      omega
    | some y =>
      rw [len_setM h.sorted (by rw [hl]; rfl)]
      exact h.many
  · rcases mem_setM hx with rfl | hx
    · exact ⟨hv, (gvalidB_copy c).trans hg, hk, copyC_idem c, okC_copy hok⟩
    · exact h.each x hx
theorem GOk.put {P : PG} (h : GOk P) (a : Ad) {c : ContT} (hok : c.ok) : GOk (putP P a c) := by
  unfold putP
  cases h1 : gvalidB c
  · exact h
  cases h2 : validB a.1 a.2
  · exact h
  cases h3 : (c.kind == 0)
  · simp only [Bool.true_eq_false, Bool.false_eq_true, if_false]
    cases h4 : fullP P a
    · exact h.set h4 h2 h1 h3 hok
    · exact h
  · exact h.del a
/-! ### equal -/
/-! ### put again in any order -/
theorem setM_perm {α : Type} {a : Ad} {v : α} : ∀ {M : List (Ad × α)}, lkM a M = none → (setM a v M).Perm ((a, v) :: M)
  | [], _ => List.Perm.refl _
  | x :: r, h => by
    unfold lkM at h
    by_cases hx : x.1 = a
    · simp [hx] at h
    · simp only [hx, if_false] at h
      unfold setM
      simp only [hx, if_false]
      by_cases h2 : adLt a x.1 = true
      · simp only [h2, if_true]; exact List.Perm.refl _
      · simp only [h2, Bool.false_eq_true, if_false]
        exact ((setM_perm h).cons x).trans (List.Perm.swap _ _ _)
theorem sortedM_perm {α : Type} {M N : List (Ad × α)} (hM : SortedM M) (hN : SortedM N) (hp : M.Perm N) : M = N := by
  refine List.Perm.eq_of_pairwise (le := fun x y => adLt x.1 y.1 = true) ?_ ?_ ?_ hp
  · intro x y _ _ h1 h2
    have := swo_ad.trans _ _ _ h1 h2
    rw [adLt_irrefl] at this; cases this
  · exact hM
  · exact hN
theorem snoc_ind {α : Type} {P : List α → Prop} (h0 : P []) (h1 : ∀ l x, P l → P (l ++ [x])) (l : List α) : P l := by
  rw [← List.reverse_reverse l]
  induction l.reverse with
  | nil => exact h0
  | cons x r ih => rw [List.reverse_cons]; exact h1 _ _ ih
def allP (P : PG) (l : List (Ad × ContT)) : PG := l.foldl (fun P x => putP P x.1 x.2) P
theorem allP_snoc (P : PG) (l : List (Ad × ContT)) (x : Ad × ContT) : allP P (l ++ [x]) = putP (allP P l) x.1 x.2 := by simp [allP]
theorem allP_ok {P : PG} (h : GOk P) : ∀ {l : List (Ad × ContT)}, (∀ x ∈ l, x.2.ok) → GOk (allP P l) := by
  intro l
  induction l generalizing P with
  | nil => exact fun _ => h
  | cons x r ih => exact fun hl => ih (h.put x.1 (hl x List.mem_cons_self)) fun y hy => hl y (List.mem_cons_of_mem _ hy)
theorem put_new {P : PG} {x : Ad × ContT} (hl : lkM x.1 P = none) (hlen : P.length < 4096) (hx : validB x.1.1 x.1.2 = true ∧ gvalidB x.2 = true ∧ (x.2.kind == 0) = false ∧ copyC x.2 = x.2 ∧ x.2.ok) :
    codeP P x.1 x.2 = 0 ∧ putP P x.1 x.2 = setM x.1 x.2 P := by
  obtain ⟨h1, h2, h3, h4, _⟩ := hx
  have hf : fullP P x.1 = false := by unfold fullP; rw [hl]; simp; omega
  unfold codeP putP
  rw [h1, h2, h3, hf, h4]
  exact ⟨rfl, rfl⟩
theorem nodup_keys {P : PG} (h : SortedM P) : (P.map (·.1)).Nodup := nodup_M h
theorem again_perm {A : PG} (h : GOk A) : ∀ {l : List (Ad × ContT)}, (∀ x ∈ l, x ∈ A) → (l.map (·.1)).Nodup → l.length ≤ 4096 → SortedM (allP [] l) ∧ (allP [] l).Perm l := by
  intro l
  refine snoc_ind (P := fun l => (∀ x ∈ l, x ∈ A) → (l.map (·.1)).Nodup → l.length ≤ 4096 → SortedM (allP [] l) ∧ (allP [] l).Perm l) ?_ ?_ l
  · exact fun _ _ _ => ⟨List.Pairwise.nil, List.Perm.refl _⟩
  · intro l x ih hm hn hl
    rw [List.map_append, List.nodup_append] at hn
    obtain ⟨h1, h2⟩ := ih (fun y hy => hm y (List.mem_append_left _ hy)) hn.1 (by simp at hl; omega)
    have hno : lkM x.1 (allP [] l) = none := lkM_none.2 fun y hy e => hn.2.2 y.1 (List.mem_map.2 ⟨y, h2.mem_iff.1 hy, rfl⟩) x.1 (by simp) e
    have hlen : (allP [] l).length < 4096 := by have := h2.length_eq; simp at hl; omega
    obtain ⟨_, hp⟩ := put_new hno hlen (h.each x (hm x (by simp)))
    rw [allP_snoc, hp]
    exact ⟨sorted_setM _ _ h1, (setM_perm hno).trans ((h2.cons x).trans (List.perm_append_singleton x l).symm)⟩
end Go.Proofs.YtakcadkffmfneaaDoor
