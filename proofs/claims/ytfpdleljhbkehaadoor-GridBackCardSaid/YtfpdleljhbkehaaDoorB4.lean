import Derived.Test.YtfpdleljhbkehaaDoorB1
import Derived.Test.YtfpdleljhbkehaaDoorW25
import Derived.Test.YtfpdleljhbkehaaDoorW34
import Derived.Test.YtfpdleljhbkehaaDoorW49
/- Plain grids; what a copy has is valid as what it was copied from. -/
namespace Go.Proofs.YtfpdleljhbkehaaDoor
open Go.RowKit Go.Sort

/-! ### a copy's answers -/
theorem nan_nan : (FloatKind.format .f64).order 9221120237041090560 9221120237041090560 != some .eq := by decide +kernel
theorem one_cases (x : Nat) : oneX x = x ∨ (oneX x = 9221120237041090560 ∧ ((FloatKind.format .f64).order x x != some .eq) = true) := by
  unfold oneX
  cases h : ((FloatKind.format .f64).order x x != some .eq)
  · exact Or.inl rfl
  · exact Or.inr ⟨rfl, rfl⟩
theorem oneX_idem (x : Nat) : oneX (oneX x) = oneX x := by
  rcases one_cases x with h | ⟨h, _⟩
  · rw [h, h]
  · rw [h]; unfold oneX; rw [if_pos nan_nan]
theorem classX_one (x : Nat) : classX (oneX x) = classX x := by
  rcases one_cases x with h | ⟨h, h2⟩
  · rw [h]
  · rw [h]
    have e1 : classX 9221120237041090560 = 1 := by unfold classX ordX; rw [if_pos nan_nan]
    have e2 : classX x = 1 := by unfold classX ordX; rw [if_pos h2]
    rw [e1, e2]
theorem beq_of_bne {a : Option Ordering} (h : (a != some .eq) = true) : (a == some .eq) = false := by
  cases a with
  | none => rfl
  | some o => cases o <;> first | rfl | (exact absurd h (by decide))
theorem negX_one (x : Nat) : negX (oneX x) = negX x := by
  rcases one_cases x with h | ⟨h, h2⟩
  · rw [h]
  · rw [h]; unfold negX; rw [beq_of_bne h2, beq_of_bne nan_nan, Bool.false_and, Bool.false_and]
theorem placeX_one (x : Nat) : placeX (oneX x) = placeX x := by
  rcases one_cases x with h | ⟨h, h2⟩
  · rw [h]
  · rw [h]; unfold placeX ordX; rw [if_pos h2, if_pos nan_nan]
theorem zero_zero : ((FloatKind.format .f64).order 0 0 != some .eq) = false := by decide +kernel
theorem oneX_zero (x : Nat) : oneX x = 0 ↔ x = 0 := by
  rcases one_cases x with h | ⟨h, h2⟩
  · rw [h]
  · rw [h]
    constructor
    · intro e; exact absurd e (by decide)
    · rintro rfl; rw [zero_zero] at h2; cases h2
mutual
theorem copyT_idem : ∀ t : NodeT, copyT (copyT t) = copyT t
  | .mk k op x s b f r q args => by simp only [copyT, oneX_idem, copyL_idem args]
theorem copyL_idem : ∀ l : List NodeT, copyL (copyL l) = copyL l
  | [] => rfl
  | t :: r => by simp only [copyL, copyT_idem t, copyL_idem r]
end
theorem copyL_len (l : List NodeT) : (copyL l).length = l.length := by rw [copyL_map]; simp
mutual
theorem measT_copy : ∀ t : NodeT, measT (copyT t) = measT t
  | .mk k op x s b f r q args => by simp only [copyT, measT, measL_copy args]
theorem measL_copy : ∀ (l : List NodeT) (n d : Int), measL (copyL l) n d = measL l n d
  | [], n, d => rfl
  | t :: r, n, d => by simp only [copyL, measL, measT_copy t, measL_copy r]
end
theorem alike_iff (t u : NodeT) : alikeB t u = true ↔ t.kind = u.kind ∧ t.op = u.op ∧ ((oneX t.x : Nat) : Int) = ((oneX u.x : Nat) : Int) ∧ t.s.toList = u.s.toList ∧ t.b = u.b ∧ t.f = u.f ∧ refB t.ref u.ref = true ∧ refB t.to u.to = true := by
  unfold alikeB
  simp only [Bool.and_eq_true, decide_eq_true_eq, and_assoc]
theorem alikeB_x (k op : Int) (x y : Nat) (s : ByteArray) (b : Bool) (f : Int) (r q : RefT) (args : List NodeT) (t : NodeT) (h : oneX x = oneX y) : alikeB t (.mk k op x s b f r q args) = alikeB t (.mk k op y s b f r q args) := by
  rw [Bool.eq_iff_iff, alike_iff, alike_iff]
  show (_ ∧ _ ∧ _ = ((oneX x : Nat) : Int) ∧ _) ↔ (_ ∧ _ ∧ _ = ((oneX y : Nat) : Int) ∧ _)
  rw [h]; exact Iff.rfl
theorem alikeB_l (k op : Int) (x y : Nat) (s : ByteArray) (b : Bool) (f : Int) (r q : RefT) (a1 a2 : List NodeT) (t : NodeT) (h : oneX x = oneX y) : alikeB (.mk k op x s b f r q a1) t = alikeB (.mk k op y s b f r q a2) t := by
  rw [Bool.eq_iff_iff, alike_iff, alike_iff]
  show (_ ∧ _ ∧ ((oneX x : Nat) : Int) = _ ∧ _) ↔ (_ ∧ _ ∧ ((oneX y : Nat) : Int) = _ ∧ _)
  rw [h]; exact Iff.rfl
theorem madeB_copy (t : NodeT) : madeB (copyT t) = madeB t := by
  obtain ⟨k, op, x, s, b, f, r, q, args⟩ := t
  have hl := fun u => alikeB_l k op (oneX x) x s b f r q (copyL args) args u (oneX_idem x)
  simp only [copyT, madeB, classX_one, negX_one, copyL_len, hl]
  rw [alikeB_x 1 0 (oneX x) x ⟨#[]⟩ false 0 zR zR [] _ (oneX_idem x)]
mutual
theorem faultT_copy : ∀ (t : NodeT) (i : Bool), faultT (copyT t) i = faultT t i
  | .mk k op x s b f r q args, i => by
    have hm := madeB_copy (.mk k op x s b f r q args)
    simp only [copyT] at hm ⊢
    rw [faultT, faultT, hm, faultL_copy args, copyL_len]
theorem faultL_copy : ∀ (l : List NodeT) (c : Bool), faultL (copyL l) c = faultL l c
  | [], c => rfl
  | t :: r, c => by rw [copyL, faultL, faultL, faultT_copy t, faultL_copy r]
end
theorem checkT_copy (t : NodeT) : checkT (copyT t) = checkT t := by unfold checkT; rw [measT_copy, faultT_copy]
theorem dec_one (x : Nat) : decide (((oneX x : Nat) : Int) = 0) = decide ((x : Int) = 0) := by
  have h := oneX_zero x
  rw [decide_eq_decide]; omega
theorem noNodeB_copy (t : NodeT) : noNodeB (copyT t) = noNodeB t := by
  unfold noNodeB
  rw [copyT_kind, copyT_op, copyT_x, copyT_s, copyT_b, copyT_f, copyT_ref, copyT_to, copyT_len, dec_one]
theorem noValB_copy (v : ValT) : noValB { v with x := oneX v.x } = noValB v := by unfold noValB; simp only [dec_one]
theorem vvalidB_copy (v : ValT) : vvalidB { v with x := oneX v.x } = vvalidB v := by unfold vvalidB restB; simp only [dec_one]
theorem gvalidB_copy (c : ContT) : gvalidB (copyC c) = gvalidB c := by
  unfold gvalidB copyC
  simp only [noValB_copy, noNodeB_copy, vvalidB_copy, checkT_copy]
theorem copyC_idem (c : ContT) : copyC (copyC c) = copyC c := by unfold copyC; simp only [oneX_idem, copyT_idem]
theorem keyV_copy (v : ValT) : keyV { v with x := oneX v.x } = keyV v := by unfold keyV; simp only [placeX_one]
theorem keyC_copy (c : ContT) : keyC (copyC c) = keyC c := by unfold keyC copyC; simp only [keyV_copy, copyT_idem]
theorem sameCB_refl (c : ContT) : sameCB c c = true := (sameCB_iff _ _).2 rfl
theorem zeroC_copy : copyC zeroC = zeroC := by
  have : oneX 0 = 0 := (oneX_zero 0).2 rfl
  simp only [copyC, zeroC, copyT, copyL, this]
mutual
theorem okT_copy : ∀ t : NodeT, t.ok → (copyT t).ok
  | .mk k op x s b f r q args, h => by simp only [copyT, NodeT.ok] at h ⊢; exact ⟨h.1, okL_copy args h.2⟩
theorem okL_copy : ∀ l : List NodeT, okL l → okL (copyL l)
  | [], h => h
  | t :: r, h => by simp only [copyL, okL] at h ⊢; exact ⟨okT_copy t h.1, okL_copy r h.2⟩
end
theorem okC_copy {c : ContT} (h : c.ok) : (copyC c).ok := ⟨h.1, okT_copy _ h.2⟩
end Go.Proofs.YtfpdleljhbkehaaDoor
namespace Go.Proofs.YtfpdleljhbkehaaDoor
open Go.RowKit Go.Sort

/-! ### how many cells a grid has -/
section
variable {α : Type}
theorem delM_none {a : Ad} {M : List (Ad × α)} (h : lkM a M = none) : delM a M = M := List.filter_eq_self.2 fun x hx => by have := lkM_none.1 h x hx; simp [this]
theorem delM_len {a : Ad} : ∀ {M : List (Ad × α)}, SortedM M → (lkM a M).isSome = true → (delM a M).length + 1 = M.length
  | [], _, h => by simp [lkM] at h
  | x :: r, hs, h => by
    obtain ⟨h1, h2⟩ := List.pairwise_cons.1 hs
    unfold delM
    rw [List.filter_cons]
    by_cases hx : x.1 = a
    · simp only [hx, decide_true, Bool.not_true, Bool.false_eq_true, if_false, List.length_cons]
      have : r.filter (fun x => !decide (x.1 = a)) = r := List.filter_eq_self.2 fun y hy => by
        have hne : y.1 ≠ a := fun e => by have := h1 y hy; rw [hx, e, adLt_irrefl] at this; cases this
        simp [hne]
      rw [this]
    · simp only [hx, decide_false, Bool.not_false, if_true, List.length_cons]
      have h' : (lkM a r).isSome = true := by unfold lkM at h; rwa [if_neg hx] at h
      have := delM_len h2 h'
      unfold delM at this
      omega
theorem len_setM_new {a : Ad} {l : α} : ∀ {M : List (Ad × α)}, lkM a M = none → (setM a l M).length = M.length + 1
  | [], _ => by simp [setM]
  | x :: r, h => by
    unfold lkM at h
    by_cases hx : x.1 = a
    · simp [hx] at h
    · rw [if_neg hx] at h
      unfold setM
      rw [if_neg hx]
      split
      · simp
      · simp [len_setM_new h]
end
/-- The first n cells, row by row. -/
structure Full (wd n : Nat) (M : GM) : Prop where
  sorted : SortedM M
  len : M.length = n
  keys : ∀ x ∈ M, 1 ≤ x.1.1 ∧ x.1.1 ≤ wd ∧ 1 ≤ x.1.2 ∧ (x.1.2 - 1).toNat * wd + (x.1.1 - 1).toNat < n
  one : 0 < n → (lkM (1, 1) M).isSome = true
theorem Full.no {wd n : Nat} {M : GM} (h : Full wd n M) {a : Ad} (ha : n ≤ (a.2 - 1).toNat * wd + (a.1 - 1).toNat) : lkM a M = none := lkM_none.2 fun x hx e => by
  have := (h.keys x hx).2.2.2
  rw [e] at this; omega
theorem Full.put {wd n : Nat} {M : GM} (h : Full wd n M) {r c : Nat} (hc : c < wd) (hn : n = r * wd + c) (x : CE) : Full wd (n + 1) (setM ((c : Int) + 1, (r : Int) + 1) x M) := by
  have hno : lkM ((c : Int) + 1, (r : Int) + 1) M = none := h.no (by
    rw [show ((r : Int) + 1 - 1).toNat = r by omega, show ((c : Int) + 1 - 1).toNat = c by omega]; omega)
  refine ⟨sorted_setM _ _ h.sorted, by rw [len_setM_new hno, h.len], fun y hy => ?_, fun _ => ?_⟩
  · rcases mem_setM hy with rfl | hy
    · refine ⟨by show (1 : Int) ≤ (c : Int) + 1; omega, by show (c : Int) + 1 ≤ (wd : Int); omega, by show (1 : Int) ≤ (r : Int) + 1; omega, ?_⟩
      show ((r : Int) + 1 - 1).toNat * wd + ((c : Int) + 1 - 1).toNat < n + 1
      rw [show ((r : Int) + 1 - 1).toNat = r by omega, show ((c : Int) + 1 - 1).toNat = c by omega]; omega
    · have := h.keys y hy; omega
  · rw [lkM_set]
    by_cases hn0 : 0 < n
    · split
      · rfl
      · exact h.one hn0
    · have hz : r * wd = 0 ∧ c = 0 := by omega
      have hr : r = 0 := by
        rcases Nat.mul_eq_zero.1 hz.1 with h | h
        · exact h
        · omega
      rw [hr, hz.2]
      simp
theorem Full.last {wd : Nat} {M : GM} (h : Full wd 4096 M) (hw : 1 ≤ wd) : (wd = 1 → lkM (2, 1) M = none) ∧ (wd ≠ 1 → lkM (256, 4096) M = none) := by
  refine ⟨fun e => lkM_none.2 fun x hx q => ?_, fun e => h.no ?_⟩
  · have := (h.keys x hx).2.1; rw [q] at this; simp at this; omega
  · show 4096 ≤ 4095 * wd + 255; omega
end Go.Proofs.YtfpdleljhbkehaaDoor
/- GridBack's plain law: what is put again in any order is equal; the puts lead from the one grid to the other. -/
namespace Go.Proofs.YtfpdleljhbkehaaDoor
open Go.RowKit Go.Sort

/-! ### plain grids -/
abbrev PG := List (Ad × ContT)
def er (M : GM) : PG := M.map fun x => (x.1, x.2.1)
theorem er_lk (a : Ad) : ∀ M : GM, lkM a (er M) = (lkM a M).map (·.1)
  | [] => rfl
  | x :: r => by
    have ih := er_lk a r
    unfold er at ih ⊢
    rw [List.map_cons, lkM, lkM]
    by_cases h : x.1 = a
    · simp [h]
    · simp only [h, if_false]; exact ih
theorem er_set (a : Ad) (c : ContT) (p : Option Addr) : ∀ M : GM, er (setM a (c, p) M) = setM a c (er M)
  | [] => rfl
  | x :: r => by
    have ih := er_set a c p r
    unfold er at ih ⊢
    rw [List.map_cons, setM, setM]
    by_cases h : x.1 = a
    · simp [h]
    · simp only [h, if_false]
      by_cases h2 : adLt a x.1 = true
      · simp [h2]
      · simp only [h2, Bool.false_eq_true, if_false, List.map_cons, ih]
theorem er_del (a : Ad) (M : GM) : er (delM a M) = delM a (er M) := by
  unfold er delM
  rw [List.filter_map]
  rfl
theorem er_sorted {M : GM} : SortedM (er M) ↔ SortedM M := by unfold SortedM er; rw [List.pairwise_map]
theorem er_len (M : GM) : (er M).length = M.length := by simp [er]
theorem er_keys (M : GM) : (er M).map (·.1) = M.map (·.1) := by simp [er]
def fullP (P : PG) (a : Ad) : Bool := !(lkM a P).isSome && decide (4096 ≤ P.length)
def codeP (P : PG) (a : Ad) (c : ContT) : Int := if gvalidB c = false then 1 else if validB a.1 a.2 = false then 20 else if (c.kind == 0) = true then 0 else if fullP P a = true then 41 else 0
def putP (P : PG) (a : Ad) (c : ContT) : PG := if gvalidB c = false then P else if validB a.1 a.2 = false then P else if (c.kind == 0) = true then delM a P else if fullP P a = true then P else setM a (copyC c) P
theorem er_full (M : GM) (a : Ad) : fullB M a = fullP (er M) a := by unfold fullB fullP; rw [er_lk, er_len]; simp
theorem er_code (M : GM) (a : Ad) (c : ContT) : putCode M a c = codeP (er M) a c := by unfold putCode codeP; rw [er_full]
theorem er_put (M : GM) (a : Ad) (c : ContT) (x : Option Addr) : er (putTo M a c x) = putP (er M) a c := by
  unfold putTo putP
  rw [er_full]
  split
  · rfl
  split
  · rfl
  split
  · exact er_del a M
  split
  · rfl
  · exact er_set a (copyC c) x M
structure GOk (P : PG) : Prop where
  sorted : SortedM P
  many : P.length ≤ 4096
  each : ∀ x ∈ P, validB x.1.1 x.1.2 = true ∧ gvalidB x.2 = true ∧ (x.2.kind == 0) = false ∧ copyC x.2 = x.2 ∧ x.2.ok
theorem GOk.nil : GOk [] := ⟨List.Pairwise.nil, by simp, fun x hx => by cases hx⟩
theorem GOk.del {P : PG} (h : GOk P) (a : Ad) : GOk (delM a P) := ⟨sorted_delM a h.sorted, Nat.le_trans (List.length_filter_le ..) h.many, fun x hx => h.each x (List.mem_filter.1 hx).1⟩
theorem GOk.set {P : PG} (h : GOk P) {a : Ad} {c : ContT} (hf : fullP P a = false) (hv : validB a.1 a.2 = true) (hg : gvalidB c = true) (hk : (c.kind == 0) = false) (hok : c.ok) : GOk (setM a (copyC c) P) := by
  refine ⟨sorted_setM a _ h.sorted, ?_, fun x hx => ?_⟩
  · unfold fullP at hf
    cases hl : lkM a P with
    | none =>
      rw [len_setM_new hl]
      rw [hl] at hf
      simp only [Option.isSome_none, Bool.not_false, Bool.true_and, decide_eq_false_iff_not] at hf
      omega
    | some y =>
      rw [len_setM h.sorted (by rw [hl]; rfl)]
      exact h.many
  · rcases mem_setM hx with rfl | hx
    · exact ⟨hv, (gvalidB_copy c).trans hg, hk, copyC_idem c, okC_copy hok⟩
    · exact h.each x hx
theorem GOk.put {P : PG} (h : GOk P) (a : Ad) {c : ContT} (hok : c.ok) : GOk (putP P a c) := by
  unfold putP
  cases h1 : gvalidB c
  · exact h
  cases h2 : validB a.1 a.2
  · exact h
  cases h3 : (c.kind == 0)
  · simp only [Bool.true_eq_false, Bool.false_eq_true, if_false]
    cases h4 : fullP P a
    · exact h.set h4 h2 h1 h3 hok
    · exact h
  · exact h.del a
/-! ### equal -/
noncomputable def okAtP (P Q : PG) (a : Ad) : Bool := match lkM a P, lkM a Q with
  | some x, some y => sameCB x y
  | _, _ => false
noncomputable def eqPB (P Q : PG) : Bool := decide (P.length = Q.length) && (P.map (·.1)).all (okAtP P Q)
theorem er_okAt (M N : GM) (a : Ad) : okAt M N a = okAtP (er M) (er N) a := by
  unfold okAt okAtP
  rw [er_lk, er_lk]
  cases lkM a M <;> cases lkM a N <;> rfl
theorem er_eq (M N : GM) : eqMB M N = eqPB (er M) (er N) := by
  unfold eqMB eqPB
  rw [er_len, er_len, er_keys]
  congr 2
  funext a
  exact er_okAt M N a
theorem eqPB_of {P Q : PG} (hl : P.length = Q.length) (h : ∀ a ∈ P.map (·.1), okAtP P Q a = true) : eqPB P Q = true := by
  unfold eqPB
  rw [List.all_eq_true.2 h]
  simp [hl]
theorem eqPB_self (P : PG) : eqPB P P = true := eqPB_of rfl fun a ha => by
  unfold okAtP
  obtain ⟨y, hy⟩ := Option.isSome_iff_exists.1 (lkM_mem_iff.2 ha)
  rw [hy]
  exact sameCB_refl y
abbrev getP (P : PG) (a : Ad) : ContT := (lkM a P).getD zeroC
theorem er_get (M : GM) (a : Ad) : (getM M a).1 = getP (er M) a := by
  unfold getM getP
  rw [er_lk]
  cases lkM a M <;> rfl
noncomputable def diffP (P Q : PG) (a : Ad) : Bool := !sameCB (getP P a) (getP Q a)
theorem er_diff (M N : GM) (a : Ad) : diffAt M N a = diffP (er M) (er N) a := by unfold diffAt diffP; rw [er_get, er_get]
def wayK (P Q : PG) : List Ad := (Q.foldl (fun m x => setM x.1 () m) (P.map fun x => (x.1, ()))).map (·.1)
theorem er_union (M N : GM) : unionK M N = wayK (er M) (er N) := by
  unfold unionK wayK er
  rw [List.foldl_map, List.map_map]
  rfl
noncomputable def wayP (P Q : PG) : List (Ad × ContT) := ((wayK P Q).filter (diffP P Q)).map (fun a => (a, copyC (getP Q a)))
theorem er_way (M N : GM) : putsK M N (unionK M N) = wayP (er M) (er N) := by
  unfold putsK wayP
  rw [er_union]
  have h1 : diffAt M N = diffP (er M) (er N) := funext fun a => er_diff M N a
  have h2 : (fun a => (a, copyC (getM N a).1)) = (fun a => (a, copyC (getP (er N) a))) := funext fun a => by rw [er_get]
  rw [h1, h2]
theorem way_self (P : PG) : wayP P P = [] := by
  unfold wayP
  have : (wayK P P).filter (diffP P P) = [] := List.filter_eq_nil_iff.2 fun a _ => by
    unfold diffP; rw [sameCB_refl]; simp
  rw [this]; rfl
theorem wayK_sorted {P : PG} (h : SortedM P) (Q : PG) : (wayK P Q).Pairwise (fun x y => adLt x y = true) ∧ ∀ a, a ∈ wayK P Q ↔ a ∈ P.map (·.1) ∨ a ∈ Q.map (·.1) := by
  have hs : SortedM (P.map fun x => (x.1, ())) := by unfold SortedM at *; rw [List.pairwise_map]; exact h
  have key : ∀ (Q : PG) (m : List (Ad × Unit)), SortedM m → SortedM (Q.foldl (fun m x => setM x.1 () m) m) ∧ (∀ b, b ∈ (Q.foldl (fun m x => setM x.1 () m) m).map (·.1) ↔ b ∈ m.map (·.1) ∨ b ∈ Q.map (·.1)) := by
    intro Q
    induction Q with
    | nil => intro m h; exact ⟨h, fun b => by simp⟩
    | cons x r ih =>
      intro m h
      obtain ⟨h1, h2⟩ := ih (setM x.1 () m) (sorted_setM _ _ h)
      refine ⟨h1, fun b => ?_⟩
      rw [List.foldl_cons, h2 b, setM_key, List.map_cons, List.mem_cons]
      constructor
      · rintro ((h | h) | h)
        · exact Or.inr (Or.inl h)
        · exact Or.inl h
        · exact Or.inr (Or.inr h)
      · rintro (h | h | h)
        · exact Or.inl (Or.inr h)
        · exact Or.inl (Or.inl h)
        · exact Or.inr h
  obtain ⟨h1, h2⟩ := key Q _ hs
  refine ⟨by unfold wayK; rw [List.pairwise_map]; exact h1, fun a => ?_⟩
  unfold wayK
  rw [h2 a, List.map_map]; rfl
/-! ### put again in any order -/
theorem setM_perm {α : Type} {a : Ad} {v : α} : ∀ {M : List (Ad × α)}, lkM a M = none → (setM a v M).Perm ((a, v) :: M)
  | [], _ => List.Perm.refl _
  | x :: r, h => by
    unfold lkM at h
    by_cases hx : x.1 = a
    · simp [hx] at h
    · simp only [hx, if_false] at h
      unfold setM
      simp only [hx, if_false]
      by_cases h2 : adLt a x.1 = true
      · simp only [h2, if_true]; exact List.Perm.refl _
      · simp only [h2, Bool.false_eq_true, if_false]
        exact ((setM_perm h).cons x).trans (List.Perm.swap _ _ _)
theorem sortedM_perm {α : Type} {M N : List (Ad × α)} (hM : SortedM M) (hN : SortedM N) (hp : M.Perm N) : M = N := by
  refine List.Perm.eq_of_pairwise (le := fun x y => adLt x.1 y.1 = true) ?_ ?_ ?_ hp
  · intro x y _ _ h1 h2
    have := swo_ad.trans _ _ _ h1 h2
    rw [adLt_irrefl] at this; cases this
  · exact hM
  · exact hN
theorem snoc_ind {α : Type} {P : List α → Prop} (h0 : P []) (h1 : ∀ l x, P l → P (l ++ [x])) (l : List α) : P l := by
  rw [← List.reverse_reverse l]
  induction l.reverse with
  | nil => exact h0
  | cons x r ih => rw [List.reverse_cons]; exact h1 _ _ ih
def allP (P : PG) (l : List (Ad × ContT)) : PG := l.foldl (fun P x => putP P x.1 x.2) P
theorem allP_snoc (P : PG) (l : List (Ad × ContT)) (x : Ad × ContT) : allP P (l ++ [x]) = putP (allP P l) x.1 x.2 := by simp [allP]
theorem allP_ok {P : PG} (h : GOk P) : ∀ {l : List (Ad × ContT)}, (∀ x ∈ l, x.2.ok) → GOk (allP P l) := by
  intro l
  induction l generalizing P with
  | nil => exact fun _ => h
  | cons x r ih => exact fun hl => ih (h.put x.1 (hl x List.mem_cons_self)) fun y hy => hl y (List.mem_cons_of_mem _ hy)
theorem put_new {P : PG} {x : Ad × ContT} (hl : lkM x.1 P = none) (hlen : P.length < 4096) (hx : validB x.1.1 x.1.2 = true ∧ gvalidB x.2 = true ∧ (x.2.kind == 0) = false ∧ copyC x.2 = x.2 ∧ x.2.ok) :
    codeP P x.1 x.2 = 0 ∧ putP P x.1 x.2 = setM x.1 x.2 P := by
  obtain ⟨h1, h2, h3, h4, _⟩ := hx
  have hf : fullP P x.1 = false := by unfold fullP; rw [hl]; simp; omega
  unfold codeP putP
  rw [h1, h2, h3, hf, h4]
  exact ⟨rfl, rfl⟩
theorem nodup_keys {P : PG} (h : SortedM P) : (P.map (·.1)).Nodup := nodup_M h
theorem again_perm {A : PG} (h : GOk A) : ∀ {l : List (Ad × ContT)}, (∀ x ∈ l, x ∈ A) → (l.map (·.1)).Nodup → l.length ≤ 4096 → SortedM (allP [] l) ∧ (allP [] l).Perm l := by
  intro l
  refine snoc_ind (P := fun l => (∀ x ∈ l, x ∈ A) → (l.map (·.1)).Nodup → l.length ≤ 4096 → SortedM (allP [] l) ∧ (allP [] l).Perm l) ?_ ?_ l
  · exact fun _ _ _ => ⟨List.Pairwise.nil, List.Perm.refl _⟩
  · intro l x ih hm hn hl
    rw [List.map_append, List.nodup_append] at hn
    obtain ⟨h1, h2⟩ := ih (fun y hy => hm y (List.mem_append_left _ hy)) hn.1 (by simp at hl; omega)
    have hno : lkM x.1 (allP [] l) = none := lkM_none.2 fun y hy e => hn.2.2 y.1 (List.mem_map.2 ⟨y, h2.mem_iff.1 hy, rfl⟩) x.1 (by simp) e
    have hlen : (allP [] l).length < 4096 := by have := h2.length_eq; simp at hl; omega
    obtain ⟨_, hp⟩ := put_new hno hlen (h.each x (hm x (by simp)))
    rw [allP_snoc, hp]
    exact ⟨sorted_setM _ _ h1, (setM_perm hno).trans ((h2.cons x).trans (List.perm_append_singleton x l).symm)⟩
/-- A step: each put is fine. -/
theorem again_step {A : PG} (h : GOk A) {l : List (Ad × ContT)} (hp : l.Perm A) {i : Nat} {x : Ad × ContT} (hx : l[i]? = some x) :
    codeP (allP [] (l.take i)) x.1 x.2 = 0 ∧ allP [] (l.take (i + 1)) = putP (allP [] (l.take i)) x.1 x.2 := by
  have hlen := hp.length_eq
  have hmany := h.many
  have hil := (List.getElem?_eq_some_iff.1 hx).1
  have hn : (l.map (·.1)).Nodup := ((hp.map (·.1)).nodup_iff).2 (nodup_keys h.sorted)
  have e : l.take (i + 1) = l.take i ++ [x] := by rw [List.take_add_one, hx]; rfl
  have hsub : ((l.take (i + 1)).map (·.1)).Nodup := by rw [List.map_take]; exact hn.sublist (List.take_sublist _ _)
  rw [e, List.map_append, List.nodup_append] at hsub
  obtain ⟨_, h2⟩ := again_perm h (l := l.take i) (fun y hy => hp.mem_iff.1 (List.mem_of_mem_take hy)) hsub.1 (by rw [List.length_take]; omega)
  have hno : lkM x.1 (allP [] (l.take i)) = none := lkM_none.2 fun y hy e => hsub.2.2 y.1 (List.mem_map.2 ⟨y, h2.mem_iff.1 hy, rfl⟩) x.1 (by simp) e
  have hl2 : (allP [] (l.take i)).length < 4096 := by have := h2.length_eq; rw [List.length_take] at this; omega
  rw [e, allP_snoc]
  exact ⟨(put_new hno hl2 (h.each x (hp.mem_iff.1 (List.mem_of_getElem? hx)))).1, rfl⟩
theorem again_end {A : PG} (h : GOk A) {l : List (Ad × ContT)} (hp : l.Perm A) : allP [] l = A := by
  have hn : (l.map (·.1)).Nodup := ((hp.map (·.1)).nodup_iff).2 (nodup_keys h.sorted)
  obtain ⟨h1, h2⟩ := again_perm h (fun y hy => hp.mem_iff.1 hy) hn (by rw [hp.length_eq]; exact h.many)
  exact sortedM_perm h1 h.sorted (h2.trans hp)
end Go.Proofs.YtfpdleljhbkehaaDoor
namespace Go.Proofs.YtfpdleljhbkehaaDoor
open Go.RowKit Go.Sort

/-! ### a full grid: what five Puts do -/
theorem zero_yes : gvalidB zeroC = true := by kernel_rfl
theorem one_valid : validB (1, 1).1 (1, 1).2 = true := by kernel_rfl
theorem zeroC_ok : zeroC.ok := by simp [ContT.ok, zeroC, NodeT.ok, okL, ByteArray.size]
theorem GridIs.cellsIn {w w' : World} {gb mb : Nat} {M : GM} (h : GridIs w gb mb M) (hg : w.grownBy w' (some mb)) : CellsIn w w' := let ⟨_, hm, _⟩ := h.map; CellsIn.of_grown hm hg
structure FiveP (M : GM) (last : Ad) (c d : ContT) : Prop where
  c1 : putCode M last c = 41
  t1 : ∀ x, putTo M last c x = M
  c2 : putCode M last zeroC = 0
  t2 : ∀ x, putTo M last zeroC x = M
  c3 : putCode M (1, 1) d = 0
  c4 : ∀ x, putCode (putTo M (1, 1) d x) (1, 1) zeroC = 0
  c5 : ∀ x y, putCode (putTo (putTo M (1, 1) d x) (1, 1) zeroC y) last c = 0
  l5 : ∀ x y z, (putTo (putTo (putTo M (1, 1) d x) (1, 1) zeroC y) last c z).length = 4096
theorem five {M : GM} {last : Ad} {c d : ContT} (hs : SortedM M) (hl : M.length = 4096) (hla : lkM last M = none) (hv : validB last.1 last.2 = true) (hh : (lkM (1, 1) M).isSome = true) (hne : last ≠ (1, 1)) (vc : gvalidB c = true) (vd : gvalidB d = true) (hk : (c.kind == 0) = false) : FiveP M last c d := by
  have hne' : ¬ ((1, 1) : Ad) = last := fun e => hne e.symm
  have hkz : (zeroC.kind == 0) = true := rfl
  have hf1 : fullB M last = true := by simp [fullB, hla, hl]
  have hf2 : fullB M (1, 1) = false := by simp [fullB, hh]
  have hz : ∀ M' : GM, ∀ x, putTo M' (1, 1) zeroC x = delM (1, 1) M' := fun M' x => by simp only [putTo, zero_yes, hkz]; rfl
  have h3 : ∀ x, SortedM (putTo M (1, 1) d x) ∧ lkM last (putTo M (1, 1) d x) = none ∧ (delM (1, 1) (putTo M (1, 1) d x)).length = 4095 := by
    intro x
    cases hdk : (d.kind == 0) with
    | true =>
      have e : putTo M (1, 1) d x = delM (1, 1) M := by simp only [putTo, vd, hdk]; rfl
      rw [e]
      have e2 : delM (1, 1) (delM (1, 1) M) = delM (1, 1) M := delM_none (by rw [lkM_del]; simp)
      have := delM_len hs hh
      exact ⟨sorted_delM _ hs, by rw [lkM_del, if_neg hne']; exact hla, by rw [e2]; omega⟩
    | false =>
      have e : putTo M (1, 1) d x = setM (1, 1) (copyC d, x) M := by simp only [putTo, vd, hdk, hf2]; rfl
      rw [e]
      have h1 := len_setM (l := (copyC d, x)) hs hh
      have := delM_len (a := (1, 1)) (sorted_setM (1, 1) (copyC d, x) hs) (by rw [lkM_set]; simp)
      exact ⟨sorted_setM _ _ hs, by rw [lkM_set, if_neg hne']; exact hla, by omega⟩
  refine ⟨?_, ?_, ?_, ?_, ?_, ?_, ?_, ?_⟩
  · simp only [putCode, vc, hv, hk, hf1]; rfl
  · intro x; simp only [putTo, vc, hv, hk, hf1]; rfl
  · simp only [putCode, zero_yes, hv, hkz]; rfl
  · intro x
    have : putTo M last zeroC x = delM last M := by simp only [putTo, zero_yes, hv, hkz]; rfl
    rw [this, delM_none hla]
  · cases hdk : (d.kind == 0) with
    | true => simp only [putCode, vd, hdk]; rfl
    | false => simp only [putCode, vd, hdk, hf2]; rfl
  · intro x; simp only [putCode, zero_yes, hkz]; rfl
  · intro x y
    rw [hz]
    obtain ⟨q1, q2, q3⟩ := h3 x
    generalize delM (1, 1) (putTo M (1, 1) d x) = M4 at q3 ⊢
    have : fullB M4 last = false := by unfold fullB; simp; intro _; omega
    simp only [putCode, vc, hv, hk, this]; rfl
  · intro x y z
    rw [hz]
    obtain ⟨q1, q2, q3⟩ := h3 x
    have h4 : lkM last (delM (1, 1) (putTo M (1, 1) d x)) = none := by rw [lkM_del, if_neg hne']; exact q2
    generalize delM (1, 1) (putTo M (1, 1) d x) = M4 at h4 q3 ⊢
    have : fullB M4 last = false := by unfold fullB; simp; intro _; omega
    have e : putTo M4 last c z = setM last (copyC c, z) M4 := by simp only [putTo, vc, hv, hk, this]; rfl
    rw [e, len_setM_new h4, q3]
end Go.Proofs.YtfpdleljhbkehaaDoor
/- GridBack's plain law: the two turns of puts lead from the one grid to the other. -/
namespace Go.Proofs.YtfpdleljhbkehaaDoor
open Go.RowKit Go.Sort

/-! ### the two turns -/
/-- A turn over a list: those whose content is Empty (t), or the others. -/
def turnP (t : Bool) (P : PG) (l : List (Ad × ContT)) : PG := l.foldl (fun P x => if ((x.2.kind == 0) == t) = true then putP P x.1 x.2 else P) P
theorem turnP_snoc (t : Bool) (P : PG) (l : List (Ad × ContT)) (x : Ad × ContT) : turnP t P (l ++ [x]) = if ((x.2.kind == 0) == t) = true then putP (turnP t P l) x.1 x.2 else turnP t P l := by simp [turnP]
theorem turnP_ok {t : Bool} {P : PG} (h : GOk P) : ∀ {l : List (Ad × ContT)}, (∀ x ∈ l, x.2.ok) → GOk (turnP t P l) := by
  intro l
  induction l generalizing P with
  | nil => exact fun _ => h
  | cons x r ih =>
    intro hl
    unfold turnP
    rw [List.foldl_cons]
    refine ih ?_ fun y hy => hl y (List.mem_cons_of_mem _ hy)
    split
    · exact h.put x.1 (hl x List.mem_cons_self)
    · exact h
theorem len_sub {α : Type} [DecidableEq α] : ∀ {l k : List α}, l.Nodup → (∀ a ∈ l, a ∈ k) → l.length ≤ k.length
  | [], _, _, _ => Nat.zero_le _
  | a :: r, k, hn, hs => by
    rw [List.nodup_cons] at hn
    have hak := hs a List.mem_cons_self
    have := len_sub (l := r) (k := k.erase a) hn.2 fun b hb => (List.mem_erase_of_ne (fun e => hn.1 (by subst e; exact hb))).2 (hs b (List.mem_cons_of_mem _ hb))
    rw [List.length_erase_of_mem hak] at this
    have hpos : 0 < k.length := List.length_pos_of_mem hak
    simp only [List.length_cons]; omega
theorem way_mem {A B : PG} {x : Ad × ContT} (hx : x ∈ wayP A B) : x.1 ∈ wayK A B ∧ diffP A B x.1 = true ∧ x.2 = copyC (getP B x.1) := by
  unfold wayP at hx
  obtain ⟨a, ha, rfl⟩ := List.mem_map.1 hx
  obtain ⟨h1, h2⟩ := List.mem_filter.1 ha
  exact ⟨h1, h2, rfl⟩
theorem mem_key {P : PG} {a : Ad} (h : a ∈ P.map (·.1)) : ∃ c, lkM a P = some c ∧ (a, c) ∈ P := by
  obtain ⟨y, hy⟩ := Option.isSome_iff_exists.1 (lkM_mem_iff.2 h)
  exact ⟨y, hy, lkM_mem hy⟩
theorem key_mem {P : PG} {a : Ad} {c : ContT} (h : lkM a P = some c) : a ∈ P.map (·.1) := lkM_mem_iff.1 (by rw [h]; rfl)
/-- What is on the way: what goes is Empty; what comes is a cell's of the goal. -/
theorem way_is {A B : PG} (hA : GOk A) (hB : GOk B) {x : Ad × ContT} (hx : x ∈ wayP A B) :
    validB x.1.1 x.1.2 = true ∧ gvalidB x.2 = true ∧ x.2.ok ∧ copyC x.2 = x.2 ∧ ((lkM x.1 B = none ∧ x.2 = zeroC ∧ (x.2.kind == 0) = true) ∨ (lkM x.1 B = some x.2 ∧ (x.2.kind == 0) = false)) := by
  obtain ⟨h1, _, h3⟩ := way_mem hx
  cases hb : lkM x.1 B with
  | none =>
    have e : x.2 = zeroC := by rw [h3]; unfold getP; rw [hb]; exact zeroC_copy
    have ha : x.1 ∈ A.map (·.1) := by
      rcases ((wayK_sorted hA.sorted B).2 x.1).1 h1 with h | h
      · exact h
      · obtain ⟨c, hc, _⟩ := mem_key h
        rw [hb] at hc; cases hc
    obtain ⟨c, _, hm⟩ := mem_key ha
    rw [e]
    exact ⟨(hA.each _ hm).1, zero_yes, zeroC_ok, zeroC_copy, Or.inl ⟨rfl, rfl, rfl⟩⟩
  | some y =>
    have hy := hB.each _ (lkM_mem hb)
    have e : x.2 = y := by rw [h3]; unfold getP; rw [hb]; exact hy.2.2.2.1
    rw [e]
    exact ⟨hy.1, hy.2.1, hy.2.2.2.2, hy.2.2.2.1, Or.inr ⟨rfl, hy.2.2.1⟩⟩
theorem put_gone {P : PG} {x : Ad × ContT} (hv : validB x.1.1 x.1.2 = true) (hg : gvalidB x.2 = true) (hk : (x.2.kind == 0) = true) : codeP P x.1 x.2 = 0 ∧ putP P x.1 x.2 = delM x.1 P := by
  unfold codeP putP
  rw [hv, hg, hk]
  exact ⟨rfl, rfl⟩
/-- The first turn: what is not in the goal goes. -/
theorem turn0_lk {A B : PG} (hA : GOk A) (hB : GOk B) (P : PG) (a : Ad) : ∀ {l : List (Ad × ContT)}, (∀ x ∈ l, x ∈ wayP A B) → lkM a (turnP true P l) = if a ∈ l.map (·.1) ∧ lkM a B = none then none else lkM a P := by
  intro l
  refine snoc_ind (P := fun l => (∀ x ∈ l, x ∈ wayP A B) → lkM a (turnP true P l) = if a ∈ l.map (·.1) ∧ lkM a B = none then none else lkM a P) ?_ ?_ l
  · intro _; simp [turnP]
  · intro l x ih hl
    have ih := ih fun y hy => hl y (List.mem_append_left _ hy)
    obtain ⟨h1, h2, _, _, h4⟩ := way_is hA hB (hl x (by simp))
    rw [turnP_snoc]
    rcases h4 with ⟨h4, _, h5⟩ | ⟨h4, h5⟩
    · rw [h5, if_pos (by rfl), (put_gone h1 h2 h5).2, lkM_del, ih]
      by_cases hx : x.1 = a
      · subst hx
        rw [if_pos rfl, if_pos ⟨by simp, h4⟩]
      · have hx' : ¬ a = x.1 := fun e => hx e.symm
        rw [if_neg hx]
        simp only [List.map_append, List.mem_append, List.map_cons, List.map_nil, List.mem_singleton, hx', or_false]
    · rw [h5, if_neg (by decide), ih]
      by_cases hx : x.1 = a
      · subst hx
        rw [h4]
        simp
      · have hx' : ¬ a = x.1 := fun e => hx e.symm
        simp only [List.map_append, List.mem_append, List.map_cons, List.map_nil, List.mem_singleton, hx', or_false]
/-- Behind the first turn. -/
theorem turn0_end {A B : PG} (hA : GOk A) (hB : GOk B) (a : Ad) : lkM a (turnP true A (wayP A B)) = if lkM a B = none then none else lkM a A := by
  rw [turn0_lk hA hB A a fun x hx => hx]
  by_cases hb : lkM a B = none
  · simp only [hb, and_true, if_true]
    cases ha : lkM a A with
    | none => simp
    | some y =>
      have hk := (hA.each _ (lkM_mem ha)).2.2.1
      have : a ∈ (wayP A B).map (·.1) := by
        refine List.mem_map.2 ⟨(a, copyC (getP B a)), List.mem_map.2 ⟨a, List.mem_filter.2 ⟨((wayK_sorted hA.sorted B).2 a).2 (Or.inl (key_mem ha)), ?_⟩, rfl⟩, rfl⟩
        unfold diffP getP
        rw [ha, hb]
        have : sameCB y zeroC = false := sameCB_kind hk
        simp [this]
      rw [if_pos this]
  · rw [if_neg hb, if_neg fun h => hb h.2]
theorem turn0_code {A B : PG} (hA : GOk A) (hB : GOk B) {x : Ad × ContT} (hx : x ∈ wayP A B) (hk : (x.2.kind == 0) = true) (P : PG) : codeP P x.1 x.2 = 0 := by
  obtain ⟨h1, h2, _⟩ := way_is hA hB hx
  exact (put_gone h1 h2 hk).1
/-- What the second turn has: of the goal's cells alone. -/
structure Sub (B P : PG) : Prop where
  ok : GOk P
  sub : ∀ a ∈ P.map (·.1), a ∈ B.map (·.1)
theorem turn1_put {A B P : PG} (hA : GOk A) (hB : GOk B) (h : Sub B P) {x : Ad × ContT} (hx : x ∈ wayP A B) (hk : (x.2.kind == 0) = false) : codeP P x.1 x.2 = 0 ∧ putP P x.1 x.2 = setM x.1 x.2 P ∧ Sub B (putP P x.1 x.2) ∧ lkM x.1 B = some x.2 := by
  obtain ⟨h1, h2, h3, h4, h5⟩ := way_is hA hB hx
  have hb : lkM x.1 B = some x.2 := by
    rcases h5 with ⟨_, _, h6⟩ | ⟨h6, _⟩
    · rw [hk] at h6; cases h6
    · exact h6
  have hf : fullP P x.1 = false := by
    unfold fullP
    cases hp : lkM x.1 P with
    | some y => simp
    | none =>
      have hn : (x.1 :: P.map (·.1)).Nodup := List.nodup_cons.2 (And.intro (fun hm => by
        obtain ⟨c, hc, _⟩ := mem_key hm
        rw [hp] at hc
        cases hc) (nodup_keys h.ok.sorted))
      have := len_sub hn (k := B.map (·.1)) fun b hb' => by
        rcases List.mem_cons.1 hb' with rfl | hb'
        · exact key_mem hb
        · exact h.sub b hb'
      have hm := hB.many
      simp only [List.length_cons, List.length_map] at this
      simp; omega
  have hput : putP P x.1 x.2 = setM x.1 x.2 P := by unfold putP; rw [h1, h2, hk, hf, h4]; rfl
  refine ⟨by unfold codeP; rw [h1, h2, hk, hf]; rfl, hput, ⟨h.ok.put x.1 h3, fun a ha => ?_⟩, hb⟩
  rw [hput] at ha
  obtain ⟨y, hy, rfl⟩ := List.mem_map.1 ha
  rcases mem_setM hy with rfl | hy
  · exact key_mem hb
  · exact h.sub _ (List.mem_map.2 ⟨y, hy, rfl⟩)
theorem turn1_lk {A B : PG} (hA : GOk A) (hB : GOk B) {P : PG} (h : Sub B P) (a : Ad) : ∀ {l : List (Ad × ContT)}, (∀ x ∈ l, x ∈ wayP A B) → Sub B (turnP false P l) ∧ lkM a (turnP false P l) = if a ∈ l.map (·.1) ∧ ¬ lkM a B = none then lkM a B else lkM a P := by
  intro l
  refine snoc_ind (P := fun l => (∀ x ∈ l, x ∈ wayP A B) → Sub B (turnP false P l) ∧ lkM a (turnP false P l) = if a ∈ l.map (·.1) ∧ ¬ lkM a B = none then lkM a B else lkM a P) ?_ ?_ l
  · intro _; exact ⟨h, by simp [turnP]⟩
  · intro l x ih hl
    obtain ⟨ihs, ih⟩ := ih fun y hy => hl y (List.mem_append_left _ hy)
    obtain ⟨_, _, _, _, h4⟩ := way_is hA hB (hl x (by simp))
    rw [turnP_snoc]
    rcases h4 with ⟨h4, _, h5⟩ | ⟨h4, h5⟩
    · rw [h5, if_neg (by decide)]
      refine ⟨ihs, ?_⟩
      rw [ih]
      by_cases hx : x.1 = a
      · subst hx
        rw [h4]
        simp
      · have hx' : ¬ a = x.1 := fun e => hx e.symm
        simp only [List.map_append, List.mem_append, List.map_cons, List.map_nil, List.mem_singleton, hx', or_false]
    · obtain ⟨_, hp, hs, _⟩ := turn1_put hA hB ihs (hl x (by simp)) h5
      rw [h5, if_pos (by rfl)]
      refine ⟨hs, ?_⟩
      rw [hp, lkM_set, ih]
      by_cases hx : x.1 = a
      · subst hx
        rw [if_pos rfl, h4]
        simp
      · have hx' : ¬ a = x.1 := fun e => hx e.symm
        rw [if_neg hx]
        simp only [List.map_append, List.mem_append, List.map_cons, List.map_nil, List.mem_singleton, hx', or_false]
theorem turn0_sub {A B : PG} (hA : GOk A) (hB : GOk B) : Sub B (turnP true A (wayP A B)) := by
  refine ⟨turnP_ok hA fun x hx => (way_is hA hB hx).2.2.1, fun a ha => ?_⟩
  obtain ⟨c, hc, _⟩ := mem_key ha
  rw [turn0_end hA hB] at hc
  cases hb : lkM a B with
  | none => rw [hb] at hc; simp at hc
  | some y => exact key_mem hb
/-- At a step of the second turn each put is fine. -/
theorem turn1_code {A B : PG} (hA : GOk A) (hB : GOk B) {i : Nat} {x : Ad × ContT} (hx : (wayP A B)[i]? = some x) (hk : (x.2.kind == 0) = false) : codeP (turnP false (turnP true A (wayP A B)) ((wayP A B).take i)) x.1 x.2 = 0 :=
  (turn1_put hA hB (turn1_lk hA hB (turn0_sub hA hB) x.1 (l := (wayP A B).take i) fun y hy => List.mem_of_mem_take hy).1 (List.mem_of_getElem? hx) hk).1
/-- Behind both turns: equal, as many. -/
theorem turns_end {A B : PG} (hA : GOk A) (hB : GOk B) : eqPB (turnP false (turnP true A (wayP A B)) (wayP A B)) B = true ∧ (turnP false (turnP true A (wayP A B)) (wayP A B)).length = B.length := by
  have hS := turn0_sub hA hB
  have hlk := fun a => turn1_lk hA hB hS a (l := wayP A B) fun x hx => hx
  generalize hR : turnP false (turnP true A (wayP A B)) (wayP A B) = R at hlk
  have hRs : Sub B R := (hlk (0, 0)).1
  have hlk2 : ∀ a, okAtP R B a = true ∨ lkM a B = none := by
    intro a
    cases hb : lkM a B with
    | none => exact Or.inr rfl
    | some y =>
      left
      have h := (hlk a).2
      rw [hb] at h
      unfold okAtP
      rw [hb]
      by_cases hm : a ∈ (wayP A B).map (·.1)
      · rw [if_pos ⟨hm, by simp⟩] at h
        rw [h]
        exact sameCB_refl y
      · rw [if_neg fun h => hm h.1, turn0_end hA hB, hb] at h
        simp only [reduceCtorEq, if_false] at h
        have hd : diffP A B a = false := by
          cases hd : diffP A B a
          · rfl
          · exact absurd (List.mem_map.2 ⟨(a, copyC (getP B a)), List.mem_map.2 ⟨a, List.mem_filter.2 ⟨((wayK_sorted hA.sorted B).2 a).2 (Or.inr (key_mem hb)), hd⟩, rfl⟩, rfl⟩) hm
        unfold diffP getP at hd
        rw [hb] at hd
        cases ha : lkM a A with
        | none =>
          rw [ha] at hd
          have hk := (hB.each _ (lkM_mem hb)).2.2.1
          have hk2 : (zeroC.kind == y.kind) = false := by
            cases he : (zeroC.kind == y.kind)
            · rfl
            · rw [← eq_of_beq he] at hk; cases hk
          have : sameCB zeroC y = false := sameCB_kind hk2
          simp [this] at hd
        | some x =>
          rw [ha] at hd h
          rw [h]
          simpa using hd
  have hk : R.length = B.length := by
    have h1 := len_sub (nodup_keys hRs.ok.sorted) hRs.sub
    have h2 := len_sub (nodup_keys hB.sorted) (k := R.map (·.1)) fun a ha => by
      obtain ⟨y, hy, _⟩ := mem_key ha
      rcases hlk2 a with h | h
      · unfold okAtP at h
        cases hr : lkM a R with
        | none => rw [hr] at h; simp at h
        | some z => exact key_mem hr
      · rw [hy] at h; cases h
    simp only [List.length_map] at h1 h2
    omega
  refine ⟨eqPB_of hk fun a ha => ?_, hk⟩
  rcases hlk2 a with h | h
  · exact h
  · obtain ⟨y, hy, _⟩ := mem_key (hRs.sub a ha)
    rw [hy] at h; cases h
end Go.Proofs.YtfpdleljhbkehaaDoor
