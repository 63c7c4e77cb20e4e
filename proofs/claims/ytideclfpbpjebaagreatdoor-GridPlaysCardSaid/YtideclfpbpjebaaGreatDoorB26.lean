import Derived.Test.YtideclfpbpjebaaGreatDoorB24
import Derived.Test.YtideclfpbpjebaaGreatDoorB22
namespace Go.Proofs.YtideclfpbpjebaaGreatDoor
section
open Go.RowKit Go.Sort

noncomputable def okAtP (P Q : PG) (a : Ad) : Bool := match lkM a P, lkM a Q with
  | some x, some y => sameCB x y
  | _, _ => false
noncomputable def eqPB (P Q : PG) : Bool := decide (P.length = Q.length) && (P.map (·.1)).all (okAtP P Q)
theorem er_okAt (M N : GM) (a : Ad) : okAt M N a = okAtP (er M) (er N) a := by
  unfold okAt okAtP
  rw [er_lk, er_lk]
  cases lkM a M <;> cases lkM a N <;> rfl
theorem er_eq (M N : GM) : eqMB M N = eqPB (er M) (er N) := by
  unfold eqMB eqPB
  rw [er_len, er_len, er_keys]
  congr 2
  funext a
  exact er_okAt M N a
theorem eqPB_of {P Q : PG} (hl : P.length = Q.length) (h : ∀ a ∈ P.map (·.1), okAtP P Q a = true) : eqPB P Q = true := by
  unfold eqPB
  rw [List.all_eq_true.2 h]
  simp [hl]
theorem eqPB_self (P : PG) : eqPB P P = true := eqPB_of rfl fun a ha => by
  unfold okAtP
  obtain ⟨y, hy⟩ := Option.isSome_iff_exists.1 (lkM_mem_iff.2 ha)
  rw [hy]
  exact sameCB_refl y
abbrev getP (P : PG) (a : Ad) : ContT := (lkM a P).getD zeroC
theorem er_get (M : GM) (a : Ad) : (getM M a).1 = getP (er M) a := by
  unfold getM getP
  rw [er_lk]
  cases lkM a M <;> rfl
noncomputable def diffP (P Q : PG) (a : Ad) : Bool := !sameCB (getP P a) (getP Q a)
theorem er_diff (M N : GM) (a : Ad) : diffAt M N a = diffP (er M) (er N) a := by unfold diffAt diffP; rw [er_get, er_get]
def wayK (P Q : PG) : List Ad := (Q.foldl (fun m x => setM x.1 () m) (P.map fun x => (x.1, ()))).map (·.1)
theorem er_union (M N : GM) : unionK M N = wayK (er M) (er N) := by
  unfold unionK wayK er
  rw [List.foldl_map, List.map_map]
  rfl
noncomputable def wayP (P Q : PG) : List (Ad × ContT) := ((wayK P Q).filter (diffP P Q)).map (fun a => (a, copyC (getP Q a)))
theorem er_way (M N : GM) : putsK M N (unionK M N) = wayP (er M) (er N) := by
  unfold putsK wayP
  rw [er_union]
  have h1 : diffAt M N = diffP (er M) (er N) := funext fun a => er_diff M N a
  have h2 : (fun a => (a, copyC (getM N a).1)) = (fun a => (a, copyC (getP (er N) a))) := funext fun a => by rw [er_get]
  rw [h1, h2]
theorem way_self (P : PG) : wayP P P = [] := by
  unfold wayP
  have : (wayK P P).filter (diffP P P) = [] := List.filter_eq_nil_iff.2 fun a _ => by
    unfold diffP; rw [sameCB_refl]; simp
  rw [this]; rfl
theorem wayK_sorted {P : PG} (h : SortedM P) (Q : PG) : (wayK P Q).Pairwise (fun x y => adLt x y = true) ∧ ∀ a, a ∈ wayK P Q ↔ a ∈ P.map (·.1) ∨ a ∈ Q.map (·.1) := by
  have hs : SortedM (P.map fun x => (x.1, ())) := by unfold SortedM at *; rw [List.pairwise_map]; exact h
  have key : ∀ (Q : PG) (m : List (Ad × Unit)), SortedM m → SortedM (Q.foldl (fun m x => setM x.1 () m) m) ∧ (∀ b, b ∈ (Q.foldl (fun m x => setM x.1 () m) m).map (·.1) ↔ b ∈ m.map (·.1) ∨ b ∈ Q.map (·.1)) := by
    intro Q
    induction Q with
    | nil => intro m h; exact ⟨h, fun b => by simp⟩
    | cons x r ih =>
      intro m h
      obtain ⟨h1, h2⟩ := ih (setM x.1 () m) (sorted_setM _ _ h)
      refine ⟨h1, fun b => ?_⟩
      rw [List.foldl_cons, h2 b, setM_key, List.map_cons, List.mem_cons]
      constructor
      · rintro ((h | h) | h)
        · exact Or.inr (Or.inl h)
        · exact Or.inl h
        · exact Or.inr (Or.inr h)
      · rintro (h | h | h)
        · exact Or.inl (Or.inr h)
        · exact Or.inl (Or.inl h)
        · exact Or.inr h
  obtain ⟨h1, h2⟩ := key Q _ hs
  refine ⟨by unfold wayK; rw [List.pairwise_map]; exact h1, fun a => ?_⟩
  unfold wayK
  rw [h2 a, List.map_map]; rfl

theorem lkM_off {α : Type} {a b : Ad} {M : List (Ad × α)} {v : α} (h : b ≠ a) : lkM b (M ++ [(a, v)]) = lkM b M := by
  induction M with
  | nil => simp [lkM, h.symm]
  | cons x r ih => rw [List.cons_append, lkM, lkM, ih]
/-- One more cell, behind all. -/
theorem way_snoc {P1 P2 Q1 Q2 : PG} {a : Ad} (h1 : SortedM P1) (h2 : SortedM P2) (hm : ∀ b, (b ∈ P2.map (·.1) ∨ b ∈ Q2.map (·.1)) ↔ (b ∈ P1.map (·.1) ∨ b ∈ Q1.map (·.1)) ∨ b = a)
    (hP : ∀ b, b ≠ a → lkM b P2 = lkM b P1) (hQ : ∀ b, b ≠ a → lkM b Q2 = lkM b Q1) (hlt : ∀ b, (b ∈ P1.map (·.1) ∨ b ∈ Q1.map (·.1)) → adLt b a = true) :
    wayP P2 Q2 = wayP P1 Q1 ++ (if diffP P2 Q2 a = true then [(a, copyC (getP Q2 a))] else []) := by
  obtain ⟨s1, m1⟩ := wayK_sorted h1 Q1
  obtain ⟨s2, m2⟩ := wayK_sorted h2 Q2
  have hk : wayK P2 Q2 = wayK P1 Q1 ++ [a] := by
    refine sorted_ext s2 (List.pairwise_append.2 ⟨s1, List.pairwise_singleton .., fun x hx y hy => ?_⟩) fun b => ?_
    · rw [List.mem_singleton.1 hy]; exact hlt x ((m1 x).1 hx)
    · rw [m2, hm, List.mem_append, m1, List.mem_singleton]
  have hne : ∀ b ∈ wayK P1 Q1, b ≠ a := fun b hb e => by
    have := hlt b ((m1 b).1 hb)
    rw [e, adLt_irrefl] at this; cases this
  unfold wayP
  rw [hk, List.filter_append, List.map_append]
  congr 1
  · rw [List.filter_congr (q := diffP P1 Q1) fun b hb => by unfold diffP getP; rw [hP b (hne b hb), hQ b (hne b hb)]]
    refine List.map_congr_left fun b hb => ?_
    unfold getP
    rw [hQ b (hne b (List.mem_filter.1 hb).1)]
  · by_cases hd : diffP P2 Q2 a = true
    · simp [hd]
    · simp [hd]
/-- How far both have been gone through. -/
structure Mrg (P Q : PG) (i j : Nat) (out : PG) : Prop where
  li : i ≤ P.length
  lj : j ≤ Q.length
  is : out = wayP (P.take i) (Q.take j)
  lo : ∀ x ∈ P.take i, ∀ (k : Nat) (y : Ad × ContT), j ≤ k → Q[k]? = some y → adLt x.1 y.1 = true
  hi : ∀ y ∈ Q.take j, ∀ (k : Nat) (x : Ad × ContT), i ≤ k → P[k]? = some x → adLt y.1 x.1 = true
theorem Mrg.start (P Q : PG) : Mrg P Q 0 0 [] := ⟨Nat.zero_le _, Nat.zero_le _, rfl, fun x hx => by simp at hx, fun x hx => by simp at hx⟩
theorem sortedM_at {α : Type} {P : List (Ad × α)} (h : SortedM P) {i j : Nat} {x y : Ad × α} (hx : P[i]? = some x) (hy : P[j]? = some y) (hij : i < j) : adLt x.1 y.1 = true := by
  obtain ⟨i1, e1⟩ := List.getElem?_eq_some_iff.1 hx
  obtain ⟨j1, e2⟩ := List.getElem?_eq_some_iff.1 hy
  have := List.pairwise_iff_getElem.1 h i j i1 j1 hij
  rw [e1, e2] at this
  exact this
theorem mem_take_at {α : Type} {P : List α} {i : Nat} {x : α} (h : x ∈ P.take i) : ∃ k, k < i ∧ P[k]? = some x := by
  obtain ⟨k, hk⟩ := List.mem_iff_getElem?.1 h
  rw [List.getElem?_take] at hk
  split at hk
  · exact ⟨k, by assumption, hk⟩
  · cases hk
theorem adLt_trP {a b c : Ad} (h : adLt a b = true) (k : adLt b c = true) : adLt a c = true := by
  simp only [adLt, Bool.or_eq_true, Bool.and_eq_true, decide_eq_true_eq] at h k ⊢
  omega
theorem adLt_ne {a b : Ad} (h : adLt a b = true) : a ≠ b := fun e => by rw [e, adLt_irrefl] at h; cases h
theorem take_keys {P : PG} {i : Nat} {x : Ad × ContT} (hx : P[i]? = some x) (b : Ad) : b ∈ (P.take (i + 1)).map (·.1) ↔ b ∈ (P.take i).map (·.1) ∨ b = x.1 := by
  rw [List.take_add_one, hx, List.map_append, List.mem_append]; simp
theorem key_lt {P : PG} {i : Nat} {a b : Ad} (h : ∀ x ∈ P.take i, adLt x.1 a = true) (hb : b ∈ (P.take i).map (·.1)) : adLt b a = true := by
  obtain ⟨x, hx, rfl⟩ := List.mem_map.1 hb
  exact h x hx
theorem lk_past {P : PG} {i : Nat} {a : Ad} (h : ∀ x ∈ P.take i, adLt x.1 a = true) : lkM a (P.take i) = none := lkM_none.2 fun x hx e => adLt_ne (h x hx) e
theorem lk_last {P : PG} {i : Nat} {x : Ad × ContT} (hs : SortedM P) (hx : P[i]? = some x) : lkM x.1 (P.take (i + 1)) = some x.2 := by
  obtain ⟨x1, x2⟩ := x
  have hs2 : SortedM (P.take (i + 1)) := hs.sublist (List.take_sublist ..)
  have hx2 : (P.take (i + 1))[i]? = some (x1, x2) := by rw [List.getElem?_take]; simp [hx]
  have hm := List.mem_of_getElem? hx2
  cases hl : lkM x1 (P.take (i + 1)) with
  | none => exact absurd rfl (lkM_none.1 hl (x1, x2) hm)
  | some z =>
    have h2 := lkM_mem hl
    obtain ⟨k, hk⟩ := List.mem_iff_getElem?.1 h2
    by_cases e : k = i
    · subst e; rw [hx2] at hk; cases hk; rfl
    · rcases Nat.lt_or_gt_of_ne e with e | e
      · exact (adLt_ne (sortedM_at hs2 hk hx2 e) rfl).elim
      · exact (adLt_ne (sortedM_at hs2 hx2 hk e) rfl).elim
theorem same_zero {c : ContT} (h : (c.kind == 0) = false) : sameCB c zeroC = false ∧ sameCB zeroC c = false := by
  have h2 : c.kind ≠ 0 := by simpa using h
  exact ⟨sameCB_kind (by show (c.kind == 0) = false; exact h), sameCB_kind (by show ((0 : Int) == c.kind) = false; simp; omega)⟩
section
variable {P Q : PG} {i j : Nat} {out : PG}
/-- The first list's next cell stands ahead of the second one's. -/
theorem Mrg.left (h : Mrg P Q i j out) (hP : GOk P) (_hQ : GOk Q) {x : Ad × ContT} (hx : P[i]? = some x) (hn : ∀ y, Q[j]? = some y → adLt x.1 y.1 = true) : Mrg P Q (i + 1) j (out ++ [(x.1, zeroC)]) := by
  have hil := (List.getElem?_eq_some_iff.1 hx).1
  have hp : ∀ z ∈ P.take i, adLt z.1 x.1 = true := fun z hz => let ⟨k, hk, e⟩ := mem_take_at hz; sortedM_at hP.sorted e hx hk
  have hq : ∀ z ∈ Q.take j, adLt z.1 x.1 = true := fun z hz => h.hi z hz i x (Nat.le_refl _) hx
  have hz := hP.each x (List.mem_of_getElem? hx)
  refine ⟨hil, h.lj, ?_, fun z hz k y hk hy => ?_, fun y hy k z hk hz => h.hi y hy k z (by omega) hz⟩
  · rw [way_snoc (P1 := P.take i) (Q1 := Q.take j) (a := x.1) (hP.sorted.sublist (List.take_sublist ..)) (hP.sorted.sublist (List.take_sublist ..)) (fun b => by rw [take_keys hx]; simp only [or_assoc, or_comm])
      (fun b hb => by rw [List.take_add_one, hx]; exact lkM_off hb) (fun b _ => rfl) (fun b hb => hb.elim (key_lt hp) (key_lt hq)), ← h.is]
    have hd : diffP (P.take (i + 1)) (Q.take j) x.1 = true := by
      unfold diffP getP
      rw [lk_last hP.sorted hx, lk_past hq, Option.getD_some, Option.getD_none, (same_zero hz.2.2.1).1]; rfl
    rw [if_pos hd]
    unfold getP
    rw [lk_past hq, Option.getD_none, zeroC_copy]
  · rw [List.take_add_one, hx] at hz
    rcases List.mem_append.1 hz with hz | hz
    · exact h.lo z hz k y hk hy
    · rw [show z = x by simpa using hz]
      by_cases e : k = j
      · subst e; exact hn y hy
      · have hjq : j < Q.length := by have := (List.getElem?_eq_some_iff.1 hy).1; omega
        exact adLt_trP (hn Q[j] (List.getElem?_eq_getElem hjq)) (sortedM_at _hQ.sorted (List.getElem?_eq_getElem hjq) hy (by omega))
/-- The second one's. -/
theorem Mrg.right (h : Mrg P Q i j out) (hP : GOk P) (hQ : GOk Q) {y : Ad × ContT} (hy : Q[j]? = some y) (hn : ∀ x, P[i]? = some x → adLt y.1 x.1 = true) : Mrg P Q i (j + 1) (out ++ [y]) := by
  have hjl := (List.getElem?_eq_some_iff.1 hy).1
  have hq : ∀ z ∈ Q.take j, adLt z.1 y.1 = true := fun z hz => let ⟨k, hk, e⟩ := mem_take_at hz; sortedM_at hQ.sorted e hy hk
  have hp : ∀ z ∈ P.take i, adLt z.1 y.1 = true := fun z hz => h.lo z hz j y (Nat.le_refl _) hy
  have hz := hQ.each y (List.mem_of_getElem? hy)
  refine ⟨h.li, hjl, ?_, fun z hz k x hk hx => h.lo z hz k x (by omega) hx, fun z hz k x hk hx => ?_⟩
  · rw [way_snoc (P1 := P.take i) (Q1 := Q.take j) (a := y.1) (hP.sorted.sublist (List.take_sublist ..)) (hP.sorted.sublist (List.take_sublist ..)) (fun b => by rw [take_keys hy]; simp only [or_assoc])
      (fun b _ => rfl) (fun b hb => by rw [List.take_add_one, hy]; exact lkM_off hb) (fun b hb => hb.elim (key_lt hp) (key_lt hq)), ← h.is]
    have hd : diffP (P.take i) (Q.take (j + 1)) y.1 = true := by
      unfold diffP getP
      rw [lk_last hQ.sorted hy, lk_past hp, Option.getD_some, Option.getD_none, (same_zero hz.2.2.1).2]; rfl
    rw [if_pos hd]
    unfold getP
    rw [lk_last hQ.sorted hy, Option.getD_some, hz.2.2.2.1]
  · rw [List.take_add_one, hy] at hz
    rcases List.mem_append.1 hz with hz | hz
    · exact h.hi z hz k x hk hx
    · rw [show z = y by simpa using hz]
      by_cases e : k = i
      · subst e; exact hn x hx
      · have hip : i < P.length := by have := (List.getElem?_eq_some_iff.1 hx).1; omega
        exact adLt_trP (hn P[i] (List.getElem?_eq_getElem hip)) (sortedM_at hP.sorted (List.getElem?_eq_getElem hip) hx (by omega))
/-- Both have the cell. -/
theorem Mrg.both (h : Mrg P Q i j out) (hP : GOk P) (hQ : GOk Q) {x y : Ad × ContT} (hx : P[i]? = some x) (hy : Q[j]? = some y) (he : x.1 = y.1) : Mrg P Q (i + 1) (j + 1) (out ++ (if sameCB x.2 y.2 = true then [] else [y])) := by
  have hil := (List.getElem?_eq_some_iff.1 hx).1
  have hjl := (List.getElem?_eq_some_iff.1 hy).1
  have hp : ∀ z ∈ P.take i, adLt z.1 y.1 = true := fun z hz => h.lo z hz j y (Nat.le_refl _) hy
  have hq : ∀ z ∈ Q.take j, adLt z.1 y.1 = true := fun z hz => let ⟨k, hk, e⟩ := mem_take_at hz; sortedM_at hQ.sorted e hy hk
  have hz := hQ.each y (List.mem_of_getElem? hy)
  have hlx := lk_last hP.sorted hx
  rw [he] at hlx
  refine ⟨hil, hjl, ?_, fun z hz k u hk hu => ?_, fun z hz k u hk hu => ?_⟩
  · rw [way_snoc (P1 := P.take i) (Q1 := Q.take j) (a := y.1) (hP.sorted.sublist (List.take_sublist ..)) (hP.sorted.sublist (List.take_sublist ..)) (fun b => by rw [take_keys hx, take_keys hy, he]; constructor <;> (intro h; rcases h with (h | h) | h | h <;> simp [h]) <;> simp_all)
      (fun b hb => by rw [List.take_add_one, hx]; exact lkM_off (v := x.2) (by rw [he]; exact hb)) (fun b hb => by rw [List.take_add_one, hy]; exact lkM_off hb) (fun b hb => hb.elim (key_lt hp) (key_lt hq)), ← h.is]
    congr 1
    unfold diffP getP
    rw [lk_last hQ.sorted hy, hlx, Option.getD_some, Option.getD_some, hz.2.2.2.1]
    cases sameCB x.2 y.2 <;> rfl
  · rw [List.take_add_one, hx] at hz
    rcases List.mem_append.1 hz with hz | hz
    · exact h.lo z hz k u (by omega) hu
    · rw [show z = x by simpa using hz, he]
      exact sortedM_at hQ.sorted hy hu (by omega)
  · rw [List.take_add_one, hy] at hz
    rcases List.mem_append.1 hz with hz | hz
    · exact h.hi z hz k u (by omega) hu
    · rw [show z = y by simpa using hz, ← he]
      exact sortedM_at hP.sorted hx hu (by omega)
theorem Mrg.stop (h : Mrg P Q P.length Q.length out) : out = wayP P Q := by
  have := h.is
  rwa [List.take_length, List.take_length] at this
end
theorem cover : ∀ {l k : List Ad}, l.Nodup → (∀ a ∈ l, a ∈ k) → k.length ≤ l.length → ∀ a ∈ k, a ∈ l
  | [], k, _, _, hl, a, ha => by rw [List.eq_nil_of_length_eq_zero (Nat.le_zero.1 hl)] at ha; exact ha
  | x :: r, k, hn, hs, hl, a, ha => by
    obtain ⟨h1, h2⟩ := List.nodup_cons.1 hn
    by_cases e : a = x
    · rw [e]; exact List.mem_cons_self
    · refine List.mem_cons_of_mem _ (cover (k := k.erase x) h2 (fun b hb => (List.mem_erase_of_ne (fun e : b = x => h1 (e ▸ hb))).2 (hs b (List.mem_cons_of_mem _ hb))) ?_ a ((List.mem_erase_of_ne e).2 ha))
      have := List.length_erase_of_mem (hs x List.mem_cons_self)
      rw [List.length_cons] at hl
      omega
/-- Nothing leads from one to the other: just where they are equal. -/
theorem way_none {P Q : PG} (hP : GOk P) (hQ : GOk Q) : (((wayP P Q).length : Int) == 0) = eqPB P Q := by
  have hmem := (wayK_sorted hP.sorted Q).2
  rw [Bool.eq_iff_iff]
  have hnil : (((wayP P Q).length : Int) == 0) = true ↔ ∀ a ∈ wayK P Q, diffP P Q a = false := by
    unfold wayP
    rw [List.length_map, beq_iff_eq]
    constructor
    · intro h a ha
      have h0 : (wayK P Q).filter (diffP P Q) = [] := List.eq_nil_of_length_eq_zero (by omega)
      simpa using List.filter_eq_nil_iff.1 h0 a ha
    · intro h
      rw [List.filter_eq_nil_iff.2 fun a ha => by rw [h a ha]; simp]; rfl
  have key : ∀ {a : Ad} {x : ContT} {M : PG}, GOk M → lkM a M = some x → (x.kind == 0) = false := fun hM hl => (hM.each _ (lkM_mem hl)).2.2.1
  rw [hnil]
  constructor
  · intro h
    have both : ∀ a, ((lkM a P).isSome = true ↔ (lkM a Q).isSome = true) ∧ ((lkM a P).isSome = true → okAtP P Q a = true) := fun a => by
      cases hl : lkM a P with
      | none =>
        cases hk : lkM a Q with
        | none => simp
        | some y =>
          have hd := h a ((hmem a).2 (Or.inr (lkM_mem_iff.1 (by rw [hk]; rfl))))
          unfold diffP getP at hd
          rw [hl, hk, Option.getD_none, Option.getD_some, (same_zero (key hQ hk)).2] at hd
          cases hd
      | some x =>
        have hd := h a ((hmem a).2 (Or.inl (lkM_mem_iff.1 (by rw [hl]; rfl))))
        cases hk : lkM a Q with
        | none =>
          unfold diffP getP at hd
          rw [hl, hk, Option.getD_none, Option.getD_some, (same_zero (key hP hl)).1] at hd
          cases hd
        | some y =>
          unfold diffP getP at hd
          rw [hl, hk, Option.getD_some, Option.getD_some] at hd
          refine ⟨by simp, fun _ => ?_⟩
          unfold okAtP
          rw [hl, hk]
          simpa using hd
    have hk : P.map (·.1) = Q.map (·.1) := sorted_ext (by rw [List.pairwise_map]; exact hP.sorted) (by rw [List.pairwise_map]; exact hQ.sorted) fun a => by rw [← lkM_mem_iff, ← lkM_mem_iff]; exact (both a).1
    exact eqPB_of (by have := congrArg List.length hk; simpa using this) fun a ha => (both a).2 (lkM_mem_iff.2 ha)
  · intro h a ha
    unfold eqPB at h
    rw [Bool.and_eq_true, decide_eq_true_eq, List.all_eq_true] at h
    obtain ⟨hl, ho⟩ := h
    have hsub : ∀ b, b ∈ P.map (·.1) → b ∈ Q.map (·.1) := fun b hb => by
      have := ho b hb
      unfold okAtP at this
      cases hk : lkM b Q with
      | none => rw [hk] at this; cases hl2 : lkM b P <;> rw [hl2] at this <;> cases this
      | some y => exact lkM_mem_iff.1 (by rw [hk]; rfl)
    have haP : a ∈ P.map (·.1) := ((hmem a).1 ha).elim id fun hq => cover (nodup_keys hP.sorted) hsub (by simp [hl]) a hq
    have := ho a haP
    unfold okAtP at this
    unfold diffP getP
    cases hl2 : lkM a P with
    | none => rw [hl2] at this; cases this
    | some x =>
      cases hk : lkM a Q with
      | none => rw [hl2, hk] at this; cases this
      | some y => rw [hl2, hk] at this; simp [this]
theorem er_none {M N : GM} (hP : GOk (er M)) (hQ : GOk (er N)) : eqMB M N = (((wayP (er M) (er N)).length : Int) == 0) := by rw [way_none hP hQ, er_eq]
end
end Go.Proofs.YtideclfpbpjebaaGreatDoor
