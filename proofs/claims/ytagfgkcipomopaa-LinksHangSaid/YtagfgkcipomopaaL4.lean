import Derived.Test.YtagfgkcipomopaaW3
namespace Go.Proofs.Ytagfgkcipomopaa
open Go.RowKit Go.Sort Go.MapKept

theorem SlOf.xt {α : Type} {w w' : World} {enc : α → List Value} {sz : Nat} {v : Value} {l : List α} (h : SlOf w enc sz v l) (hx : Xt w w') : SlOf w' enc sz v l := by
  obtain ⟨a, cap, rfl, q1, q2, h2⟩ := h
  refine ⟨a, cap, rfl, q1, q2, fun hl => ?_⟩
  obtain ⟨b, off, rfl, hc⟩ := h2 hl
  refine ⟨b, off, rfl, fun k x hk i u hu => ?_⟩
  have h0 := hc k x hk i u hu
  exact ((hx.cells).1 _ _ (World.block_lt_of_cell? w _ h0)).trans h0
/-! ### what is set, in order -/
abbrev Mp := List (Ad × List Ar)
def lkM (a : Ad) : Mp → Option (List Ar)
  | [] => none
  | x :: r => if x.1 = a then some x.2 else lkM a r
def setM (a : Ad) (l : List Ar) : Mp → Mp
  | [] => [(a, l)]
  | x :: r => if x.1 = a then (a, l) :: r else if adLt a x.1 = true then (a, l) :: x :: r else x :: setM a l r
def delM (a : Ad) (M : Mp) : Mp := M.filter (fun x => !decide (x.1 = a))
def SortedM (M : Mp) : Prop := M.Pairwise (fun x y => adLt x.1 y.1 = true)
theorem lkM_none {a : Ad} : ∀ {M : Mp}, lkM a M = none ↔ ∀ x ∈ M, x.1 ≠ a
  | [] => by simp [lkM]
  | x :: r => by
    unfold lkM
    by_cases hx : x.1 = a
    · simp [hx]
    · simp only [hx, if_false, List.mem_cons, forall_eq_or_imp]
      rw [lkM_none (M := r)]
      exact ⟨fun h => ⟨hx, h⟩, fun h => h.2⟩
theorem lkM_mem {a : Ad} {l : List Ar} : ∀ {M : Mp}, lkM a M = some l → (a, l) ∈ M
  | [], h => by simp [lkM] at h
  | x :: r, h => by
    unfold lkM at h
    by_cases hx : x.1 = a
    · simp only [hx, if_true, Option.some.injEq] at h
      subst h; subst hx; simp
    · simp only [hx, if_false] at h
      exact List.mem_cons_of_mem _ (lkM_mem h)
theorem lkM_set (a b : Ad) (l : List Ar) : ∀ (M : Mp), lkM b (setM a l M) = if a = b then some l else lkM b M
  | [] => by simp [setM, lkM]
  | x :: r => by
    unfold setM
    by_cases hx : x.1 = a
    · simp only [hx, if_true]
      unfold lkM
      by_cases hab : a = b
      · simp [hab]
      · have : ¬ x.1 = b := fun e => hab (hx.symm.trans e)
        simp [hab, this]
    · simp only [hx, if_false]
      by_cases hl : adLt a x.1 = true
      · simp only [hl, if_true]
        conv => lhs; unfold lkM
      · simp only [hl, Bool.false_eq_true, if_false]
        unfold lkM
        by_cases hb : x.1 = b
        · have : ¬ a = b := fun e => hx (hb.trans e.symm)
          simp [hb, this]
        · simp only [hb, if_false]
          exact lkM_set a b l r
theorem adLt_irrefl (a : Ad) : adLt a a = false := swo_ad.irrefl a
theorem adLt_tri (a b : Ad) : a = b ∨ adLt a b = true ∨ adLt b a = true := by
  simp only [adLt_iff, Prod.ext_iff]; omega
theorem mem_setM {a : Ad} {l : List Ar} : ∀ {M : Mp} {x : Ad × List Ar}, x ∈ setM a l M → x = (a, l) ∨ x ∈ M
  | [], x, h => by simp [setM] at h; exact Or.inl h
  | y :: r, x, h => by
    unfold setM at h
    split at h
    · simp at h; rcases h with h | h
      · exact Or.inl h
      · exact Or.inr (by simp [h])
    · split at h
      · simp at h; rcases h with h | h | h
        · exact Or.inl h
        · exact Or.inr (by simp [h])
        · exact Or.inr (by simp [h])
      · simp at h; rcases h with h | h
        · exact Or.inr (by simp [h])
        · rcases mem_setM h with h | h
          · exact Or.inl h
          · exact Or.inr (by simp [h])
theorem sorted_setM (a : Ad) (l : List Ar) : ∀ {M : Mp}, SortedM M → SortedM (setM a l M)
  | [], _ => by simp [setM, SortedM]
  | x :: r, h => by
    obtain ⟨h1, h2⟩ := List.pairwise_cons.1 h
    unfold setM
    by_cases hx : x.1 = a
    · simp only [hx, if_true]
      exact List.pairwise_cons.2 ⟨fun y hy => by have := h1 y hy; rw [hx] at this; exact this, h2⟩
    · simp only [hx, if_false]
      by_cases hl : adLt a x.1 = true
      · simp only [hl, if_true]
        refine List.pairwise_cons.2 ⟨fun y hy => ?_, h⟩
        rcases List.mem_cons.1 hy with rfl | hy
        · exact hl
        · exact swo_ad.trans _ _ _ hl (h1 y hy)
      · simp only [hl, Bool.false_eq_true, if_false]
        refine List.pairwise_cons.2 ⟨fun y hy => ?_, sorted_setM a l h2⟩
        rcases mem_setM hy with rfl | hy
        · rcases adLt_tri a x.1 with e | e | e
          · exact absurd e.symm hx
          · exact absurd e hl
          · exact e
        · exact h1 y hy
theorem sorted_delM (a : Ad) {M : Mp} (h : SortedM M) : SortedM (delM a M) := h.filter _
theorem lkM_del (a b : Ad) : ∀ (M : Mp), lkM b (delM a M) = if a = b then none else lkM b M
  | [] => by simp [delM, lkM]
  | x :: r => by
    have ih := lkM_del a b r
    unfold delM at ih ⊢
    rw [List.filter_cons]
    by_cases hx : x.1 = a
    · simp only [hx, decide_true, Bool.not_true, Bool.false_eq_true, if_false]
      rw [ih]
      by_cases hab : a = b
      · simp [hab]
      · have : ¬ x.1 = b := fun e => hab (hx.symm.trans e)
        simp [hab, lkM, this]
    · simp only [hx, decide_false, Bool.not_false, if_true]
      unfold lkM
      by_cases hb : x.1 = b
      · have : ¬ a = b := fun e => hx (hb.trans e.symm)
        simp [hb, this]
      · simp only [hb, if_false]
        exact ih
theorem nodup_M {M : Mp} (h : SortedM M) : (M.map (·.1)).Nodup := by
  unfold List.Nodup
  rw [List.pairwise_map]
  exact h.imp fun hlt e => by rw [e, adLt_irrefl] at hlt; cases hlt
/-! ### the map and the list -/
/-- The map's entries tell just this list; their slices lie in blocks of F. -/
structure Ents (w : World) (F : Nat → Prop) (E : List (Ad × Value)) (M : Mp) : Prop where
  sorted : SortedM M
  no : ∀ a, lkM a M = none → lk a E = none
  yes : ∀ a l, lkM a M = some l → ∃ v, lk a E = some v ∧ SlOf w arC 4 v l ∧ slIn F v
theorem Ents.look {w : World} {F : Nat → Prop} {E : List (Ad × Value)} {M : Mp} (h : Ents w F E M) (a : Ad) : SlOf w arC 4 ((lk a E).getD (.slice none 0 0)) ((lkM a M).getD []) ∧ slIn F ((lk a E).getD (.slice none 0 0)) ∧ (lk a E).isSome = (lkM a M).isSome := by
  cases hM : lkM a M with
  | none =>
    rw [h.no a hM]
    exact ⟨SlOf.nil _ _ _ _ _ (by omega), fun _ _ _ e => (by cases e), rfl⟩
  | some l =>
    obtain ⟨v, h1, h2, h3⟩ := h.yes a l hM
    rw [h1]
    exact ⟨h2, h3, rfl⟩
theorem lk_mem_iff {a : Ad} {E : List (Ad × Value)} : (lk a E).isSome = true ↔ a ∈ E.map (·.1) := by
  cases h : lk a E with
  | none =>
    have := lk_none.1 h
    simp only [Option.isSome_none, Bool.false_eq_true, false_iff, List.mem_map, not_exists, not_and]
    exact this
  | some v =>
    simp only [Option.isSome_some, true_iff]
    have : ¬ (lk a E = none) := by rw [h]; simp
    rw [lk_none] at this
    simp only [ne_eq, Classical.not_forall, Classical.not_not, exists_prop] at this
    obtain ⟨x, hx, he⟩ := this
    exact List.mem_map.2 ⟨x, hx, he⟩
theorem lkM_mem_iff {a : Ad} {M : Mp} : (lkM a M).isSome = true ↔ a ∈ M.map (·.1) := by
  cases h : lkM a M with
  | none =>
    have := lkM_none.1 h
    simp only [Option.isSome_none, Bool.false_eq_true, false_iff, List.mem_map, not_exists, not_and]
    exact this
  | some v =>
    simp only [Option.isSome_some, true_iff]
    exact List.mem_map.2 ⟨_, lkM_mem h, rfl⟩
theorem Ents.perm {w : World} {F : Nat → Prop} {E : List (Ad × Value)} {M : Mp} (h : Ents w F E M) (hn : (E.map (·.1)).Nodup) : (E.map (·.1)).Perm (M.map (·.1)) := by
  refine (List.perm_ext_iff_of_nodup hn (nodup_M h.sorted)).2 fun a => ?_
  rw [← lk_mem_iff, ← lkM_mem_iff, (h.look a).2.2]
theorem Ents.len {w : World} {F : Nat → Prop} {E : List (Ad × Value)} {M : Mp} (h : Ents w F E M) (hn : (E.map (·.1)).Nodup) : E.length = M.length := by
  have := (h.perm hn).length_eq
  simpa using this
theorem Ents.keep {w w' : World} {F F' : Nat → Prop} {E : List (Ad × Value)} {M : Mp} (h : Ents w F E M) (hk : ∀ b, F b → w'.heap[b]? = w.heap[b]?) (hF : ∀ b, F b → F' b) : Ents w' F' E M :=
  ⟨h.sorted, h.no, fun a l hl => by obtain ⟨v, h1, h2, h3⟩ := h.yes a l hl; exact ⟨v, h1, h2.keep h3 hk, fun a n c e => hF _ (h3 a n c e)⟩⟩
theorem lk_up (a b : Ad) (v : Value) (E : List (Ad × Value)) : lk b (upE a v E) = if a = b then some v else lk b E := by
  unfold upE
  cases hs : (lk a E).isSome with
  | true =>
    simp only [if_true]
    induction E with
    | nil => simp [lk] at hs
    | cons x r ih =>
      simp only [List.map_cons]
      unfold lk at hs ⊢
      by_cases hx : x.1 = a
      · simp only [hx, if_true]
        by_cases hab : a = b
        · simp [hab]
        · have hxb : ¬ x.1 = b := fun e => hab (hx.symm.trans e)
          simp only [hab, if_false]
          clear ih hs
          induction r with
          | nil => simp [lk]
          | cons y r ih2 =>
            simp only [List.map_cons]
            unfold lk
            by_cases hy : y.1 = a
            · have hyb : ¬ y.1 = b := fun e => hab (hy.symm.trans e)
              simp only [hy, if_true, hab, if_false]
              exact ih2
            · simp only [hy, if_false]
              by_cases hyb : y.1 = b
              · simp [hyb]
              · simp only [hyb, if_false]; exact ih2
      · simp only [hx, if_false] at hs ⊢
        by_cases hxb : x.1 = b
        · have : ¬ a = b := fun e => hx (hxb.trans e.symm)
          simp [hxb, this]
        · simp only [hxb, if_false]; exact ih hs
  | false =>
    simp only [Bool.false_eq_true, if_false]
    have hn : lk a E = none := by simpa using hs
    induction E with
    | nil => simp [lk]
    | cons x r ih =>
      unfold lk at hn
      by_cases hx : x.1 = a
      · simp [hx] at hn
      · simp only [hx, if_false] at hn
        simp only [List.cons_append]
        unfold lk
        by_cases hxb : x.1 = b
        · have : ¬ a = b := fun e => hx (hxb.trans e.symm)
          simp [hxb, this]
        · simp only [hxb, if_false]
          exact ih (by simp [hn]) hn
theorem lk_dl (a b : Ad) : ∀ (E : List (Ad × Value)), lk b (dlE a E) = if a = b then none else lk b E
  | [] => by simp [dlE, lk]
  | x :: r => by
    have ih := lk_dl a b r
    unfold dlE at ih ⊢
    rw [List.filter_cons]
    by_cases hx : x.1 = a
    · simp only [hx, decide_true, Bool.not_true, Bool.false_eq_true, if_false]
      rw [ih]
      by_cases hab : a = b
      · simp [hab]
      · have : ¬ x.1 = b := fun e => hab (hx.symm.trans e)
        simp [hab, lk, this]
    · simp only [hx, decide_false, Bool.not_false, if_true]
      unfold lk
      by_cases hb : x.1 = b
      · have : ¬ a = b := fun e => hx (hb.trans e.symm)
        simp [hb, this]
      · simp only [hb, if_false]
        exact ih
theorem Ents.set {w : World} {F : Nat → Prop} {E : List (Ad × Value)} {M : Mp} (h : Ents w F E M) {a : Ad} {v : Value} {l : List Ar} (hv : SlOf w arC 4 v l) (hF : slIn F v) : Ents w F (upE a v E) (setM a l M) where
  sorted := sorted_setM a l h.sorted
  no b hb := by
    rw [lkM_set] at hb
    rw [lk_up]
    split at hb
    · cases hb
    · rename_i hab; rw [if_neg hab]; exact h.no b hb
  yes b l' hb := by
    rw [lkM_set] at hb
    rw [lk_up]
    split at hb
    · rename_i hab; rw [if_pos hab]; cases hb; exact ⟨v, rfl, hv, hF⟩
    · rename_i hab; rw [if_neg hab]; exact h.yes b l' hb
theorem Ents.del {w : World} {F : Nat → Prop} {E : List (Ad × Value)} {M : Mp} (h : Ents w F E M) (a : Ad) : Ents w F (dlE a E) (delM a M) where
  sorted := sorted_delM a h.sorted
  no b hb := by
    rw [lkM_del] at hb
    rw [lk_dl]
    split at hb
    · rename_i hab; rw [if_pos hab]
    · rename_i hab; rw [if_neg hab]; exact h.no b hb
  yes b l' hb := by
    rw [lkM_del] at hb
    rw [lk_dl]
    split at hb
    · cases hb
    · rename_i hab; rw [if_neg hab]; exact h.yes b l' hb
/-- Links behind a pointer: which cell uses what. -/
structure Lk (w : World) (pb bm : Nat) (F : Nat → Prop) (M : Mp) : Prop where
  cell : w.cell? ⟨pb, 0, none⟩ = some (.map (some bm))
  inP : F pb
  inM : F bm
  map : ∃ E, MapIs w bm E ∧ Ents w F E M
  many : M.length ≤ 4096
  few : ∀ x ∈ M, x.2.length ≤ 256
theorem Lk.keep {w w' : World} {pb bm : Nat} {F F' : Nat → Prop} {M : Mp} (h : Lk w pb bm F M) (hk : ∀ b, F b → w'.heap[b]? = w.heap[b]?) (hF : ∀ b, F b → F' b) : Lk w' pb bm F' M := by
  obtain ⟨E, hm, he⟩ := h.map
  exact ⟨(World.cell?_of_block (w := w) (a := ⟨pb, 0, none⟩) (hk pb h.inP)).trans h.cell, hF _ h.inP, hF _ h.inM, ⟨E, hm.of_heap (hk bm h.inM), he.keep hk hF⟩, h.many, h.few⟩
theorem sl_keep' {w w' : World} {v : Value} {l : List Ar} {F : Nat → Prop} {bm : Nat} (h : SlOf w arC 4 v l) (hF : slIn F v) (hk : ∀ b, F b → b ≠ bm → w'.heap[b]? = w.heap[b]?) (hb : ∀ o, w.cell? ⟨bm, o, none⟩ = none) : SlOf w' arC 4 v l := by
  obtain ⟨a, cap, rfl, q1, q2, h2⟩ := h
  refine ⟨a, cap, rfl, q1, q2, fun hl => ?_⟩
  obtain ⟨b, off, rfl, hc⟩ := h2 hl
  have hne : b ≠ bm := by
    intro e; subst e
    cases l with
    | nil => exact hl rfl
    | cons x l =>
      have := hc 0 x rfl 0 _ rfl
      rw [hb] at this; cases this
  have hbb : w'.heap[b]? = w.heap[b]? := hk b (hF _ _ _ rfl) hne
  exact ⟨b, off, rfl, fun k x hx i u hu => (World.cell?_of_block (w := w) (a := ⟨b, off + k * 4 + i, none⟩) hbb).trans (hc k x hx i u hu)⟩
theorem Ents.keep' {w w' : World} {F F' : Nat → Prop} {E : List (Ad × Value)} {M : Mp} {bm : Nat} (h : Ents w F E M) (hk : ∀ b, F b → b ≠ bm → w'.heap[b]? = w.heap[b]?) (hb : ∀ o, w.cell? ⟨bm, o, none⟩ = none) (hF : ∀ b, F b → F' b) : Ents w' F' E M :=
  ⟨h.sorted, h.no, fun a l hl => by obtain ⟨v, h1, h2, h3⟩ := h.yes a l hl; exact ⟨v, h1, sl_keep' h2 h3 hk hb, fun a n c e => hF _ (h3 a n c e)⟩⟩
theorem MapIs.nocell {w : World} {b : Nat} {E : List (Ad × Value)} (h : MapIs w b E) (o : Nat) : w.cell? ⟨b, o, none⟩ = none := by
  obtain ⟨es, c, h1, _⟩ := h
  simp [World.cell?, h1]
theorem Lk.fewAt {w : World} {pb bm : Nat} {F : Nat → Prop} {M : Mp} (h : Lk w pb bm F M) (a : Ad) : ((lkM a M).getD []).length ≤ 256 := by
  cases hm : lkM a M with
  | none => simp
  | some l => exact h.few _ (lkM_mem hm)
theorem delM_len (a : Ad) (M : Mp) : (delM a M).length ≤ M.length := List.length_filter_le ..
/-- The map's block is written, the rest stands: Links of another list. -/
theorem Lk.wrote {w w' : World} {pb bm : Nat} {F F' : Nat → Prop} {M M' : Mp} (h : Lk w pb bm F M) (hk : ∀ b, F b → b ≠ bm → w'.heap[b]? = w.heap[b]?) (hF : ∀ b, F b → F' b) {E' : List (Ad × Value)} (hm : MapIs w' bm E') (he : Ents w' F' E' M') (hn : M'.length ≤ 4096) (hw : ∀ x ∈ M', x.2.length ≤ 256) : Lk w' pb bm F' M' := by
  have hne : pb ≠ bm := by
    intro e; subst e
    obtain ⟨E, hm0, _⟩ := h.map
    have := h.cell; rw [hm0.nocell] at this; cases this
  exact ⟨(World.cell?_of_block (w := w) (a := ⟨pb, 0, none⟩) (hk pb h.inP hne)).trans h.cell, hF _ h.inP, hF _ h.inM, ⟨E', hm, he⟩, hn, hw⟩
end Go.Proofs.Ytagfgkcipomopaa
