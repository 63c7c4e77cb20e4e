import Derived.Test.YtakcadkffmfneaaDoorD8
import Derived.Test.YtakcadkffmfneaaDoorA5
namespace Go.Proofs.YtakcadkffmfneaaDoor
open Go.RowKit Go.Sort Go.MapKept

/-! ### lists of what cells have, in order -/
section
variable {α : Type}
def lkM (a : Ad) : List (Ad × α) → Option α
  | [] => none
  | x :: r => if x.1 = a then some x.2 else lkM a r
def setM (a : Ad) (l : α) : List (Ad × α) → List (Ad × α)
  | [] => [(a, l)]
  | x :: r => if x.1 = a then (a, l) :: r else if adLt a x.1 = true then (a, l) :: x :: r else x :: setM a l r
def delM (a : Ad) (M : List (Ad × α)) : List (Ad × α) := M.filter (fun x => !decide (x.1 = a))
def SortedM (M : List (Ad × α)) : Prop := M.Pairwise (fun x y => adLt x.1 y.1 = true)
theorem lkM_none {a : Ad} : ∀ {M : List (Ad × α)}, lkM a M = none ↔ ∀ x ∈ M, x.1 ≠ a
  | [] => by simp [lkM]
  | x :: r => by
    unfold lkM
    by_cases hx : x.1 = a
    · simp [hx]
    · simp only [hx, if_false, List.mem_cons, forall_eq_or_imp]
      rw [lkM_none (M := r)]
      exact ⟨fun h => ⟨hx, h⟩, fun h => h.2⟩
theorem lkM_mem {a : Ad} {l : α} : ∀ {M : List (Ad × α)}, lkM a M = some l → (a, l) ∈ M
  | [], h => by simp [lkM] at h
  | x :: r, h => by
    unfold lkM at h
    by_cases hx : x.1 = a
    · simp only [hx, if_true, Option.some.injEq] at h
      subst h; subst hx; simp
    · simp only [hx, if_false] at h
      exact List.mem_cons_of_mem _ (lkM_mem h)
theorem lkM_set (a b : Ad) (l : α) : ∀ (M : List (Ad × α)), lkM b (setM a l M) = if a = b then some l else lkM b M
  | [] => by simp [setM, lkM]
  | x :: r => by
    unfold setM
    by_cases hx : x.1 = a
    · simp only [hx, if_true]
      unfold lkM
      by_cases hab : a = b
      · simp [hab]
      · have : ¬ x.1 = b := fun e => hab (hx.symm.trans e)
        simp [hab, this]
    · simp only [hx, if_false]
      by_cases hl : adLt a x.1 = true
      · simp only [hl, if_true]
        conv => lhs; unfold lkM
      · simp only [hl, Bool.false_eq_true, if_false]
        unfold lkM
        by_cases hb : x.1 = b
        · have : ¬ a = b := fun e => hx (hb.trans e.symm)
          simp [hb, this]
        · simp only [hb, if_false]
          exact lkM_set a b l r
theorem adLt_irrefl (a : Ad) : adLt a a = false := swo_ad.irrefl a
theorem adLt_tri (a b : Ad) : a = b ∨ adLt a b = true ∨ adLt b a = true := by
  simp only [adLt_iff, Prod.ext_iff]; omega
theorem mem_setM {a : Ad} {l : α} : ∀ {M : List (Ad × α)} {x : Ad × α}, x ∈ setM a l M → x = (a, l) ∨ x ∈ M
  | [], x, h => by simp [setM] at h; exact Or.inl h
  | y :: r, x, h => by
    unfold setM at h
    split at h
    · simp at h; rcases h with h | h
      · exact Or.inl h
      · exact Or.inr (by simp [h])
    · split at h
      · simp at h; rcases h with h | h | h
        · exact Or.inl h
        · exact Or.inr (by simp [h])
        · exact Or.inr (by simp [h])
      · simp at h; rcases h with h | h
        · exact Or.inr (by simp [h])
        · rcases mem_setM h with h | h
          · exact Or.inl h
          · exact Or.inr (by simp [h])
theorem sorted_setM (a : Ad) (l : α) : ∀ {M : List (Ad × α)}, SortedM M → SortedM (setM a l M)
  | [], _ => by simp [setM, SortedM]
  | x :: r, h => by
    obtain ⟨h1, h2⟩ := List.pairwise_cons.1 h
    unfold setM
    by_cases hx : x.1 = a
    · simp only [hx, if_true]
      exact List.pairwise_cons.2 ⟨fun y hy => by have := h1 y hy; rw [hx] at this; exact this, h2⟩
    · simp only [hx, if_false]
      by_cases hl : adLt a x.1 = true
      · simp only [hl, if_true]
        refine List.pairwise_cons.2 ⟨fun y hy => ?_, h⟩
        rcases List.mem_cons.1 hy with rfl | hy
        · exact hl
        · exact swo_ad.trans _ _ _ hl (h1 y hy)
      · simp only [hl, Bool.false_eq_true, if_false]
        refine List.pairwise_cons.2 ⟨fun y hy => ?_, sorted_setM a l h2⟩
        rcases mem_setM hy with rfl | hy
        · rcases adLt_tri a x.1 with e | e | e
          · exact absurd e.symm hx
          · exact absurd e hl
          · exact e
        · exact h1 y hy
theorem sorted_delM (a : Ad) {M : List (Ad × α)} (h : SortedM M) : SortedM (delM a M) := h.filter _
theorem lkM_del (a b : Ad) : ∀ (M : List (Ad × α)), lkM b (delM a M) = if a = b then none else lkM b M
  | [] => by simp [delM, lkM]
  | x :: r => by
    have ih := lkM_del a b r
    unfold delM at ih ⊢
    rw [List.filter_cons]
    by_cases hx : x.1 = a
    · simp only [hx, decide_true, Bool.not_true, Bool.false_eq_true, if_false]
      rw [ih]
      by_cases hab : a = b
      · simp [hab]
      · have : ¬ x.1 = b := fun e => hab (hx.symm.trans e)
        simp [hab, lkM, this]
    · simp only [hx, decide_false, Bool.not_false, if_true]
      unfold lkM
      by_cases hb : x.1 = b
      · have : ¬ a = b := fun e => hx (hb.trans e.symm)
        simp [hb, this]
      · simp only [hb, if_false]
        exact ih
theorem nodup_M {M : List (Ad × α)} (h : SortedM M) : (M.map (·.1)).Nodup := by
  unfold List.Nodup
  rw [List.pairwise_map]
  exact h.imp fun hlt e => by rw [e, adLt_irrefl] at hlt; cases hlt
theorem lk_mem_iff {a : Ad} {E : List (Ad × Value)} : (lk a E).isSome = true ↔ a ∈ E.map (·.1) := by
  cases h : lk a E with
  | none =>
    have := lk_none.1 h
    simp only [Option.isSome_none, Bool.false_eq_true, false_iff, List.mem_map, not_exists, not_and]
    exact this
  | some v =>
    simp only [Option.isSome_some, true_iff]
    have : ¬ (lk a E = none) := by rw [h]; simp
    rw [lk_none] at this
    simp only [ne_eq, Classical.not_forall, Classical.not_not, exists_prop] at this
    obtain ⟨x, hx, he⟩ := this
    exact List.mem_map.2 ⟨x, hx, he⟩
theorem lkM_mem_iff {a : Ad} {M : List (Ad × α)} : (lkM a M).isSome = true ↔ a ∈ M.map (·.1) := by
  cases h : lkM a M with
  | none =>
    have := lkM_none.1 h
    simp only [Option.isSome_none, Bool.false_eq_true, false_iff, List.mem_map, not_exists, not_and]
    exact this
  | some v =>
    simp only [Option.isSome_some, true_iff]
    exact List.mem_map.2 ⟨_, lkM_mem h, rfl⟩
theorem len_setM {a : Ad} {l : α} : ∀ {M : List (Ad × α)}, SortedM M → (lkM a M).isSome = true → (setM a l M).length = M.length
  | [], _, h => by simp [lkM] at h
  | x :: r, hs, h => by
    obtain ⟨h1, h2⟩ := List.pairwise_cons.1 hs
    unfold setM
    by_cases hx : x.1 = a
    · simp [hx]
    · unfold lkM at h
      simp only [hx, if_false] at h ⊢
      by_cases hl : adLt a x.1 = true
      · exfalso
        obtain ⟨y, hy⟩ := Option.isSome_iff_exists.1 h
        have := h1 _ (lkM_mem hy)
        have h3 := swo_ad.trans _ _ _ hl this
        rw [adLt_irrefl] at h3; cases h3
      · simp only [hl, Bool.false_eq_true, if_false, List.length_cons]
        rw [len_setM h2 h]
theorem len_setM_le {a : Ad} {l : α} : ∀ {M : List (Ad × α)}, (setM a l M).length ≤ M.length + 1
  | [] => by simp [setM]
  | x :: r => by
    unfold setM
    split
    · simp
    · split
      · simp
      · simp only [List.length_cons]; have := len_setM_le (a := a) (l := l) (M := r); omega
end
theorem lk_up (a b : Ad) (v : Value) (E : List (Ad × Value)) : lk b (upE a v E) = if a = b then some v else lk b E := by
  unfold upE
  cases hs : (lk a E).isSome with
  | true =>
    simp only [if_true]
    induction E with
    | nil => simp [lk] at hs
    | cons x r ih =>
      simp only [List.map_cons]
      unfold lk at hs ⊢
      by_cases hx : x.1 = a
      · simp only [hx, if_true]
        by_cases hab : a = b
        · simp [hab]
        · have hxb : ¬ x.1 = b := fun e => hab (hx.symm.trans e)
          simp only [hab, if_false]
          clear ih hs
          induction r with
          | nil => simp [lk]
          | cons y r ih2 =>
            simp only [List.map_cons]
            unfold lk
            by_cases hy : y.1 = a
            · have hyb : ¬ y.1 = b := fun e => hab (hy.symm.trans e)
              simp only [hy, if_true, hab, if_false]
              exact ih2
            · simp only [hy, if_false]
              by_cases hyb : y.1 = b
              · simp [hyb]
              · simp only [hyb, if_false]; exact ih2
      · simp only [hx, if_false] at hs ⊢
        by_cases hxb : x.1 = b
        · have : ¬ a = b := fun e => hx (hxb.trans e.symm)
          simp [hxb, this]
        · simp only [hxb, if_false]; exact ih hs
  | false =>
    simp only [Bool.false_eq_true, if_false]
    have hn : lk a E = none := by simpa using hs
    induction E with
    | nil => simp [lk]
    | cons x r ih =>
      unfold lk at hn
      by_cases hx : x.1 = a
      · simp [hx] at hn
      · simp only [hx, if_false] at hn
        simp only [List.cons_append]
        unfold lk
        by_cases hxb : x.1 = b
        · have : ¬ a = b := fun e => hx (hxb.trans e.symm)
          simp [hxb, this]
        · simp only [hxb, if_false]
          exact ih (by simp [hn]) hn
theorem lk_dl (a b : Ad) : ∀ (E : List (Ad × Value)), lk b (dlE a E) = if a = b then none else lk b E
  | [] => by simp [dlE, lk]
  | x :: r => by
    have ih := lk_dl a b r
    unfold dlE at ih ⊢
    rw [List.filter_cons]
    by_cases hx : x.1 = a
    · simp only [hx, decide_true, Bool.not_true, Bool.false_eq_true, if_false]
      rw [ih]
      by_cases hab : a = b
      · simp [hab]
      · have : ¬ x.1 = b := fun e => hab (hx.symm.trans e)
        simp [hab, lk, this]
    · simp only [hx, decide_false, Bool.not_false, if_true]
      unfold lk
      by_cases hb : x.1 = b
      · have : ¬ a = b := fun e => hx (hb.trans e.symm)
        simp [hb, this]
      · simp only [hb, if_false]
        exact ih
theorem MapIs.nocell {w : World} {b : Nat} {E : List (Ad × Value)} (h : MapIs w b E) (o : Nat) : w.cell? ⟨b, o, none⟩ = none := by
  obtain ⟨es, c, h1, _⟩ := h
  simp [World.cell?, h1]
theorem sortL_of {l ks : List Ad} (hl : l.Pairwise (fun x y => adLt x y = true)) (hp : ks.Perm l) : sortL adLt ks = l := by
  refine List.Perm.eq_of_pairwise (le := fun x y => (!adLt y x) = true) ?_ ?_ ?_ ((List.mergeSort_perm _ _).trans hp)
  · intro a b _ _ h1 h2
    exact tot_ad a b (by simpa using h2) (by simpa using h1)
  · refine List.pairwise_mergeSort (fun a b c h1 h2 => ?_) (fun a b => ?_) ks
    · simp only [Bool.not_eq_true', adLt_false] at *; omega
    · simp only [Bool.or_eq_true, Bool.not_eq_true', adLt_false]; omega
  · refine hl.imp fun {a b} h => ?_
    simp only [Bool.not_eq_true', adLt_false]
    rw [adLt_iff] at h; omega
/-! ### a grid in memory -/
/-- A content as a grid has it: its list lies clipped behind this address. -/
abbrev CE := ContT × Option Addr
abbrev GM := List (Ad × CE)
abbrev ceV (x : CE) : Value := contV x.1 x.2 x.1.t.args.length x.1.t.args.length
def ceIn (w : World) (x : CE) : Prop := smallT x.1.t ∧ ∃ n, ArgsIn w n (.slice x.2 x.1.t.args.length x.1.t.args.length) x.1.t.args
structure GridIs (w : World) (gb mb : Nat) (M : GM) : Prop where
  cell : w.cell? ⟨gb, 0, none⟩ = some (.map (some mb))
  map : ∃ E, MapIs w mb E ∧ ∀ a, lk a E = (lkM a M).map ceV
  sorted : SortedM M
  args : ∀ x ∈ M, ceIn w x.2
  many : M.length ≤ 4096
/-- No cell has turned. -/
def CellsIn (w w' : World) : Prop := ∀ b o u, w.cell? ⟨b, o, none⟩ = some u → w'.cell? ⟨b, o, none⟩ = some u
theorem CellsIn.refl (w : World) : CellsIn w w := fun _ _ _ h => h
theorem CellsIn.trans {a b c : World} (h : CellsIn a b) (k : CellsIn b c) : CellsIn a c := fun _ _ _ hu => k _ _ _ (h _ _ _ hu)
theorem Xt.cellsIn {w w' : World} (h : Xt w w') : CellsIn w w' := fun b o _u hu => ((h.cells).1 b o (World.block_lt_of_cell? w _ hu)).trans hu
theorem CellsIn.of_grown {w w' : World} {mb : Nat} {E : List (Ad × Value)} (hm : MapIs w mb E) (h : w.grownBy w' (some mb)) : CellsIn w w' := fun b o u hu => by
  have hne : b ≠ mb := fun e => by subst e; rw [hm.nocell] at hu; cases hu
  exact (World.cell?_of_block (w := w) (a := ⟨b, o, none⟩) (h.block b (World.block_lt_of_cell? w _ hu) (fun e => hne (by cases e; rfl)))).trans hu
theorem ArgsIn.kept {w w' : World} (hx : CellsIn w w') : ∀ {n : Nat} {av : Value} {l : List NodeT}, ArgsIn w n av l → ArgsIn w' n av l
  | 0, _, _, h => h
  | n + 1, _, _, h => by
    obtain ⟨a, cap, rfl, h1, h2, h3⟩ := h
    refine ⟨a, cap, rfl, h1, h2, fun hne => ?_⟩
    obtain ⟨b, off, rfl, hc⟩ := h3 hne
    refine ⟨b, off, rfl, fun k t ht => ?_⟩
    obtain ⟨av', hcell, hin⟩ := hc k t ht
    exact ⟨av', fun i u hu => hx _ _ _ (hcell i u hu), hin.kept hx⟩
theorem ceIn.kept {w w' : World} {x : CE} (h : ceIn w x) (hx : CellsIn w w') : ceIn w' x := ⟨h.1, let ⟨n, hn⟩ := h.2; ⟨n, hn.kept hx⟩⟩
theorem GridIs.lt {w : World} {gb mb : Nat} {M : GM} (h : GridIs w gb mb M) : gb < w.heap.size ∧ mb < w.heap.size := ⟨World.block_lt_of_cell? w _ h.cell, let ⟨_, hm, _⟩ := h.map; hm.lt⟩
theorem GridIs.ne {w : World} {gb mb : Nat} {M : GM} (h : GridIs w gb mb M) : gb ≠ mb := by
  intro e
  obtain ⟨E, hm, _⟩ := h.map
  have := h.cell
  rw [e, hm.nocell] at this; cases this
theorem GridIs.kept {w w' : World} {gb mb : Nat} {M : GM} (h : GridIs w gb mb M) (hx : CellsIn w w') (hm : w'.heap[mb]? = w.heap[mb]?) : GridIs w' gb mb M :=
  ⟨hx _ _ _ h.cell, let ⟨E, q1, q2⟩ := h.map; ⟨E, q1.of_heap hm, q2⟩, h.sorted, fun x hx' => (h.args x hx').kept hx, h.many⟩
theorem GridIs.xt {w w' : World} {gb mb : Nat} {M : GM} (h : GridIs w gb mb M) (hx : Xt w w') : GridIs w' gb mb M := h.kept hx.cellsIn (hx.block mb h.lt.2)
theorem GridIs.len {w : World} {gb mb : Nat} {M : GM} {E : List (Ad × Value)} (h : GridIs w gb mb M) (hm : MapIs w mb E) (he : ∀ a, lk a E = (lkM a M).map ceV) : E.length = M.length := by
  have hp : (E.map (·.1)).Perm (M.map (·.1)) := by
    refine (List.perm_ext_iff_of_nodup hm.nodup (nodup_M h.sorted)).2 fun a => ?_
    rw [← lk_mem_iff, ← lkM_mem_iff, he a]; simp
  have := hp.length_eq
  simpa using this
theorem GridIs.keys {w : World} {gb mb : Nat} {M : GM} {E : List (Ad × Value)} (h : GridIs w gb mb M) (hm : MapIs w mb E) (he : ∀ a, lk a E = (lkM a M).map ceV) : (E.map (·.1)).Perm (M.map (·.1)) := by
  refine (List.perm_ext_iff_of_nodup hm.nodup (nodup_M h.sorted)).2 fun a => ?_
  rw [← lk_mem_iff, ← lkM_mem_iff, he a]; simp
theorem lkM_mem' {a : Ad} {x : CE} {M : GM} (h : lkM a M = some x) : (a, x) ∈ M := lkM_mem h
theorem GridIs.put {w w' : World} {gb mb : Nat} {M : GM} (h : GridIs w gb mb M) (hx : CellsIn w w') {E' : List (Ad × Value)} {E : List (Ad × Value)} (he : ∀ a, lk a E = (lkM a M).map ceV) {a : Ad} {x : CE} (hE : E' = upE a (ceV x) E) (hm : MapIs w' mb E') (hxi : ceIn w' x) (hl : (setM a x M).length ≤ 4096) : GridIs w' gb mb (setM a x M) := by
  refine ⟨hx _ _ _ h.cell, ⟨E', hm, fun b => ?_⟩, sorted_setM a x h.sorted, fun y hy => ?_, hl⟩
  · rw [hE, lk_up, lkM_set, he b]
    split <;> simp
  · rcases mem_setM hy with rfl | hy
    · exact hxi
    · exact (h.args y hy).kept hx
theorem GridIs.del {w w' : World} {gb mb : Nat} {M : GM} (h : GridIs w gb mb M) (hx : CellsIn w w') {E' : List (Ad × Value)} {E : List (Ad × Value)} (he : ∀ a, lk a E = (lkM a M).map ceV) {a : Ad} (hE : E' = dlE a E) (hm : MapIs w' mb E') : GridIs w' gb mb (delM a M) := by
  refine ⟨hx _ _ _ h.cell, ⟨E', hm, fun b => ?_⟩, sorted_delM a h.sorted, fun y hy => (h.args y (List.mem_filter.1 hy).1).kept hx, Nat.le_trans (List.length_filter_le ..) h.many⟩
  rw [hE, lk_dl, lkM_del, he b]
  split <;> simp
/-- A content's box: laid empty, then filled. -/
theorem boxR (w : World) (x : CE) : ∃ wZ wR, w.alloc (.cells #[.int .i64 0, .int .i64 0, .float .f64 0, .string ⟨#[]⟩, .bool false, .int .i64 0, .int .i64 0, .int .i64 0, .float .f64 0, .string ⟨#[]⟩, .bool false, .int .i64 0, .int .i64 0, .int .i64 0, .bool false, .bool false, .int .i64 0, .int .i64 0, .bool false, .bool false, .slice none 0 0] 39) = wZ ∧ wZ.setRow w.heap.size #[.int .i64 x.1.kind, .int .i64 x.1.v.kind, .float .f64 x.1.v.x, .string x.1.v.s, .bool x.1.v.b, .int .i64 x.1.v.f, .int .i64 x.1.t.kind, .int .i64 x.1.t.op, .float .f64 x.1.t.x, .string x.1.t.s, .bool x.1.t.b, .int .i64 x.1.t.f, .int .i64 x.1.t.ref.a.1, .int .i64 x.1.t.ref.a.2, .bool x.1.t.ref.cf, .bool x.1.t.ref.rf, .int .i64 x.1.t.to.a.1, .int .i64 x.1.t.to.a.2, .bool x.1.t.to.cf, .bool x.1.t.to.rf, .slice x.2 x.1.t.args.length x.1.t.args.length] = wR ∧ wZ.heap[w.heap.size]? = some (.cells #[.int .i64 0, .int .i64 0, .float .f64 0, .string ⟨#[]⟩, .bool false, .int .i64 0, .int .i64 0, .int .i64 0, .float .f64 0, .string ⟨#[]⟩, .bool false, .int .i64 0, .int .i64 0, .int .i64 0, .bool false, .bool false, .int .i64 0, .int .i64 0, .bool false, .bool false, .slice none 0 0] 39 (0, 0)) ∧ wR.heap[w.heap.size]? = some (.cells #[.int .i64 x.1.kind, .int .i64 x.1.v.kind, .float .f64 x.1.v.x, .string x.1.v.s, .bool x.1.v.b, .int .i64 x.1.v.f, .int .i64 x.1.t.kind, .int .i64 x.1.t.op, .float .f64 x.1.t.x, .string x.1.t.s, .bool x.1.t.b, .int .i64 x.1.t.f, .int .i64 x.1.t.ref.a.1, .int .i64 x.1.t.ref.a.2, .bool x.1.t.ref.cf, .bool x.1.t.ref.rf, .int .i64 x.1.t.to.a.1, .int .i64 x.1.t.to.a.2, .bool x.1.t.to.cf, .bool x.1.t.to.rf, .slice x.2 x.1.t.args.length x.1.t.args.length] 39 (0, 0)) ∧ Xt w wR ∧ wR.heap.size = w.heap.size + 1 ∧ Xt w wZ ∧ wZ.heap.size = w.heap.size + 1 := by
  have h1 := (MapKept.heap_alloc w (.cells #[.int .i64 0, .int .i64 0, .float .f64 0, .string ⟨#[]⟩, .bool false, .int .i64 0, .int .i64 0, .int .i64 0, .float .f64 0, .string ⟨#[]⟩, .bool false, .int .i64 0, .int .i64 0, .int .i64 0, .bool false, .bool false, .int .i64 0, .int .i64 0, .bool false, .bool false, .slice none 0 0] 39)).1
  refine ⟨_, _, rfl, rfl, h1, setRow_heap _ _ _ _ _ _ h1, ((Xt.refl w).alloc _).grownB (setRow_grown _ _ _) (fun m hm => by cases hm; exact Nat.le_refl _), by simp, (Xt.refl w).alloc _, by simp⟩
end Go.Proofs.YtakcadkffmfneaaDoor
