import Derived.Test.YtagfgkcipomopaaW18
import Derived.ProofKit
import Derived.Lib.SmallJoins
import Derived.Deep.Slices
namespace Go.Proofs.Ytagfgkcipomopaa
open Go.ChangeShapes Go.WideShapes Go.ChangeAt Go.RowKit Go.Joins Go.Deep

theorem Try.own' : ownKnob Try.prog.godebug = none := by kernel_rfl
theorem Try.laidOut' : laidOutB Try.prog = true := by kernel_rfl
theorem Try.cells34 : Try.prog.cellsOf 34 = 2 := by kernel_rfl
theorem Try.cells41 : Try.prog.cellsOf 41 = 4 := by kernel_rfl
theorem Try.cells49 : Try.prog.cellsOf 49 = 3 := by kernel_rfl
theorem Try.cells42 : Try.prog.cellsOf 42 = 1 := by kernel_rfl
theorem Try.cells3 : Try.prog.cellsOf 3 = 1 := by kernel_rfl
/-! ### what came in, opened -/
section
variable {H : Type} {enc : TypeId × Value → H} {W : World} {base : Nat} {spare : Nat → Bool} {held : Bool}
set_option maxRecDepth 100000 in
/-- One cell's place, read. -/
theorem open_ad {n : Nat} {cs : List Value} {x : DataW H × List MemPlace} (h : DataW.trod enc Try.prog W base spare held n 34 cs = some x) : ∃ a : Ad, cs = adC a := by
  obtain ⟨y0, y1, m, hx, hl, h0, h1⟩ := trod_struct2 Try.underlying34 h
  rw [Try.cells34] at hl
  match cs, hl with
  | [c0, c1], _ =>
    have g0 : DataW.trod enc Try.prog W base spare held m 3 [c0] = some y0 := by simpa [Try.cells3] using h0
    have g1 : DataW.trod enc Try.prog W base spare held m 3 [c1] = some y1 := by simpa [Try.cells3] using h1
    obtain ⟨a, e0, _, _⟩ := DataW.trod_int Try.underlying3 g0
    obtain ⟨b, e1, _, _⟩ := DataW.trod_int Try.underlying3 g1
    simp at e0 e1
    subst e0 e1
    exact ⟨(a, b), rfl⟩
set_option maxRecDepth 100000 in
theorem open_ar {n : Nat} {cs : List Value} {x : DataW H × List MemPlace} (h : DataW.trod enc Try.prog W base spare held n 41 cs = some x) : ∃ a : Ar, cs = arC a := by
  obtain ⟨y0, y1, m, hx, hl, h0, h1⟩ := trod_struct2 Try.underlying41 h
  rw [Try.cells41] at hl
  match cs, hl with
  | [c0, c1, c2, c3], _ =>
    have g0 : DataW.trod enc Try.prog W base spare held m 34 [c0, c1] = some y0 := by simpa [Try.cells34] using h0
    have g1 : DataW.trod enc Try.prog W base spare held m 34 [c2, c3] = some y1 := by simpa [Try.cells34] using h1
    obtain ⟨a, ea⟩ := open_ad g0
    obtain ⟨b, eb⟩ := open_ad g1
    simp only [adC, List.cons.injEq, and_true] at ea eb
    obtain ⟨rfl, rfl⟩ := ea
    obtain ⟨rfl, rfl⟩ := eb
    exact ⟨(a, b), rfl⟩
theorem list_of {α : Type} {p : Nat → α → Prop} : ∀ (n : Nat), (∀ i, i < n → ∃ x, p i x) → ∃ l : List α, l.length = n ∧ ∀ i x, l[i]? = some x → p i x
  | 0, _ => ⟨[], rfl, fun i x h => by simp at h⟩
  | n + 1, h => by
    obtain ⟨l, h1, h2⟩ := list_of n (fun i hi => h i (by omega))
    obtain ⟨x, hx⟩ := h n (by omega)
    refine ⟨l ++ [x], by simp [h1], fun i y hy => ?_⟩
    rcases Nat.lt_or_ge i n with hi | hi
    · rw [List.getElem?_append_left (by omega)] at hy; exact h2 i y hy
    · have : i = n := by
        have := (List.getElem?_eq_some_iff.1 hy).1
        simp [h1] at this; omega
      subst this
      rw [List.getElem?_append_right (by omega), h1, Nat.sub_self] at hy
      simp at hy; subst hy; exact hx
/-- A slice whose elements read as some. -/
theorem open_list {α : Type} {encA : α → List Value} {sz : Nat} {t e : TypeId} {n : Nat} {v : Value} {x : DataW H × List MemPlace} (ht : Try.prog.underlying t = some (.slice e)) (hc : Try.prog.cellsOf e = sz) (hpos : 0 < sz) (hk : ∀ x, (encA x).length = sz)
    (he : ∀ m cs y, DataW.trod enc Try.prog W base spare held m e cs = some y → ∃ a : α, cs = encA a) (h : DataW.trod enc Try.prog W base spare held n t [v] = some x) : ∃ l, SlOf W encA sz v l := by
  rcases open_slice ht h with ⟨h0, _⟩ | ⟨a, len, cap, m, k, D, Pl, hcs, hb, hl, hm, hmm, hx, hi⟩
  · cases h0
    exact ⟨[], SlOf.nil _ _ _ _ _ (by omega)⟩
  · cases hcs
    rw [hc] at hi
    have each : ∀ i, i < len → ∃ u : α, ∀ (j : Nat) (c : Value), (encA u)[j]? = some c → W.cell? (a.add (i * sz + j)) = some c := by
      intro i hil
      have him : i < m := by rw [hmm]; split <;> omega
      obtain ⟨cs', h1, h2⟩ := hi i him
      obtain ⟨u, rfl⟩ := he _ _ _ h2
      obtain ⟨_, hlen, hcell⟩ := World.cells?_some h1
      refine ⟨u, fun j c hj => ?_⟩
      have hjs : j < sz := by have := (List.getElem?_eq_some_iff.1 hj).1; rw [hk] at this; exact this
      rw [← add_add, hcell j hjs, hj]
    obtain ⟨l, hl1, hl2⟩ := list_of len each
    refine ⟨l, some a, cap, by rw [hl1], by omega, by unfold maxLen at hm; omega, fun hne => ?_⟩
    obtain ⟨b, o, spot⟩ := a
    obtain ⟨y, hy⟩ : ∃ y, l[0]? = some y := by
      cases l with
      | nil => exact absurd rfl hne
      | cons y _ => exact ⟨y, rfl⟩
    have hy0 : ∃ c, (encA y)[0]? = some c := ⟨(encA y)[0]'(by rw [hk]; exact hpos), List.getElem?_eq_getElem (by rw [hk]; exact hpos)⟩
    obtain ⟨c, hc0⟩ := hy0
    have hspot : spot = none := by simpa [Addr.add] using World.cell?_spot (hl2 0 y hy 0 c hc0)
    subst hspot
    refine ⟨b, o, rfl, fun k x hx i u hu => ?_⟩
    have := hl2 k x hx i u hu
    rw [Addr.add_lit] at this
    rwa [← Nat.add_assoc] at this
theorem open_ads {n : Nat} {v : Value} {x : DataW H × List MemPlace} (h : DataW.trod enc Try.prog W base spare held n 23 [v] = some x) : ∃ l, SlOf W adC 2 v l :=
  open_list Try.underlying23 Try.cells34 (by omega) adC_len (fun _ _ _ h => open_ad h) h
theorem open_ars {n : Nat} {v : Value} {x : DataW H × List MemPlace} (h : DataW.trod enc Try.prog W base spare held n 42 [v] = some x) : ∃ l, SlOf W arC 4 v l :=
  open_list Try.underlying42 Try.cells41 (by omega) arC_len (fun _ _ _ h => open_ar h) h
theorem open_nums {n : Nat} {v : Value} {x : DataW H × List MemPlace} (h : DataW.trod enc Try.prog W base spare held n 24 [v] = some x) : ∃ l, SlOf W inC 1 v l :=
  open_list Try.underlying24 Try.cells3 (by omega) inC_len (fun m cs y h => by
    obtain ⟨k, e, _, _⟩ := DataW.trod_int Try.underlying3 h
    exact ⟨k, e⟩) h
set_option maxRecDepth 100000 in
theorem open_rule {n : Nat} {cs : List Value} {x : DataW H × List MemPlace} (h : DataW.trod enc Try.prog W base spare held n 49 cs = some x) : ∃ (a : Ad) (u : Value) (l : List Ar), cs = [.int .i64 a.1, .int .i64 a.2, u] ∧ SlOf W arC 4 u l := by
  obtain ⟨y0, y1, m, hx, hl, h0, h1⟩ := trod_struct2 Try.underlying49 h
  rw [Try.cells49] at hl
  match cs, hl with
  | [c0, c1, c2], _ =>
    have g0 : DataW.trod enc Try.prog W base spare held m 34 [c0, c1] = some y0 := by simpa [Try.cells34] using h0
    have g1 : DataW.trod enc Try.prog W base spare held m 42 [c2] = some y1 := by simpa [Try.cells42] using h1
    obtain ⟨a, ea⟩ := open_ad g0
    obtain ⟨l, hl⟩ := open_ars g1
    simp only [adC, List.cons.injEq, and_true] at ea
    obtain ⟨rfl, rfl⟩ := ea
    exact ⟨a, c2, l, rfl, hl⟩
theorem open_rules {n : Nat} {v : Value} {x : DataW H × List MemPlace} (h : DataW.trod enc Try.prog W base spare held n 22 [v] = some x) : ∃ rs, RulesOf W v rs := by
  rcases open_slice Try.underlying22 h with ⟨h0, _⟩ | ⟨a, len, cap, m, k, D, Pl, hcs, hb, hl, hm, hmm, hx, hi⟩
  · cases h0
    exact ⟨[], none, 0, rfl, by simp, by omega, fun h => absurd rfl h⟩
  · cases hcs
    rw [Try.cells49] at hi
    have each : ∀ i, i < len → ∃ r : Ad × List Ar, W.cell? (a.add (i * 3)) = some (.int .i64 r.1.1) ∧ W.cell? (a.add (i * 3 + 1)) = some (.int .i64 r.1.2) ∧ ∃ u, W.cell? (a.add (i * 3 + 2)) = some u ∧ SlOf W arC 4 u r.2 := by
      intro i hil
      have him : i < m := by rw [hmm]; split <;> omega
      obtain ⟨cs', h1, h2⟩ := hi i him
      obtain ⟨q, u, l, rfl, hul⟩ := open_rule h2
      obtain ⟨_, hlen, hcell⟩ := World.cells?_some h1
      have e0 := hcell 0 (by omega)
      have e1 := hcell 1 (by omega)
      have e2 := hcell 2 (by omega)
      rw [add_add] at e0 e1 e2
      exact ⟨(q, l), e0, e1, u, e2, hul⟩
    obtain ⟨rs, hl1, hl2⟩ := list_of len each
    refine ⟨rs, some a, cap, by rw [hl1], by omega, by unfold maxLen at hm; omega, fun hne => ?_⟩
    obtain ⟨b, o, spot⟩ := a
    obtain ⟨y, hy⟩ : ∃ y, rs[0]? = some y := by
      cases rs with
      | nil => exact absurd rfl hne
      | cons y _ => exact ⟨y, rfl⟩
    have hspot : spot = none := by simpa [Addr.add] using World.cell?_spot (hl2 0 y hy).1
    subst hspot
    refine ⟨b, o, rfl, fun k r hr => ?_⟩
    have := hl2 k r hr
    simpa only [Addr.add_lit, Nat.add_assoc] using this
end
end Go.Proofs.Ytagfgkcipomopaa
