import Derived.Test.YtagfgkcipomopaaW24
namespace Go.Proofs.Ytagfgkcipomopaa
open Go.RowKit Go.Sort

/-! ### the document's links in memory -/
/-- Only these blocks have turned, and new ones have come. -/
structure Chg (F : Nat → Prop) (w w' : World) : Prop where
  os : w'.os = w.os
  tape : w'.tape = w.tape
  output : w'.output = w.output
  size : w.heap.size ≤ w'.heap.size
  block : ∀ k, k < w.heap.size → ¬ F k → w'.heap[k]? = w.heap[k]?
theorem Chg.refl (F : Nat → Prop) (w : World) : Chg F w w := ⟨rfl, rfl, rfl, Nat.le_refl _, fun _ _ _ => rfl⟩
theorem Chg.trans {F : Nat → Prop} {a b c : World} (h : Chg F a b) (k : Chg F b c) : Chg F a c :=
  ⟨k.os.trans h.os, k.tape.trans h.tape, k.output.trans h.output, Nat.le_trans h.size k.size, fun i hi hn => (k.block i (Nat.lt_of_lt_of_le hi h.size) hn).trans (h.block i hi hn)⟩
theorem Chg.mono {F G : Nat → Prop} {a b : World} (h : Chg F a b) (hFG : ∀ k, k < a.heap.size → F k → G k) : Chg G a b := ⟨h.os, h.tape, h.output, h.size, fun k hk hn => h.block k hk (fun e => hn (hFG k hk e))⟩
theorem Xt.chg {F : Nat → Prop} {a b : World} (h : Xt a b) : Chg F a b := ⟨h.os, h.tape, h.output, h.size, fun k hk _ => RowKit.Below.block h k hk⟩
theorem chg_grown {F : Nat → Prop} {a b c : World} {r : Option Nat} (h : Chg F a b) (k : b.grownBy c r) (hr : ∀ g, r = some g → a.heap.size ≤ g ∨ F g) : Chg F a c :=
  ⟨k.os.trans h.os, k.tape.trans h.tape, k.output.trans h.output, Nat.le_trans h.size k.size, fun i hi hn => (k.block i (Nat.lt_of_lt_of_le hi h.size) (fun e => (hr i e.symm).elim (fun h1 => absurd h1 (by omega)) hn)).trans (h.block i hi hn)⟩
theorem Chg.drew {F : Nat → Prop} {a b : World} (h : Chg F a b) : Chg F a b.drew := ⟨h.os, h.tape, h.output, h.size, h.block⟩
abbrev SV := Option Addr × Nat × Nat
def slV (s : SV) : Value := .slice s.1 s.2.1 s.2.2
def rlC (x : Ad × SV) : List Value := [.int .i64 x.1.1, .int .i64 x.1.2, slV x.2]
theorem rlC_len (x : Ad × SV) : (rlC x).length = 3 := rfl
theorem rlC_one (x : Ad × SV) : ∀ u ∈ rlC x, u.oneCell' = true := by
  intro u hu; simp [rlC] at hu; rcases hu with rfl | rfl | rfl <;> rfl
/-- The rows read as the rules. -/
def EachR (w : World) (F : Nat → Prop) (px : Nat) (ob : Option Nat) (R : List (Ad × SV)) (M : Mp) : Prop :=
  R.length = M.length ∧ ∀ (i : Nat) (x : Ad × SV) (y : Ad × List Ar), R[i]? = some x → M[i]? = some y → x.1 = y.1 ∧ SlOf w arC 4 (slV x.2) y.2 ∧ ∀ a : Addr, x.2.1 = some a → F a.block ∧ a.block ≠ px ∧ ob ≠ some a.block ∧ a.block < w.heap.size
structure RefIs (w : World) (px : Nat) (F : Nat → Prop) (M : Mp) (v : Value) (R : List (Ad × SV)) : Prop where
  cell : w.cell? ⟨px, 0, none⟩ = some v
  fro : w.frozen? ⟨px, 0, none⟩ = false
  inP : F px
  own : OwnL w 0 49 3 rlC v R
  blk : ∀ g, v.ownBlock = some g → F g ∧ g ≠ px
  each : EachR w F px v.ownBlock R M
  sorted : SortedM M
  many : M.length ≤ 4096
  few : ∀ x ∈ M, x.2.length ≤ 256
def Ref (w : World) (px : Nat) (F : Nat → Prop) (M : Mp) : Prop := ∃ v R, RefIs w px F M v R
theorem sl_blk {w w' : World} {s : SV} {l : List Ar} (h : SlOf w arC 4 (slV s) l) (hb : ∀ a : Addr, s.1 = some a → w'.heap[a.block]? = w.heap[a.block]?) : SlOf w' arC 4 (slV s) l := by
  refine h.keep (F := fun b => ∃ a : Addr, s.1 = some a ∧ a.block = b) (fun a n c e => ?_) (fun b ⟨a, h1, h2⟩ => by rw [← h2]; exact hb a h1)
  unfold slV at e
  rw [Value.slice.injEq] at e
  exact ⟨a, e.1, rfl⟩
theorem EachR.keep {w w' : World} {F F' : Nat → Prop} {px : Nat} {ob : Option Nat} {R : List (Ad × SV)} {M : Mp} (h : EachR w F px ob R M) (hk : ∀ b, F b → b < w.heap.size → b ≠ px → ob ≠ some b → w'.heap[b]? = w.heap[b]?) (hF : ∀ b, F b → F' b) (hs : w.heap.size ≤ w'.heap.size) : EachR w' F' px ob R M :=
  ⟨h.1, fun i x y hx hy => by
    obtain ⟨h1, h2, h3⟩ := h.2 i x y hx hy
    exact ⟨h1, sl_blk h2 (fun a ha => by obtain ⟨q1, q2, q3, q4⟩ := h3 a ha; exact hk _ q1 q4 q2 q3), fun a ha => by obtain ⟨q1, q2, q3, q4⟩ := h3 a ha; exact ⟨hF _ q1, q2, q3, by omega⟩⟩⟩
theorem RefIs.rules {w : World} {px : Nat} {F : Nat → Prop} {M : Mp} {v : Value} {R : List (Ad × SV)} (h : RefIs w px F M v R) : RulesOf w v M := by
  obtain ⟨a, cap, hv, q1, q2, hc⟩ := h.own.sl rlC_len
  rw [h.each.1] at hv q1
  refine ⟨a, cap, hv, q1, q2, fun hne => ?_⟩
  obtain ⟨b, off, ha, hcell⟩ := hc (fun e => hne (List.length_eq_zero_iff.1 (by rw [← h.each.1, e]; rfl)))
  refine ⟨b, off, ha, fun k r hr => ?_⟩
  have hk : k < R.length := by rw [h.each.1]; exact (List.getElem?_eq_some_iff.1 hr).1
  have hx : R[k]? = some R[k] := List.getElem?_eq_getElem hk
  obtain ⟨h1, h2, h3⟩ := h.each.2 k R[k] r hx hr
  refine ⟨?_, ?_, slV R[k].2, hcell k _ hx 2 _ rfl, h2⟩
  · rw [← h1]; exact hcell k _ hx 0 _ rfl
  · rw [← h1]; exact hcell k _ hx 1 _ rfl
/-- All blocks that it lies in, kept. -/
theorem Ref.keep {w w' : World} {px : Nat} {F F' : Nat → Prop} {M : Mp} (h : Ref w px F M) (hk : ∀ b, F b → w'.heap[b]? = w.heap[b]?) (hF : ∀ b, F b → F' b) (hs : w.heap.size ≤ w'.heap.size) : Ref w' px F' M := by
  obtain ⟨v, R, h⟩ := h
  refine ⟨v, R, (World.cell?_of_block (w := w) (a := ⟨px, 0, none⟩) (hk px h.inP)).trans h.cell, ?_, hF _ h.inP, ?_, fun g hg => ⟨hF _ (h.blk g hg).1, (h.blk g hg).2⟩, h.each.keep (fun b hb _ _ _ => hk b hb) hF hs, h.sorted, h.many, h.few⟩
  · have := h.fro
    unfold World.frozen? at this ⊢
    rw [hk px h.inP]; exact this
  · obtain ⟨o1, o2⟩ := h.own
    refine ⟨o1, ?_⟩
    rcases o2 with o2 | ⟨g, cap, cur, rfl, hb, hg, r⟩
    · exact Or.inl o2
    · exact Or.inr ⟨g, cap, cur, rfl, hb, (hk g (h.blk g rfl).1).trans hg, r⟩
theorem Ref.xt {w w' : World} {px : Nat} {F : Nat → Prop} {M : Mp} (h : Ref w px F M) (hlt : ∀ b, F b → b < w.heap.size) (hx : Xt w w') : Ref w' px F M :=
  h.keep (fun b hb => RowKit.Below.block hx b (hlt b hb)) (fun _ h => h) hx.sz
end Go.Proofs.Ytagfgkcipomopaa
