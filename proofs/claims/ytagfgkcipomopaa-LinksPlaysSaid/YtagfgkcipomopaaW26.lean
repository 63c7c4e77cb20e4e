import Derived.Test.YtagfgkcipomopaaW25
import Derived.Test.YtagfgkcipomopaaL16
namespace Go.Proofs.Ytagfgkcipomopaa
open Go.RowKit Go.Sort

/-! ### the document's Set -/
theorem EachR.keep2 {w w' : World} {F F' : Nat → Prop} {px : Nat} {ob ob' : Option Nat} {R : List (Ad × SV)} {M : Mp} (h : EachR w F px ob R M) (h' : EachR w F px ob' R M) (hk : ∀ b, F b → b < w.heap.size → b ≠ px → ob ≠ some b → w'.heap[b]? = w.heap[b]?) (hF : ∀ b, F b → F' b) (hs : w.heap.size ≤ w'.heap.size) : EachR w' F' px ob' R M :=
  ⟨h.1, fun i x y hx hy => by
    obtain ⟨h1, h2, h3⟩ := h.2 i x y hx hy
    obtain ⟨_, _, k3⟩ := h'.2 i x y hx hy
    exact ⟨h1, sl_blk h2 (fun a ha => by obtain ⟨q1, q2, q3, q4⟩ := h3 a ha; exact hk _ q1 q4 q2 q3), fun a ha => by obtain ⟨q1, q2, q3, q4⟩ := k3 a ha; exact ⟨hF _ q1, q2, q3, by omega⟩⟩⟩
theorem new_sl {wS w w' : World} {px g : Nat} {F : Nat → Prop} {s : SV} (hpx : px < w.heap.size) (hg : g < wS.heap.size) (hsz : w.heap.size ≤ wS.heap.size) (hb : ∀ b : Addr, s.1 = some b → wS.heap.size ≤ b.block ∧ b.block < w'.heap.size) :
    ∀ b : Addr, s.1 = some b → (F b.block ∨ (w.heap.size ≤ b.block ∧ b.block < w'.heap.size)) ∧ b.block ≠ px ∧ some g ≠ some b.block ∧ b.block < w'.heap.size := by
  intro b h
  obtain ⟨h1, h2⟩ := hb b h
  exact ⟨Or.inr ⟨by omega, h2⟩, by omega, (fun e => by cases e; omega), h2⟩
theorem place_ins {wS w1 w : World} {px g cap k : Nat} {F : Nat → Prop} {M : Mp} {a : Ad} {u : List Ar} {v : Value} {R : List (Ad × SV)} {L2 : List (Ad × SV)} (hR : RefIs w px F M v R) (hF : ∀ b, F b → b < w.heap.size) (hf : FindIs M a k false) (he : setErr M a u = 0)
    (hrow : RowL wS g 49 cap 3 rlC L2) (hlen : L2.length = R.length + 1) (hset : ∀ x, L2.set k x = R.take k ++ x :: R.drop k) (hcap : cap ≤ maxLen)
    (hpx : wS.cell? ⟨px, 0, none⟩ = some (.slice (some ⟨g, 0, none⟩) (R.length + 1) cap)) (hfr : wS.frozen? ⟨px, 0, none⟩ = false) (hg : v.ownBlock = some g ∨ w1.heap.size ≤ g) (hw1 : Xt w w1) (hch : Chg F w wS)
    (hk : ∀ b, F b → b ≠ px → v.ownBlock ≠ some b → wS.heap[b]? = w.heap[b]?) (hu : u.length ≤ 256) : RPlace wS w px F g cap (R.length + 1) k L2 M a u where
  row := hrow
  len := hlen
  lt := by have := hf.le; rw [← hR.each.1] at this; omega
  capm := hcap
  n4 := by
    have hlM := hR.each.1
    have hn := place_no hR.sorted hf.low (hf.no rfl)
    unfold setErr at he
    rw [hlM]
    split at he
    · cases he
    · split at he
      · cases he
      · split at he
        · cases he
        · split at he
          · cases he
          · rename_i h; have : ¬ 4096 ≤ M.length := fun h2 => h ⟨hn, h2⟩
            omega
  pxc := hpx
  fro := hfr
  gF := by
    rcases hg with hg | hg
    · exact ⟨Or.inl (hR.blk g hg).1, (hR.blk g hg).2⟩
    · exact ⟨Or.inr (by have := hw1.sz; omega), by have := hF px hR.inP; have := hw1.sz; omega⟩
  chg := hch
  inP := ⟨hR.inP, hF px hR.inP⟩
  each := by
    intro s w' hx hs hb
    have hM : setTo M a u = M.take k ++ (a, normL u) :: M.drop k := by
      unfold setTo; rw [if_pos he, setM_at hf.low hf.le (hf.no rfl)]
    rw [hset, hM]
    have hsz := hch.size
    have hsz2 := hx.sz
    have h1 : EachR w F px (some g) R M := hR.each.ob (by
      rcases hg with hg | hg
      · exact Or.inl hg.symm
      · exact Or.inr fun q hq => by cases hq; have := hw1.sz; omega)
    have hgS : g < wS.heap.size := by
      obtain ⟨cur, hgc, _⟩ := hrow
      exact (Array.getElem?_eq_some_iff.1 hgc).1
    exact EachR.ins (hR.each.keep2 h1 (F' := fun b => F b ∨ (w.heap.size ≤ b ∧ b < w'.heap.size)) (fun b hb hlt hne hob => (RowKit.Below.block hx b (by omega)).trans (hk b hb hne hob)) (fun b hb => Or.inl hb) (by omega)) hf.le hs (new_sl (hF px hR.inP) hgS hsz hb)
  sorted := sorted_setTo hR.sorted a u
  many := by
    have hM : setTo M a u = M.take k ++ (a, normL u) :: M.drop k := by
      unfold setTo; rw [if_pos he, setM_at hf.low hf.le (hf.no rfl)]
    rw [hM, hR.each.1, List.length_append, List.length_cons, List.length_take, List.length_drop]
    have := hf.le; omega
  few := by
    intro x hx
    unfold setTo at hx
    rw [if_pos he] at hx
    rcases mem_setM hx with rfl | hx
    · exact Nat.le_trans (normL_len u) hu
    · exact hR.few x hx
  err := he
theorem place_set {wS w : World} {px g cap k : Nat} {F : Nat → Prop} {M : Mp} {a : Ad} {u : List Ar} {R : List (Ad × SV)} (hR : RefIs w px F M (.slice (some ⟨g, 0, none⟩) R.length cap) R) (hF : ∀ b, F b → b < w.heap.size) (hf : FindIs M a k true) (he : setErr M a u = 0) (hx : Xt w wS) (hu : u.length ≤ 256) : RPlace wS w px F g cap R.length k R M a u := by
  obtain ⟨l0, hl0⟩ := hf.yes rfl
  have hlt : k < M.length := (List.getElem?_eq_some_iff.1 hl0).1
  have hlM := hR.each.1
  have hM : setTo M a u = M.set k (a, normL u) := by
    unfold setTo; rw [if_pos he, (place_yes hf.low hl0).2]
  obtain ⟨o1, o2⟩ := hR.own
  rcases o2 with ⟨o2, _⟩ | ⟨g', cap', cur, ev, _, hg, hn, hc, hs, ht⟩
  · cases o2
  · cases ev
    have hgl : g < w.heap.size := (Array.getElem?_eq_some_iff.1 hg).1
    have hpl := hF px hR.inP
    have hrow : RowL w g 49 cap 3 rlC R := by
      refine ⟨cur, hg, hs, hn, fun j x hx i u hu => ?_⟩
      have hi : i < 3 := by have := (List.getElem?_eq_some_iff.1 hu).1; rw [rlC_len] at this; exact this
      have h2 := flat_get (enc := rlC) rlC_len R j i x hx hi
      rw [hu, ← ht, List.getElem?_take] at h2
      split at h2
      · simpa using h2
      · cases h2
    have hsz := hx.sz
    refine { row := hrow.of_heap (RowKit.Below.block hx g hgl), len := rfl, lt := by rw [hlM]; exact hlt, capm := hc, n4 := by rw [hlM]; exact hR.many, pxc := ((hx.cells).1 _ _ hpl).trans hR.cell, fro := ((hx.cells).2 _ _ hpl).trans hR.fro, gF := ⟨Or.inl (hR.blk g rfl).1, (hR.blk g rfl).2⟩, chg := hx.chg, inP := ⟨hR.inP, hpl⟩, each := ?_, sorted := sorted_setTo hR.sorted a u, many := by rw [hM, List.length_set]; exact hlM.symm, few := ?_, err := he }
    · intro s w' hx' hs' hb
      rw [hM]
      have hsz2 := hx'.sz
      have hgS : g < wS.heap.size := Nat.lt_of_lt_of_le hgl hsz
      have hk2 : ∀ b, b < w.heap.size → w'.heap[b]? = w.heap[b]? := fun b hlt' => (RowKit.Below.block hx' b (Nat.lt_of_lt_of_le hlt' hsz)).trans (RowKit.Below.block hx b hlt')
      exact EachR.set (hR.each.keep (F' := fun b => F b ∨ (w.heap.size ≤ b ∧ b < w'.heap.size)) (fun b _ hlt' _ _ => hk2 b hlt') (fun b hb => Or.inl hb) (Nat.le_trans hsz hsz2)) hs' (new_sl hpl hgS hsz hb)
    · intro x hx'
      unfold setTo at hx'
      rw [if_pos he] at hx'
      rcases mem_setM hx' with rfl | hx'
      · exact Nat.le_trans (normL_len u) hu
      · exact hR.few x hx'
end Go.Proofs.Ytagfgkcipomopaa
