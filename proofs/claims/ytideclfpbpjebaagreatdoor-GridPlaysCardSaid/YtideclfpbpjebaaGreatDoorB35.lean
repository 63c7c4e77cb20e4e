import Derived.Test.YtideclfpbpjebaaGreatDoorB33
namespace Go.Proofs.YtideclfpbpjebaaGreatDoor
section
open Go.RowKit Go.Sort

theorem DG.out {w w' : World} {rb : Nat} {l : List PI} (h : DG w rb l) (hx : Xt w w') : ∃ l', DG w' rb l' ∧ pis l' = pis l ∧ w.grownBy w' (some rb) := ⟨l, h.xt hx, rfl, hx.grown _⟩
theorem dput_any (n : Nat) (rb : Nat) (l : List PI) (a : Ad) (c : ContT) (ca : Option Addr) (cap : Nat) (w : World) (h : DG w rb l) (hok : c.ok) (hsm : smallT c.t) (hin : ArgsIn w n (.slice ca c.t.args.length cap) c.t.args) : Calls Tryz.prog 21 #[.pointer (some ⟨rb, 0, none⟩), .agg #[.int .i64 a.1, .int .i64 a.2], contV c ca c.t.args.length cap] w (DPutR w rb l a c) := by
  unfold DPutR codeP putP
  cases h1 : gvalidB c
  · refine (dput_inv n rb l a c ca cap w h hok hsm hin h1).mono ?_
    rintro e w' ⟨rfl, hx⟩
    obtain ⟨l', q1, q2, q3⟩ := h.out hx
    exact ⟨l', rfl, q1, q2, q3⟩
  cases h2 : validB a.1 a.2
  · refine (dput_ad n rb l a c ca cap w h hok hsm hin h1 h2).mono ?_
    rintro e w' ⟨rfl, hx⟩
    obtain ⟨l', q1, q2, q3⟩ := h.out hx
    exact ⟨l', rfl, q1, q2, q3⟩
  simp only [Bool.true_eq_false, if_false]
  by_cases h3 : c.kind = 0
  · have h3b : (c.kind == 0) = true := by simpa using h3
    rw [h3b]
    simp only [if_true]
    cases hi : (lkM a (pis l)).isSome
    · refine (dput_del0 n rb l a c ca cap w h hok hsm hin h1 h2 h3 hi).mono ?_
      rintro e w' ⟨rfl, l', q1, q2, q3⟩
      exact ⟨l', rfl, q1, q2, q3⟩
    · refine (dput_del1 n rb l a c ca cap w h hok hsm hin h1 h2 h3 hi).mono ?_
      rintro e w' ⟨rfl, l', q1, q2, q3⟩
      exact ⟨l', rfl, q1, q2, q3⟩
  · have h3b : (c.kind == 0) = false := by simpa using h3
    rw [h3b]
    simp only [Bool.false_eq_true, if_false]
    cases hf : fullP (pis l) a
    · simp only [Bool.false_eq_true, if_false]
      cases hi : (lkM a (pis l)).isSome
      · refine (dput_set0 n rb l a c ca cap w h hok hsm hin h1 h2 h3 hi hf).mono ?_
        rintro e w' ⟨rfl, l', q1, q2, q3⟩
        exact ⟨l', rfl, q1, q2, q3⟩
      · refine (dput_set1 n rb l a c ca cap w h hok hsm hin h1 h2 h3 hi hf).mono ?_
        rintro e w' ⟨rfl, l', q1, q2, q3⟩
        exact ⟨l', rfl, q1, q2, q3⟩
    · refine (dput_full n rb l a c ca cap w h hok hsm hin h1 h2 h3 hf).mono ?_
      rintro e w' ⟨rfl, hx⟩
      obtain ⟨l', q1, q2, q3⟩ := h.out hx
      exact ⟨l', rfl, q1, q2, q3⟩
end
section
open Go.RowKit Go.Sort Go.Maps Go.Shelf Go.MapKept

structure Pair (w : World) (gb mb : Nat) (M : GM) (rb : Nat) (l : List PI) : Prop where
  g : GridIs w gb mb M
  r : DG w rb l
  e : er M = pis l
  ok : GOk (pis l)
  n1 : rb ≠ mb
  n2 : rb ≠ gb
theorem Pair.xt {w w' : World} {gb mb rb : Nat} {M : GM} {l : List PI} (h : Pair w gb mb M rb l) (hx : Xt w w') : Pair w' gb mb M rb l := ⟨h.g.xt hx, h.r.xt hx, h.e, h.ok, h.n1, h.n2⟩
/-- A document's grid's block has one cell. -/
theorem DG.one {w : World} {rb : Nat} {l : List PI} (h : DG w rb l) : ∀ o u, w.cell? ⟨rb, o, none⟩ = some u → o = 0 := fun o u hu => by
  obtain ⟨v, ho, _⟩ := h.obj
  simp only [World.cell?, ho] at hu
  rcases o with _ | o
  · rfl
  · simp at hu
/-- What a put into a grid of the program leaves of a grid of the document. -/
theorem DG.byMap {w w' : World} {rb : Nat} {l : List PI} (h : DG w rb l) {gb mb : Nat} {M : GM} (hG : GridIs w gb mb M) (hg : w.grownBy w' (some mb)) (hne : rb ≠ mb) : DG w' rb l := by
  obtain ⟨E, hm, _⟩ := hG.map
  obtain ⟨v, ho, hp⟩ := h.obj
  exact ⟨⟨v, (hg.block rb h.lt (fun e => hne (by cases e; rfl))).trans ho, hp.kept (CellsIn.of_grown hm hg)⟩, h.sorted, h.many, h.small⟩
/-- What a put into a grid of the document leaves of one of the program. -/
theorem GridIs.byDoc {w w' : World} {gb mb : Nat} {M : GM} (hG : GridIs w gb mb M) {rb : Nat} {l : List PI} (h : DG w rb l) (hg : w.grownBy w' (some rb)) (h1 : rb ≠ mb) (h2 : rb ≠ gb) : GridIs w' gb mb M := by
  have hk : ∀ b o u, b ≠ rb → w.cell? ⟨b, o, none⟩ = some u → w'.cell? ⟨b, o, none⟩ = some u := fun b o u hb hu => (World.cell?_of_block (w := w) (a := ⟨b, o, none⟩) (hg.block b (World.block_lt_of_cell? w _ hu) (fun e => hb (by cases e; rfl)))).trans hu
  refine ⟨hk _ _ _ (fun e => h2 e.symm) hG.cell, ?_, hG.sorted, fun x hx => ?_, hG.many⟩
  · obtain ⟨E, hm, he⟩ := hG.map
    exact ⟨E, hm.of_heap (hg.block mb hm.lt (fun e => h1 (by cases e; rfl))), he⟩
  · obtain ⟨hs, n, hn⟩ := hG.args x hx
    exact ⟨hs, n, hn.but h.one hk⟩
/-- Another grid of the document. -/
theorem DG.byDoc {w w' : World} {rb rc : Nat} {l k : List PI} (h : DG w rb l) (hc : DG w rc k) (hg : w.grownBy w' (some rc)) (hne : rb ≠ rc) : DG w' rb l := by
  have hk : ∀ b o u, b ≠ rc → w.cell? ⟨b, o, none⟩ = some u → w'.cell? ⟨b, o, none⟩ = some u := fun b o u hb hu => (World.cell?_of_block (w := w) (a := ⟨b, o, none⟩) (hg.block b (World.block_lt_of_cell? w _ hu) (fun e => hb (by cases e; rfl)))).trans hu
  obtain ⟨v, ho, hp⟩ := h.obj
  exact ⟨⟨v, (hg.block rb h.lt (fun e => hne (by cases e; rfl))).trans ho, hp.but hc.one hk⟩, h.sorted, h.many, h.small⟩
/-- Another grid of the program. -/
theorem GridIs.byMap {w w' : World} {gb mb gc mc : Nat} {M N : GM} (h : GridIs w gb mb M) (hc : GridIs w gc mc N) (hg : w.grownBy w' (some mc)) (hne : mb ≠ mc) : GridIs w' gb mb M := by
  obtain ⟨E, hm, _⟩ := hc.map
  exact h.kept (CellsIn.of_grown hm hg) (hg.block mb h.lt.2 (fun e => hne (by cases e; rfl)))
/-- Both have been put into: still a pair. -/
theorem Pair.put {w w1 w2 : World} {gb mb rb : Nat} {M M' : GM} {l l' : List PI} (h : Pair w gb mb M rb l) {a : Ad} {c : ContT} (hok : c.ok) (x : Option Addr) (hM : M' = putTo M a c x) (h1 : GridIs w1 gb mb M') (g2 : w1.grownBy w2 (some rb)) (hD : DG w1 rb l) (h2 : DG w2 rb l') (hl : pis l' = putP (pis l) a c) : Pair w2 gb mb M' rb l' :=
  ⟨h1.byDoc hD g2 h.n1 h.n2, h2, by rw [hM, er_put, h.e, hl], by rw [hl]; exact h.ok.put a hok, h.n1, h.n2⟩
theorem Pair.code {w : World} {gb mb rb : Nat} {M : GM} {l : List PI} (h : Pair w gb mb M rb l) (a : Ad) (c : ContT) : putCode M a c = codeP (pis l) a c := by rw [er_code, h.e]
/-- A pair beside another one that is put into. -/
theorem Pair.beside {w w1 w2 : World} {gb mb rb go mo ob : Nat} {M Mo : GM} {l lo : List PI} (h : Pair w gb mb M rb l) (k : Pair w go mo Mo ob lo) (hg1 : w.grownBy w1 (some mo)) (hg2 : w1.grownBy w2 (some ob)) (hD : DG w1 ob lo) (d : mb ≠ mo ∧ rb ≠ mo ∧ ob ≠ mb ∧ ob ≠ gb ∧ rb ≠ ob) : Pair w2 gb mb M rb l :=
  ⟨(h.g.byMap k.g hg1 d.1).byDoc hD hg2 d.2.2.1 d.2.2.2.1, (h.r.byMap k.g hg1 d.2.1).byDoc hD hg2 d.2.2.2.2, h.e, h.ok, h.n1, h.n2⟩
/-- A grid of the program and one of the document are two blocks. -/
theorem grid_doc {w : World} {gb mb rb : Nat} {M : GM} {l : List PI} (h : GridIs w gb mb M) (k : DG w rb l) : rb ≠ gb := fun e => by
  obtain ⟨v, hc, hP⟩ := k.cell
  obtain ⟨a, c, rfl, _⟩ := hP.shape
  rw [e, h.cell] at hc; cases hc
end
end Go.Proofs.YtideclfpbpjebaaGreatDoor
