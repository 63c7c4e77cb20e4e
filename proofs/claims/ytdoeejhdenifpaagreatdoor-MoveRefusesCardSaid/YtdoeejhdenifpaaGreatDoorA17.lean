import Derived.Test.YtdoeejhdenifpaaGreatDoorA5
import Derived.Test.YtdoeejhdenifpaaGreatDoorR5
import Derived.Test.YtdoeejhdenifpaaGreatDoorA14
/- A call (Step) as it comes in. -/
namespace Go.Proofs.YtdoeejhdenifpaaGreatDoor
open Go.ChangeShapes Go.WideShapes Go.ChangeAt Go.RowKit Go.Joins Go.Deep Go.Shelf
theorem Tryz.cellsArea : Tryz.prog.cellsOf 26 = 4 := by kernel_rfl
theorem Tryz.cellsStep : Tryz.prog.cellsOf 28 = 9 := by kernel_rfl
section
variable {H : Type} {enc : TypeId × Value → H} {W : World} {base : Nat} {spare : Nat → Bool} {held : Bool}
theorem open_i64 {n : Nat} {c : Value} {x : DataW H × List MemPlace} (h : DataW.trod enc Tryz.prog W base spare held n 3 [c] = some x) : ∃ k, c = .int .i64 k ∧ I64 k := by
 obtain ⟨m, e, _, hw⟩ := DataW.trod_int Tryz.underlying3 h
 simp at e
 exact ⟨m, e, bounds_i64 hw⟩
set_option maxRecDepth 100000 in
theorem open_adB {n : Nat} {c0 c1 : Value} {x : DataW H × List MemPlace} (h : DataW.trod enc Tryz.prog W base spare held n 24 [c0, c1] = some x) : ∃ a : Ad, c0 = .int .i64 a.1 ∧ c1 = .int .i64 a.2 ∧ I64 a.1 ∧ I64 a.2 := by
 obtain ⟨y0, y1, m, hx, hl, h0, h1⟩ := trod_struct2 Tryz.underlying24 h
 have g0 : DataW.trod enc Tryz.prog W base spare held m 3 [c0] = some y0 := by simpa [Tryz.cellsInt] using h0
 have g1 : DataW.trod enc Tryz.prog W base spare held m 3 [c1] = some y1 := by simpa [Tryz.cellsInt] using h1
 obtain ⟨a, e0, b0⟩ := open_i64 g0
 obtain ⟨b, e1, b1⟩ := open_i64 g1
 exact ⟨(a, b), e0, e1, b0, b1⟩
set_option maxRecDepth 100000 in
theorem open_areaB {n : Nat} {c0 c1 c2 c3 : Value} {x : DataW H × List MemPlace} (h : DataW.trod enc Tryz.prog W base spare held n 26 [c0, c1, c2, c3] = some x) : ∃ a : ArT, c0 = .int .i64 a.a ∧ c1 = .int .i64 a.b ∧ c2 = .int .i64 a.c ∧ c3 = .int .i64 a.d ∧ I64 a.a ∧ I64 a.b ∧ I64 a.c ∧ I64 a.d := by
 obtain ⟨y0, y1, m, hx, hl, h0, h1⟩ := trod_struct2 Tryz.underlying26 h
 have g0 : DataW.trod enc Tryz.prog W base spare held m 24 [c0, c1] = some y0 := by simpa [Tryz.cellsAddr] using h0
 have g1 : DataW.trod enc Tryz.prog W base spare held m 24 [c2, c3] = some y1 := by simpa [Tryz.cellsAddr] using h1
 obtain ⟨a, e0, e1, b0, b1⟩ := open_adB g0
 obtain ⟨b, e2, e3, b2, b3⟩ := open_adB g1
 exact ⟨⟨a.1, a.2, b.1, b.2⟩, e0, e1, e2, e3, b0, b1, b2, b3⟩
set_option maxRecDepth 100000 in
set_option maxHeartbeats 1000000 in
theorem open_step {n : Nat} {cs : List Value} {x : DataW H × List MemPlace} (h : DataW.trod enc Tryz.prog W base spare held n 28 cs = some x) :
    ∃ (kk aa nn : Int) (f : ArT) (g : Ad), cs = [.int .i64 kk, .int .i64 aa, .int .i64 nn, .int .i64 f.a, .int .i64 f.b, .int .i64 f.c, .int .i64 f.d, .int .i64 g.1, .int .i64 g.2] ∧ (I64 f.a ∧ I64 f.b ∧ I64 f.c ∧ I64 f.d ∧ I64 g.1 ∧ I64 g.2) ∧ I64 kk ∧ I64 aa ∧ I64 nn := by
 obtain ⟨xs, m, _, rfl, hl, hlen, hf⟩ := DataW.trod_struct Tryz.underlying28 h
 rw [Tryz.cellsStep] at hl
 match xs, hlen with
 | [y0, y1, y2, y3, y4], _ =>
  match cs, hl with
  | [c0, c1, c2, c3, c4, c5, c6, c7, c8], _ =>
   have g0 : DataW.trod enc Tryz.prog W base spare held m 3 [c0] = some y0 := by simpa [Tryz.cellsInt] using hf 0 _ rfl
   have g1 : DataW.trod enc Tryz.prog W base spare held m 3 [c1] = some y1 := by simpa [Tryz.cellsInt] using hf 1 _ rfl
   have g2 : DataW.trod enc Tryz.prog W base spare held m 3 [c2] = some y2 := by simpa [Tryz.cellsInt] using hf 2 _ rfl
   have g3 : DataW.trod enc Tryz.prog W base spare held m 26 [c3, c4, c5, c6] = some y3 := by simpa [Tryz.cellsArea] using hf 3 _ rfl
   have g4 : DataW.trod enc Tryz.prog W base spare held m 24 [c7, c8] = some y4 := by simpa [Tryz.cellsAddr] using hf 4 _ rfl
   obtain ⟨kk, rfl, b0⟩ := open_i64 g0
   obtain ⟨aa, rfl, b1⟩ := open_i64 g1
   obtain ⟨nn, rfl, b2⟩ := open_i64 g2
   obtain ⟨f, rfl, rfl, rfl, rfl, b3, b4, b5, b6⟩ := open_areaB g3
   obtain ⟨g, rfl, rfl, b7, b8⟩ := open_adB g4
   exact ⟨kk, aa, nn, f, g, rfl, ⟨b3, b4, b5, b6, b7, b8⟩, b0, b1, b2⟩
end
end Go.Proofs.YtdoeejhdenifpaaGreatDoor
/- Lists of puts, and of numbers, as they come in. -/
namespace Go.Proofs.YtdoeejhdenifpaaGreatDoor
open Go.ChangeShapes Go.WideShapes Go.ChangeAt Go.RowKit Go.Joins Go.Deep Go.Shelf
section
variable {H : Type} {enc : TypeId × Value → H} {W : World} {base : Nat} {spare : Nat → Bool} {held : Bool}
theorem open_listW {α : Type} {p : α → Prop} {encA : α → List Value} {sz : Nat} {t e : TypeId} {n : Nat} {v : Value} {x : DataW H × List MemPlace} (ht : Tryz.prog.underlying t = some (.slice e)) (hc : Tryz.prog.cellsOf e = sz) (hpos : 0 < sz) (hk : ∀ x, (encA x).length = sz)
    (he : ∀ m cs y, DataW.trod enc Tryz.prog W base spare held m e cs = some y → (∀ q ∈ y.1.weights Tryz.prog e, q ≤ reachBytes) → ∃ a : α, cs = encA a ∧ p a) (h : DataW.trod enc Tryz.prog W base spare held n t [v] = some x) (hz : ∀ q ∈ x.1.weights Tryz.prog t, q ≤ reachBytes) : ∃ l, SlOf W encA sz v l ∧ ∀ x ∈ l, p x := by
 rcases DataW.trod_slice ht h with ⟨h0, _⟩ | ⟨a, len, cap, elems, rest, m, hq, hcs, hx, hb, hlc, hcap, hle, hel, _, _⟩
 · cases h0
   exact ⟨[], SlOf.nil _ _ _ _ _ (by omega), fun x hx => by cases hx⟩
 · cases hcs
   rw [hc] at hel
   rw [hx] at hz
   have each : ∀ i, i < len → ∃ u : α, (∀ (j : Nat) (c : Value), (encA u)[j]? = some c → W.cell? (a.add (i * sz + j)) = some c) ∧ p u := by
    intro i hil
    have hi := hel i hil
    rw [List.getElem?_eq_getElem (by omega)] at hi
    obtain ⟨cs', h1, h2⟩ := Option.bind_eq_some_iff.1 hi
    obtain ⟨u, rfl, hp⟩ := he _ _ _ h2 (fun z hq => hz z (by
     simp only [DataW.weights, ht, List.mem_cons, List.mem_append]
     exact Or.inr (Or.inl (weights_all_mem (List.mem_map.2 ⟨_, List.getElem_mem (by omega), rfl⟩) hq))))
    obtain ⟨_, hlen, hcell⟩ := World.cells?_some h1
    refine ⟨u, fun j c hj => ?_, hp⟩
    have hjs : j < sz := by have := (List.getElem?_eq_some_iff.1 hj).1; rw [hk] at this; exact this
    rw [← add_add, hcell j hjs, hj]
   obtain ⟨l, hl1, hl2⟩ := list_of len each
   refine ⟨l, ⟨some a, cap, by rw [hl1], by omega, by unfold maxLen at hcap; omega, fun hne => ?_⟩, fun x hx => ?_⟩
   · obtain ⟨b, o, spot⟩ := a
     obtain ⟨y, hy⟩ : ∃ y, l[0]? = some y := by
      cases l with
      | nil => exact absurd rfl hne
      | cons y _ => exact ⟨y, rfl⟩
     have hy0 : ∃ c, (encA y)[0]? = some c := ⟨(encA y)[0]'(by rw [hk]; exact hpos), List.getElem?_eq_getElem (by rw [hk]; exact hpos)⟩
     obtain ⟨c, hc0⟩ := hy0
     have hspot : spot = none := by simpa [Addr.add] using World.cell?_spot ((hl2 0 y hy).1 0 c hc0)
     subst hspot
     refine ⟨b, o, rfl, fun k x hx i u hu => ?_⟩
     have := (hl2 k x hx).1 i u hu
     rw [Addr.add_lit] at this
     rwa [← Nat.add_assoc] at this
   · obtain ⟨i, hi⟩ := List.getElem?_of_mem hx
     exact (hl2 i x hi).2
theorem cellsPut : Tryz.prog.cellsOf 70 = 23 := by kernel_rfl
set_option maxRecDepth 100000 in
theorem open_put {n : Nat} {cs : List Value} {x : DataW H × List MemPlace} (h : DataW.trod enc Tryz.prog W base spare held n 70 cs = some x) (hz : ∀ q ∈ x.1.weights Tryz.prog 70, q ≤ reachBytes) : ∃ y : PI, cs = inC1 y ∧ (y.c.ok ∧ ∃ n, ArgsIn W n (.slice y.p y.c.t.args.length y.cap) y.c.t.args) ∧ smallT y.c.t := by
 obtain ⟨y0, y1, m, hx, hl, h0, h1⟩ := trod_struct2 Tryz.underlying70 h
 rw [cellsPut] at hl
 match cs, hl with
 | c0 :: c1 :: r, hl =>
  have g0 : DataW.trod enc Tryz.prog W base spare held m 24 [c0, c1] = some y0 := by simpa [Tryz.cellsAddr] using h0
  obtain ⟨a, ea⟩ := open_ad g0
  have hr : r.length = 21 := by simpa using hl
  have g1 : DataW.trod enc Tryz.prog W base spare held m 51 r = some y1 := by
   have := h1
   simp only [Tryz.cellsContent, List.drop_succ_cons, List.drop_zero] at this
   rwa [List.take_of_length_le (by omega)] at this
  have hz1 : ∀ q ∈ y1.1.weights Tryz.prog 51, q ≤ reachBytes := fun q hq => hz q (by rw [hx]; simp [DataW.weights, Tryz.underlying70, DataW.weightsEach, hq])
  obtain ⟨c, p, cap, n, e, q1, q2, q3⟩ := open_content g1 hz1
  simp only [adC, List.cons.injEq, and_true] at ea
  obtain ⟨rfl, rfl⟩ := ea
  have e2 : r = (contV c p c.t.args.length cap).cells.toList := by rw [← e]; simp [Value.cells]
  refine ⟨⟨a, c, p, cap⟩, ?_, ⟨q2, n, q1⟩, q3⟩
  rw [e2]; rfl
theorem open_puts {n : Nat} {v : Value} {x : DataW H × List MemPlace} (h : DataW.trod enc Tryz.prog W base spare held n 22 [v] = some x) (hz : ∀ q ∈ x.1.weights Tryz.prog 22, q ≤ reachBytes) : ∃ l, PutsIn W v l ∧ ∀ x ∈ l, smallT x.c.t := by
 obtain ⟨l, h1, h2⟩ := open_listW (p := fun y : PI => (y.c.ok ∧ ∃ n, ArgsIn W n (.slice y.p y.c.t.args.length y.cap) y.c.t.args) ∧ smallT y.c.t) Tryz.underlying22 cellsPut (by omega) (fun _ => rfl) (fun m cs y h hz => open_put h hz) h hz
 exact ⟨l, ⟨h1, fun x hx => (h2 x hx).1⟩, fun x hx => (h2 x hx).2⟩
end
end Go.Proofs.YtdoeejhdenifpaaGreatDoor
