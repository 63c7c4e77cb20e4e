import Derived.Test.YtdoeejhdenifpaaGreatDoorA7
import Derived.Test.YtdoeejhdenifpaaGreatDoorA11
import Derived.Test.YtdoeejhdenifpaaGreatDoorA12
/- Lists of puts, and of numbers, as they come in. -/
namespace Go.Proofs.YtdoeejhdenifpaaGreatDoor
open Go.ChangeShapes Go.WideShapes Go.ChangeAt Go.RowKit Go.Joins Go.Deep Go.Shelf

section
variable {H : Type} {enc : TypeId × Value → H} {W : World} {base : Nat} {spare : Nat → Bool} {held : Bool}
/-- A slice whose elements read as some, of which something is known. -/
theorem open_listP {α : Type} {p : α → Prop} {encA : α → List Value} {sz : Nat} {t e : TypeId} {n : Nat} {v : Value} {x : DataW H × List MemPlace} (ht : Tryz.prog.underlying t = some (.slice e)) (hc : Tryz.prog.cellsOf e = sz) (hpos : 0 < sz) (hk : ∀ x, (encA x).length = sz)
    (he : ∀ m cs y, DataW.trod enc Tryz.prog W base spare held m e cs = some y → ∃ a : α, cs = encA a ∧ p a) (h : DataW.trod enc Tryz.prog W base spare held n t [v] = some x) : ∃ l, SlOf W encA sz v l ∧ ∀ x ∈ l, p x := by
  rcases open_slice ht h with ⟨h0, _⟩ | ⟨a, len, cap, m, k, D, Pl, hcs, hb, hl, hm, hmm, hx, hi⟩
  · cases h0
    exact ⟨[], SlOf.nil _ _ _ _ _ (by omega), fun x hx => by cases hx⟩
  · cases hcs
    rw [hc] at hi
    have each : ∀ i, i < len → ∃ u : α, (∀ (j : Nat) (c : Value), (encA u)[j]? = some c → W.cell? (a.add (i * sz + j)) = some c) ∧ p u := by
      intro i hil
      have him : i < m := by rw [hmm]; split <;> omega
      obtain ⟨cs', h1, h2⟩ := hi i him
      obtain ⟨u, rfl, hp⟩ := he _ _ _ h2
      obtain ⟨_, hlen, hcell⟩ := World.cells?_some h1
      refine ⟨u, fun j c hj => ?_, hp⟩
      have hjs : j < sz := by have := (List.getElem?_eq_some_iff.1 hj).1; rw [hk] at this; exact this
      rw [← add_add, hcell j hjs, hj]
    obtain ⟨l, hl1, hl2⟩ := list_of len each
    refine ⟨l, ⟨some a, cap, by rw [hl1], by omega, by unfold maxLen at hm; omega, fun hne => ?_⟩, fun x hx => ?_⟩
    · obtain ⟨b, o, spot⟩ := a
      obtain ⟨y, hy⟩ : ∃ y, l[0]? = some y := by
        cases l with
        | nil => exact absurd rfl hne
        | cons y _ => exact ⟨y, rfl⟩
      have hy0 : ∃ c, (encA y)[0]? = some c := ⟨(encA y)[0]'(by rw [hk]; exact hpos), List.getElem?_eq_getElem (by rw [hk]; exact hpos)⟩
      obtain ⟨c, hc0⟩ := hy0
      have hspot : spot = none := by simpa [Addr.add] using World.cell?_spot ((hl2 0 y hy).1 0 c hc0)
      subst hspot
      refine ⟨b, o, rfl, fun k x hx i u hu => ?_⟩
      have := (hl2 k x hx).1 i u hu
      rw [Addr.add_lit] at this
      rwa [← Nat.add_assoc] at this
    · obtain ⟨i, hi⟩ := List.getElem?_of_mem hx
      exact (hl2 i x hi).2
/-- The same, with what the elements weigh. -/
theorem open_listW {α : Type} {p : α → Prop} {encA : α → List Value} {sz : Nat} {t e : TypeId} {n : Nat} {v : Value} {x : DataW H × List MemPlace} (ht : Tryz.prog.underlying t = some (.slice e)) (hc : Tryz.prog.cellsOf e = sz) (hpos : 0 < sz) (hk : ∀ x, (encA x).length = sz)
    (he : ∀ m cs y, DataW.trod enc Tryz.prog W base spare held m e cs = some y → (∀ q ∈ y.1.weights Tryz.prog e, q ≤ reachBytes) → ∃ a : α, cs = encA a ∧ p a) (h : DataW.trod enc Tryz.prog W base spare held n t [v] = some x) (hz : ∀ q ∈ x.1.weights Tryz.prog t, q ≤ reachBytes) : ∃ l, SlOf W encA sz v l ∧ ∀ x ∈ l, p x := by
  rcases DataW.trod_slice ht h with ⟨h0, _⟩ | ⟨a, len, cap, elems, rest, m, hq, hcs, hx, hb, hlc, hcap, hle, hel, _, _⟩
  · cases h0
    exact ⟨[], SlOf.nil _ _ _ _ _ (by omega), fun x hx => by cases hx⟩
  · cases hcs
    rw [hc] at hel
    rw [hx] at hz
    have each : ∀ i, i < len → ∃ u : α, (∀ (j : Nat) (c : Value), (encA u)[j]? = some c → W.cell? (a.add (i * sz + j)) = some c) ∧ p u := by
      intro i hil
      have hi := hel i hil
      rw [List.getElem?_eq_getElem (by omega)] at hi
      obtain ⟨cs', h1, h2⟩ := Option.bind_eq_some_iff.1 hi
      obtain ⟨u, rfl, hp⟩ := he _ _ _ h2 (fun z hq => hz z (by
        simp only [DataW.weights, ht, List.mem_cons, List.mem_append]
        exact Or.inr (Or.inl (weights_all_mem (List.mem_map.2 ⟨_, List.getElem_mem (by omega), rfl⟩) hq))))
      obtain ⟨_, hlen, hcell⟩ := World.cells?_some h1
      refine ⟨u, fun j c hj => ?_, hp⟩
      have hjs : j < sz := by have := (List.getElem?_eq_some_iff.1 hj).1; rw [hk] at this; exact this
      rw [← add_add, hcell j hjs, hj]
    obtain ⟨l, hl1, hl2⟩ := list_of len each
    refine ⟨l, ⟨some a, cap, by rw [hl1], by omega, by unfold maxLen at hcap; omega, fun hne => ?_⟩, fun x hx => ?_⟩
    · obtain ⟨b, o, spot⟩ := a
      obtain ⟨y, hy⟩ : ∃ y, l[0]? = some y := by
        cases l with
        | nil => exact absurd rfl hne
        | cons y _ => exact ⟨y, rfl⟩
      have hy0 : ∃ c, (encA y)[0]? = some c := ⟨(encA y)[0]'(by rw [hk]; exact hpos), List.getElem?_eq_getElem (by rw [hk]; exact hpos)⟩
      obtain ⟨c, hc0⟩ := hy0
      have hspot : spot = none := by simpa [Addr.add] using World.cell?_spot ((hl2 0 y hy).1 0 c hc0)
      subst hspot
      refine ⟨b, o, rfl, fun k x hx i u hu => ?_⟩
      have := (hl2 k x hx).1 i u hu
      rw [Addr.add_lit] at this
      rwa [← Nat.add_assoc] at this
    · obtain ⟨i, hi⟩ := List.getElem?_of_mem hx
      exact (hl2 i x hi).2
theorem cellsPut : Tryz.prog.cellsOf 70 = 23 := by kernel_rfl
theorem inC_len1 (n : Int) : (inC n).length = 1 := rfl
theorem open_nums {n : Nat} {v : Value} {x : DataW H × List MemPlace} (h : DataW.trod enc Tryz.prog W base spare held n 133 [v] = some x) : ∃ l, SlOf W inC 1 v l ∧ ∀ x ∈ l, -9223372036854775808 ≤ x ∧ x ≤ 9223372036854775807 :=
  open_listP Tryz.underlying133 Tryz.cellsInt (by omega) inC_len1 (fun m cs y h => by
    obtain ⟨k, e, _, hw⟩ := DataW.trod_int Tryz.underlying3 h
    exact ⟨k, e, bounds_i64 hw⟩) h
set_option maxRecDepth 100000 in
theorem open_put {n : Nat} {cs : List Value} {x : DataW H × List MemPlace} (h : DataW.trod enc Tryz.prog W base spare held n 70 cs = some x) (hz : ∀ q ∈ x.1.weights Tryz.prog 70, q ≤ reachBytes) : ∃ y : PI, cs = inC1 y ∧ (y.c.ok ∧ ∃ n, ArgsIn W n (.slice y.p y.c.t.args.length y.cap) y.c.t.args) ∧ smallT y.c.t := by
  obtain ⟨y0, y1, m, hx, hl, h0, h1⟩ := trod_struct2 Tryz.underlying70 h
  rw [cellsPut] at hl
  match cs, hl with
  | c0 :: c1 :: r, hl =>
    have g0 : DataW.trod enc Tryz.prog W base spare held m 24 [c0, c1] = some y0 := by simpa [Tryz.cellsAddr] using h0
    obtain ⟨a, ea⟩ := open_ad g0
    have hr : r.length = 21 := by simpa using hl
    have g1 : DataW.trod enc Tryz.prog W base spare held m 51 r = some y1 := by
      have := h1
      simp only [Tryz.cellsContent, List.drop_succ_cons, List.drop_zero] at this
      rwa [List.take_of_length_le (by omega)] at this
    have hz1 : ∀ q ∈ y1.1.weights Tryz.prog 51, q ≤ reachBytes := fun q hq => hz q (by rw [hx]; simp [DataW.weights, Tryz.underlying70, DataW.weightsEach, hq])
    obtain ⟨c, p, cap, n, e, q1, q2, q3⟩ := open_content g1 hz1
    simp only [adC, List.cons.injEq, and_true] at ea
    obtain ⟨rfl, rfl⟩ := ea
    have e2 : r = (contV c p c.t.args.length cap).cells.toList := by rw [← e]; simp [Value.cells]
    refine ⟨⟨a, c, p, cap⟩, ?_, ⟨q2, n, q1⟩, q3⟩
    rw [e2]; rfl
theorem open_puts {n : Nat} {v : Value} {x : DataW H × List MemPlace} (h : DataW.trod enc Tryz.prog W base spare held n 22 [v] = some x) (hz : ∀ q ∈ x.1.weights Tryz.prog 22, q ≤ reachBytes) : ∃ l, PutsIn W v l ∧ ∀ x ∈ l, smallT x.c.t := by
  obtain ⟨l, h1, h2⟩ := open_listW (p := fun y : PI => (y.c.ok ∧ ∃ n, ArgsIn W n (.slice y.p y.c.t.args.length y.cap) y.c.t.args) ∧ smallT y.c.t) Tryz.underlying22 cellsPut (by omega) (fun _ => rfl) (fun m cs y h hz => open_put h hz) h hz
  exact ⟨l, ⟨h1, fun x hx => (h2 x hx).1⟩, fun x hx => (h2 x hx).2⟩
end
end Go.Proofs.YtdoeejhdenifpaaGreatDoor
/- What comes in, opened, with how much it holds (made by mkx10.py). -/
namespace Go.Proofs.YtdoeejhdenifpaaGreatDoor
open Go.ChangeShapes Go.WideShapes Go.ChangeAt Go.RowKit Go.Joins Go.Deep Go.Shelf

section
variable {H : Type} {enc : TypeId × Value → H} {W : World} {base : Nat} {spare : Nat → Bool} {held : Bool}
theorem flatL_le : ∀ (l : List NodeT) (E : List (DataW H)), l.length = E.length → (∀ (i : Nat) (t : NodeT) (d : DataW H), l[i]? = some t → E[i]? = some d → (flatT t).length ≤ Rows.uptoBulk d) → (flatL l).length ≤ Rows.uptoBulkAll E
  | [], _, _, _ => by simp [flatL]
  | t :: l, [], h, _ => by simp at h
  | t :: l, d :: E, h, H => by
    have h1 := H 0 t d rfl rfl
    have h2 := flatL_le l E (by simpa using h) (fun i u e hu he => H (i + 1) u e (by simpa using hu) (by simpa using he))
    rw [flatL, List.length_append]
    simp only [Rows.uptoBulkAll]
    omega
theorem bulk_mem {d : DataW H} : ∀ {E : List (DataW H)}, d ∈ E → Rows.uptoBulk d ≤ Rows.uptoBulkAll E
  | x :: r, h => by
    simp only [Rows.uptoBulkAll]
    rcases List.mem_cons.1 h with rfl | h
    · omega
    · have := bulk_mem h; omega
set_option maxRecDepth 100000 in
set_option maxHeartbeats 1000000 in
theorem open_nodeB : ∀ (n : Nat) {cs : List Value} {x : DataW H × List MemPlace}, DataW.trod enc Tryz.prog W base spare held n 49 cs = some x → (∀ q ∈ x.1.weights Tryz.prog 49, q ≤ reachBytes) → ∃ (t : NodeT) (av : Value), cs = nodeC t av ∧ ArgsIn W n av t.args ∧ t.ok ∧ smallT t ∧ (flatT t).length ≤ Rows.uptoBulk x.1 := by
  intro n
  induction n using Nat.strongRecOn with
  | ind n ih =>
    intro cs x h hz
    obtain ⟨xs, m, hm, rfl, hl, hlen, hf⟩ := DataW.trod_struct Tryz.underlying49 h
    rw [Tryz.cellsNode] at hl
    match xs, hlen with
    | [y0, y1, y2, y3, y4, y5, y6, y7, y8], _ =>
      match cs, hl with
      | [c0, c1, c2, c3, c4, c5, c6, c7, c8, c9, c10, c11, c12, c13, c14], _ =>
        have g0 : DataW.trod enc Tryz.prog W base spare held m 3 [c0] = some y0 := by simpa [Tryz.cellsInt] using hf 0 _ rfl
        have g1 : DataW.trod enc Tryz.prog W base spare held m 3 [c1] = some y1 := by simpa [Tryz.cellsInt] using hf 1 _ rfl
        have g2 : DataW.trod enc Tryz.prog W base spare held m 42 [c2] = some y2 := by simpa [Tryz.cellsF64] using hf 2 _ rfl
        have g3 : DataW.trod enc Tryz.prog W base spare held m 9 [c3] = some y3 := by simpa [Tryz.cellsStr] using hf 3 _ rfl
        have g4 : DataW.trod enc Tryz.prog W base spare held m 4 [c4] = some y4 := by simpa [Tryz.cellsBool] using hf 4 _ rfl
        have g5 : DataW.trod enc Tryz.prog W base spare held m 3 [c5] = some y5 := by simpa [Tryz.cellsInt] using hf 5 _ rfl
        have g6 : DataW.trod enc Tryz.prog W base spare held m 46 [c6, c7, c8, c9] = some y6 := by simpa [Tryz.cellsRef] using hf 6 _ rfl
        have g7 : DataW.trod enc Tryz.prog W base spare held m 46 [c10, c11, c12, c13] = some y7 := by simpa [Tryz.cellsRef] using hf 7 _ rfl
        have g8 : DataW.trod enc Tryz.prog W base spare held m 47 [c14] = some y8 := by simpa [Tryz.cellsNodes] using hf 8 _ rfl
        obtain ⟨k, e0, _, _⟩ := DataW.trod_int Tryz.underlying3 g0
        obtain ⟨op, e1, _, _⟩ := DataW.trod_int Tryz.underlying3 g1
        obtain ⟨fx, e2, hfx⟩ := open_f64 g2
        have hz3 : ∀ q ∈ y3.1.weights Tryz.prog 9, q ≤ reachBytes := fun q hq => hz q (by simp [DataW.weights, Tryz.underlying49, DataW.weightsEach, hq])
        have hz8 : ∀ q ∈ y8.1.weights Tryz.prog 47, q ≤ reachBytes := fun q hq => hz q (by simp [DataW.weights, Tryz.underlying49, DataW.weightsEach, hq])
        obtain ⟨s, e3, es3, ws⟩ := DataW.trod_string Tryz.underlying9 g3
        rw [es3] at hz3
        obtain ⟨b, e4, _⟩ := DataW.trod_bool Tryz.underlying4 g4
        obtain ⟨f, e5, _, _⟩ := DataW.trod_int Tryz.underlying3 g5
        obtain ⟨r1, e6⟩ := open_ref g6
        obtain ⟨r2, e7⟩ := open_ref g7
        simp only [List.cons.injEq, and_true] at e0 e1 e2 e3 e4 e5 e6 e7
        obtain ⟨rfl, rfl, rfl, rfl⟩ := e6
        obtain ⟨rfl, rfl, rfl, rfl⟩ := e7
        subst e0 e1 e2 e3 e4 e5
        have hs : s.size < 4611686018427387904 := size_reach (hz3 s.data.toList.length (by simp [DataW.weights]))
        have harg : ∃ l : List NodeT, ArgsIn W n c14 l ∧ okL l ∧ l.length ≤ 1099511627744 ∧ smallL l ∧ (flatL l).length ≤ Rows.uptoBulk y8.1 := by
          rcases DataW.trod_slice Tryz.underlying47 g8 with ⟨h0, _⟩ | ⟨a, len, cap, elems, rest, q, hq, hcs, hx, hb, hlc, hcap, hle, hel, _, _⟩
          · cases h0
            rw [hm]
            exact ⟨[], ⟨none, 0, rfl, by simp, by omega, fun h => absurd rfl h⟩, by simp [okL], by simp, by simp [smallL], by simp [flatL]⟩
          · cases hcs
            rw [Tryz.cellsNode] at hel
            rw [hx] at hz8
            have hlen128 : len ≤ 1099511627744 := by
              have h := hz8 ((elems.length + rest.length) * Tryz.prog.bytesOf 49) (by
                simp only [DataW.weights, Tryz.underlying47, List.length_map, List.mem_cons, true_or])
              rw [show Tryz.prog.bytesOf 49 = 128 by kernel_rfl] at h
              unfold reachBytes at h
              omega
            have each : ∀ i, i < len → ∃ u : NodeT, ∃ av : Value, (∀ (j : Nat) (c : Value), (nodeC u av)[j]? = some c → W.cell? (a.add (i * 15 + j)) = some c) ∧ ArgsIn W q av u.args ∧ u.ok ∧ smallT u ∧ ∀ d, (elems.map (·.1))[i]? = some d → (flatT u).length ≤ Rows.uptoBulk d := by
              intro i hil
              have hi := hel i hil
              rw [List.getElem?_eq_getElem (by omega)] at hi
              obtain ⟨cs', h1, h2⟩ := Option.bind_eq_some_iff.1 hi
              obtain ⟨u, av, rfl, hin, hok, hsu, hbu⟩ := ih q (by omega) h2 (fun z hq => hz8 z (by
                simp only [DataW.weights, Tryz.underlying47, List.mem_cons, List.mem_append]
                exact Or.inr (Or.inl (weights_all_mem (List.mem_map.2 ⟨_, List.getElem_mem (by omega), rfl⟩) hq))))
              obtain ⟨_, hlen, hcell⟩ := World.cells?_some h1
              refine ⟨u, av, fun j c hj => ?_, hin, hok, hsu, fun d hd => by rw [List.getElem?_map, List.getElem?_eq_getElem (by omega)] at hd; cases hd; exact hbu⟩
              have hjs : j < 15 := (List.getElem?_eq_some_iff.1 hj).1
              rw [← add_add, hcell j hjs, hj]
            obtain ⟨l, hl1, hl2⟩ := list_of len each
            refine ⟨l, ?_, okL_of fun i t ht => (let ⟨_, _, _, h, _⟩ := hl2 i t ht; h), by omega, smallL_of fun i t ht => (let ⟨_, _, _, _, h, _⟩ := hl2 i t ht; h), ?_⟩
            rotate_left
            · rw [hx]
              have hb := flatL_le l (elems.map (·.1)) (by rw [List.length_map, hle, hl1]) (fun i t d ht hd => (let ⟨_, _, _, _, _, h⟩ := hl2 i t ht; h d hd))
              simp only [Rows.uptoBulk]
              omega
            rw [hm, hq]
            refine ⟨some a, cap, by rw [hl1], by omega, by unfold maxLen at hcap; omega, fun hne => ?_⟩
            obtain ⟨bb, o, spot⟩ := a
            obtain ⟨y, hy⟩ : ∃ y, l[0]? = some y := by
              cases l with
              | nil => exact absurd rfl hne
              | cons y _ => exact ⟨y, rfl⟩
            obtain ⟨av0, hc0, _⟩ := hl2 0 y hy
            have hspot : spot = none := by simpa [Addr.add] using World.cell?_spot (hc0 0 _ rfl)
            subst hspot
            refine ⟨bb, o, rfl, fun k t ht => ?_⟩
            obtain ⟨av, hcell, hin, _⟩ := hl2 k t ht
            refine ⟨av, fun i u hu => ?_, hin.up⟩
            have := hcell i u hu
            rw [Addr.add_lit] at this
            rwa [← Nat.add_assoc] at this
        obtain ⟨l, hin, hok, hln, hsl, hbl⟩ := harg
        exact ⟨.mk k op fx s b f r1 r2 l, c14, rfl, hin, by simp only [NodeT.ok]; exact ⟨hs, hfx, hok⟩, by simp only [smallT]; exact ⟨hln, hsl⟩, by rw [flatT, List.length_cons]; simp only [List.map_cons, List.map_nil, Rows.uptoBulk, Rows.uptoBulkAll]; omega⟩
set_option maxRecDepth 100000 in
theorem open_contentB {n : Nat} {cs : List Value} {x : DataW H × List MemPlace} (h : DataW.trod enc Tryz.prog W base spare held n 51 cs = some x) (hz : ∀ q ∈ x.1.weights Tryz.prog 51, q ≤ reachBytes) : ∃ (c : ContT) (a : Option Addr) (cap d : Nat), Value.agg cs.toArray = contV c a c.t.args.length cap ∧ ArgsIn W d (.slice a c.t.args.length cap) c.t.args ∧ c.ok ∧ smallT c.t ∧ (flatT c.t).length ≤ Rows.uptoBulk x.1 := by
  obtain ⟨xs, m, hm, rfl, hl, hlen, hf⟩ := DataW.trod_struct Tryz.underlying51 h
  rw [Tryz.cellsContent] at hl
  match xs, hlen with
  | [y0, y1, y2], _ =>
    match cs, hl with
    | [c0, v0, v1, v2, v3, v4, n0, n1, n2, n3, n4, n5, n6, n7, n8, n9, n10, n11, n12, n13, n14], _ =>
      have g0 : DataW.trod enc Tryz.prog W base spare held m 3 [c0] = some y0 := by simpa [Tryz.cellsInt] using hf 0 _ rfl
      have g1 : DataW.trod enc Tryz.prog W base spare held m 44 [v0, v1, v2, v3, v4] = some y1 := by simpa [Tryz.cellsValue] using hf 1 _ rfl
      have g2 : DataW.trod enc Tryz.prog W base spare held m 49 [n0, n1, n2, n3, n4, n5, n6, n7, n8, n9, n10, n11, n12, n13, n14] = some y2 := by simpa [Tryz.cellsNode] using hf 2 _ rfl
      obtain ⟨k, e0, _, _⟩ := DataW.trod_int Tryz.underlying3 g0
      have hz1 : ∀ q ∈ y1.1.weights Tryz.prog 44, q ≤ reachBytes := fun q hq => hz q (by simp [DataW.weights, Tryz.underlying51, DataW.weightsEach, hq])
      have hz2 : ∀ q ∈ y2.1.weights Tryz.prog 49, q ≤ reachBytes := fun q hq => hz q (by simp [DataW.weights, Tryz.underlying51, DataW.weightsEach, hq])
      obtain ⟨zs, m2, _, rfl, hl2, hlen2, hf2⟩ := DataW.trod_struct Tryz.underlying44 g1
      obtain ⟨t, av, et, hin, hok, hsm, hbt⟩ := open_nodeB m g2 hz2
      match zs, hlen2 with
      | [z0, z1, z2, z3, z4], _ =>
        have p0 : DataW.trod enc Tryz.prog W base spare held m2 3 [v0] = some z0 := by simpa [Tryz.cellsInt] using hf2 0 _ rfl
        have p1 : DataW.trod enc Tryz.prog W base spare held m2 42 [v1] = some z1 := by simpa [Tryz.cellsF64] using hf2 1 _ rfl
        have p2 : DataW.trod enc Tryz.prog W base spare held m2 9 [v2] = some z2 := by simpa [Tryz.cellsStr] using hf2 2 _ rfl
        have p3 : DataW.trod enc Tryz.prog W base spare held m2 4 [v3] = some z3 := by simpa [Tryz.cellsBool] using hf2 3 _ rfl
        have p4 : DataW.trod enc Tryz.prog W base spare held m2 3 [v4] = some z4 := by simpa [Tryz.cellsInt] using hf2 4 _ rfl
        obtain ⟨vk, f0, _, _⟩ := DataW.trod_int Tryz.underlying3 p0
        obtain ⟨vx, f1, hvx⟩ := open_f64 p1
        obtain ⟨vs, f2, es2, ws⟩ := DataW.trod_string Tryz.underlying9 p2
        have hws : vs.size < 4611686018427387904 := size_reach (hz1 vs.data.toList.length (by simp [DataW.weights, Tryz.underlying44, DataW.weightsEach, es2]))
        obtain ⟨vb, f3, _⟩ := DataW.trod_bool Tryz.underlying4 p3
        obtain ⟨vf, f4, _, _⟩ := DataW.trod_int Tryz.underlying3 p4
        obtain ⟨a, cap, rfl, _, _⟩ := hin.shape
        simp only [nodeC, List.cons.injEq, and_true] at e0 f0 f1 f2 f3 f4 et
        obtain ⟨rfl, rfl, rfl, rfl, rfl, rfl, rfl, rfl, rfl, rfl, rfl, rfl, rfl, rfl, rfl⟩ := et
        subst e0 f0 f1 f2 f3 f4
        exact ⟨⟨k, ⟨vk, vx, vs, vb, vf⟩, t⟩, a, cap, m, rfl, hin, ⟨hws, hok, hvx⟩, hsm, by simp only [List.map_cons, List.map_nil, Rows.uptoBulk, Rows.uptoBulkAll]; omega⟩
/-- A list, with what its elements weigh and hold. -/
theorem open_listB {α : Type} {p : α → Prop} {encA : α → List Value} {sz : Nat} {t e : TypeId} {n : Nat} {v : Value} {x : DataW H × List MemPlace} {Nb : Nat} (ht : Tryz.prog.underlying t = some (.slice e)) (hc : Tryz.prog.cellsOf e = sz) (hpos : 0 < sz) (hk : ∀ x, (encA x).length = sz)
    (he : ∀ m cs y, DataW.trod enc Tryz.prog W base spare held m e cs = some y → (∀ q ∈ y.1.weights Tryz.prog e, q ≤ reachBytes) → Rows.uptoBulk y.1 ≤ Nb → ∃ a : α, cs = encA a ∧ p a) (h : DataW.trod enc Tryz.prog W base spare held n t [v] = some x) (hz : ∀ q ∈ x.1.weights Tryz.prog t, q ≤ reachBytes) (hN : Rows.uptoBulk x.1 ≤ Nb) : ∃ l, SlOf W encA sz v l ∧ ∀ x ∈ l, p x := by
  rcases DataW.trod_slice ht h with ⟨h0, _⟩ | ⟨a, len, cap, elems, rest, m, hq, hcs, hx, hb, hlc, hcap, hle, hel, _, _⟩
  · cases h0
    exact ⟨[], SlOf.nil _ _ _ _ _ (by omega), fun x hx => by cases hx⟩
  · cases hcs
    rw [hc] at hel
    rw [hx] at hz hN
    have each : ∀ i, i < len → ∃ u : α, (∀ (j : Nat) (c : Value), (encA u)[j]? = some c → W.cell? (a.add (i * sz + j)) = some c) ∧ p u := by
      intro i hil
      have hi := hel i hil
      rw [List.getElem?_eq_getElem (by omega)] at hi
      obtain ⟨cs', h1, h2⟩ := Option.bind_eq_some_iff.1 hi
      obtain ⟨u, rfl, hp⟩ := he _ _ _ h2 (fun z hq => hz z (by
        simp only [DataW.weights, ht, List.mem_cons, List.mem_append]
        exact Or.inr (Or.inl (weights_all_mem (List.mem_map.2 ⟨_, List.getElem_mem (by omega), rfl⟩) hq)))) (by
        have := bulk_mem (List.mem_map.2 ⟨_, List.getElem_mem (l := elems) (n := i) (by omega), rfl⟩ : (elems[i]'(by omega)).1 ∈ elems.map (·.1))
        simp only [Rows.uptoBulk] at hN
        omega)
      obtain ⟨_, hlen, hcell⟩ := World.cells?_some h1
      refine ⟨u, fun j c hj => ?_, hp⟩
      have hjs : j < sz := by have := (List.getElem?_eq_some_iff.1 hj).1; rw [hk] at this; exact this
      rw [← add_add, hcell j hjs, hj]
    obtain ⟨l, hl1, hl2⟩ := list_of len each
    refine ⟨l, ⟨some a, cap, by rw [hl1], by omega, by unfold maxLen at hcap; omega, fun hne => ?_⟩, fun x hx => ?_⟩
    · obtain ⟨b, o, spot⟩ := a
      obtain ⟨y, hy⟩ : ∃ y, l[0]? = some y := by
        cases l with
        | nil => exact absurd rfl hne
        | cons y _ => exact ⟨y, rfl⟩
      have hy0 : ∃ c, (encA y)[0]? = some c := ⟨(encA y)[0]'(by rw [hk]; exact hpos), List.getElem?_eq_getElem (by rw [hk]; exact hpos)⟩
      obtain ⟨c, hc0⟩ := hy0
      have hspot : spot = none := by simpa [Addr.add] using World.cell?_spot ((hl2 0 y hy).1 0 c hc0)
      subst hspot
      refine ⟨b, o, rfl, fun k x hx i u hu => ?_⟩
      have := (hl2 k x hx).1 i u hu
      rw [Addr.add_lit] at this
      rwa [← Nat.add_assoc] at this
    · obtain ⟨i, hi⟩ := List.getElem?_of_mem hx
      exact (hl2 i x hi).2
set_option maxRecDepth 100000 in
theorem open_putB {n : Nat} {cs : List Value} {x : DataW H × List MemPlace} (h : DataW.trod enc Tryz.prog W base spare held n 70 cs = some x) (hz : ∀ q ∈ x.1.weights Tryz.prog 70, q ≤ reachBytes) : ∃ y : PI, cs = inC1 y ∧ (y.c.ok ∧ ∃ n, ArgsIn W n (.slice y.p y.c.t.args.length y.cap) y.c.t.args) ∧ smallT y.c.t ∧ (flatT y.c.t).length ≤ Rows.uptoBulk x.1 := by
  obtain ⟨y0, y1, m, hx, hl, h0, h1⟩ := trod_struct2 Tryz.underlying70 h
  rw [cellsPut] at hl
  match cs, hl with
  | c0 :: c1 :: r, hl =>
    have g0 : DataW.trod enc Tryz.prog W base spare held m 24 [c0, c1] = some y0 := by simpa [Tryz.cellsAddr] using h0
    obtain ⟨a, ea⟩ := open_ad g0
    have hr : r.length = 21 := by simpa using hl
    have g1 : DataW.trod enc Tryz.prog W base spare held m 51 r = some y1 := by
      have := h1
      simp only [Tryz.cellsContent, List.drop_succ_cons, List.drop_zero] at this
      rwa [List.take_of_length_le (by omega)] at this
    have hz1 : ∀ q ∈ y1.1.weights Tryz.prog 51, q ≤ reachBytes := fun q hq => hz q (by rw [hx]; simp [DataW.weights, Tryz.underlying70, DataW.weightsEach, hq])
    obtain ⟨c, p, cap, n, e, q1, q2, q3, q4⟩ := open_contentB g1 hz1
    simp only [adC, List.cons.injEq, and_true] at ea
    obtain ⟨rfl, rfl⟩ := ea
    have e2 : r = (contV c p c.t.args.length cap).cells.toList := by rw [← e]; simp [Value.cells]
    refine ⟨⟨a, c, p, cap⟩, ?_, ⟨q2, n, q1⟩, q3, by rw [hx]; simp only [Rows.uptoBulk, Rows.uptoBulkAll]; omega⟩
    rw [e2]; rfl
theorem open_putsB {n : Nat} {v : Value} {x : DataW H × List MemPlace} {Nb : Nat} (h : DataW.trod enc Tryz.prog W base spare held n 22 [v] = some x) (hz : ∀ q ∈ x.1.weights Tryz.prog 22, q ≤ reachBytes) (hN : Rows.uptoBulk x.1 ≤ Nb) : ∃ l, PutsIn W v l ∧ (∀ x ∈ l, smallT x.c.t) ∧ ∀ x ∈ l, (flatT x.c.t).length ≤ Nb := by
  obtain ⟨l, h1, h2⟩ := open_listB (p := fun y : PI => (y.c.ok ∧ ∃ n, ArgsIn W n (.slice y.p y.c.t.args.length y.cap) y.c.t.args) ∧ smallT y.c.t ∧ (flatT y.c.t).length ≤ Nb) Tryz.underlying22 cellsPut (by omega) (fun _ => rfl) (fun m cs y h hz hb => let ⟨a, e1, e2, e3, e4⟩ := open_putB h hz; ⟨a, e1, e2, e3, Nat.le_trans e4 hb⟩) h hz hN
  exact ⟨l, ⟨h1, fun x hx => (h2 x hx).1⟩, fun x hx => (h2 x hx).2.1, fun x hx => (h2 x hx).2.2⟩
end
end Go.Proofs.YtdoeejhdenifpaaGreatDoor
