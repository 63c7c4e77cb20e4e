import Derived.Test.YtdoeejhdenifpaaGreatDoorA6
import Derived.Test.YtdoeejhdenifpaaGreatDoorW20
import Derived.ProofKit
import Derived.Lib.SmallJoins
import Derived.Deep.Slices
import Derived.Test.YtdoeejhdenifpaaGreatDoorRows
import Derived.Test.YtdoeejhdenifpaaGreatDoorCards
import Derived.Test.YtdoeejhdenifpaaGreatDoorTie
import Derived.Test.YtdoeejhdenifpaaGreatDoorA3
import Derived.OpenShut
import Derived.Lib.LaidIn
import Derived.Lib.LaidU8T
import Derived.Deep.DeepHandedRow
import Derived.Deep.DeepWitnessRowRef
import Derived.SizedLaws
import Derived.SevenTiedAt
import Derived.Test.YtdoeejhdenifpaaGreatDoorA1
import Derived.Laws.Rows
import Derived.Laws.ResultCell
import Derived.Laws.EntriesVeiled
namespace Go.Proofs.YtdoeejhdenifpaaGreatDoor
open Go.ChangeShapes Go.WideShapes Go.ChangeAt Go.RowKit Go.Joins Go.Deep

theorem Tryz.own' : ownKnob Tryz.prog.godebug = none := by kernel_rfl
theorem Tryz.laidOut' : laidOutB Tryz.prog = true := by kernel_rfl
theorem Tryz.cellsInt : Tryz.prog.cellsOf 3 = 1 := by kernel_rfl
theorem Tryz.cellsBool : Tryz.prog.cellsOf 4 = 1 := by kernel_rfl
theorem Tryz.cellsF64 : Tryz.prog.cellsOf 42 = 1 := by kernel_rfl
theorem Tryz.cellsStr : Tryz.prog.cellsOf 9 = 1 := by kernel_rfl
theorem Tryz.cellsAddr : Tryz.prog.cellsOf 24 = 2 := by kernel_rfl
theorem Tryz.cellsRef : Tryz.prog.cellsOf 46 = 4 := by kernel_rfl
theorem Tryz.cellsValue : Tryz.prog.cellsOf 44 = 5 := by kernel_rfl
theorem Tryz.cellsNode : Tryz.prog.cellsOf 49 = 15 := by kernel_rfl
theorem Tryz.cellsNodes : Tryz.prog.cellsOf 47 = 1 := by kernel_rfl
theorem Tryz.cellsContent : Tryz.prog.cellsOf 51 = 21 := by kernel_rfl
theorem ArgsIn.up {w : World} : ∀ {n : Nat} {av : Value} {l : List NodeT}, ArgsIn w n av l → ArgsIn w (n + 1) av l
  | 0, _, _, h => by obtain ⟨rfl, a, cap, rfl, hc⟩ := h; exact ⟨a, cap, rfl, Nat.zero_le _, hc, fun h => absurd rfl h⟩
  | n + 1, _, _, h => by
    obtain ⟨a, cap, rfl, h1, h2, h3⟩ := h
    refine ⟨a, cap, rfl, h1, h2, fun hne => ?_⟩
    obtain ⟨b, off, rfl, hc⟩ := h3 hne
    exact ⟨b, off, rfl, fun k t ht => let ⟨av', q1, q2⟩ := hc k t ht; ⟨av', q1, q2.up⟩⟩
/-! ### what came in, opened -/
theorem size_reach {s : ByteArray} (h : s.data.toList.length ≤ reachBytes) : s.size < 4611686018427387904 := by
  have e : s.size = s.data.toList.length := by rw [Array.length_toList]; rfl
  unfold reachBytes at h
  omega
section
variable {H : Type} {enc : TypeId × Value → H} {W : World} {base : Nat} {spare : Nat → Bool} {held : Bool}
theorem trod_fl {P : Program} {k : FloatKind} {ty : TypeId} {n : Nat} {cs : List Value} {x : DataW H × List MemPlace} (ht : P.underlying ty = some (.float k)) (h : DataW.trod enc P W base spare held n ty cs = some x) : ∃ v, cs = [.float k v] ∧ (Lit.float k v).wf = true := by
  cases n with
  | zero => simp [DataW.trod] at h
  | succ n =>
    unfold DataW.trod at h
    rw [ht] at h
    split at h <;> simp_all
theorem open_f64 {n : Nat} {cs : List Value} {x : DataW H × List MemPlace} (h : DataW.trod enc Tryz.prog W base spare held n 42 cs = some x) : ∃ v, cs = [.float .f64 v] ∧ v < 18446744073709551616 := by
  obtain ⟨v, h1, h2⟩ := trod_fl Tryz.underlying42 h
  exact ⟨v, h1, by simpa [Lit.wf] using h2⟩
set_option maxRecDepth 100000 in
theorem open_ad {n : Nat} {cs : List Value} {x : DataW H × List MemPlace} (h : DataW.trod enc Tryz.prog W base spare held n 24 cs = some x) : ∃ a : Ad, cs = adC a := by
  obtain ⟨y0, y1, m, hx, hl, h0, h1⟩ := trod_struct2 Tryz.underlying24 h
  rw [Tryz.cellsAddr] at hl
  match cs, hl with
  | [c0, c1], _ =>
    have g0 : DataW.trod enc Tryz.prog W base spare held m 3 [c0] = some y0 := by simpa [Tryz.cellsInt] using h0
    have g1 : DataW.trod enc Tryz.prog W base spare held m 3 [c1] = some y1 := by simpa [Tryz.cellsInt] using h1
    obtain ⟨a, e0, _, _⟩ := DataW.trod_int Tryz.underlying3 g0
    obtain ⟨b, e1, _, _⟩ := DataW.trod_int Tryz.underlying3 g1
    simp at e0 e1
    subst e0 e1
    exact ⟨(a, b), rfl⟩
set_option maxRecDepth 100000 in
theorem open_ref {n : Nat} {cs : List Value} {x : DataW H × List MemPlace} (h : DataW.trod enc Tryz.prog W base spare held n 46 cs = some x) : ∃ r : RefT, cs = [.int .i64 r.a.1, .int .i64 r.a.2, .bool r.cf, .bool r.rf] := by
  obtain ⟨xs, m, _, rfl, hl, hlen, hf⟩ := DataW.trod_struct Tryz.underlying46 h
  rw [Tryz.cellsRef] at hl
  match xs, hlen with
  | [y0, y1, y2], _ =>
    match cs, hl with
    | [c0, c1, c2, c3], _ =>
      have g0 : DataW.trod enc Tryz.prog W base spare held m 24 [c0, c1] = some y0 := by simpa [Tryz.cellsAddr] using hf 0 _ rfl
      have g1 : DataW.trod enc Tryz.prog W base spare held m 4 [c2] = some y1 := by simpa [Tryz.cellsBool] using hf 1 _ rfl
      have g2 : DataW.trod enc Tryz.prog W base spare held m 4 [c3] = some y2 := by simpa [Tryz.cellsBool] using hf 2 _ rfl
      obtain ⟨a, ea⟩ := open_ad g0
      obtain ⟨b1, e1, _⟩ := DataW.trod_bool Tryz.underlying4 g1
      obtain ⟨b2, e2, _⟩ := DataW.trod_bool Tryz.underlying4 g2
      simp only [adC, List.cons.injEq, and_true] at ea e1 e2
      obtain ⟨rfl, rfl⟩ := ea
      subst e1 e2
      exact ⟨⟨a, b1, b2⟩, rfl⟩
theorem list_of {α : Type} {p : Nat → α → Prop} : ∀ (n : Nat), (∀ i, i < n → ∃ x, p i x) → ∃ l : List α, l.length = n ∧ ∀ i x, l[i]? = some x → p i x
  | 0, _ => ⟨[], rfl, fun i x h => by simp at h⟩
  | n + 1, h => by
    obtain ⟨l, h1, h2⟩ := list_of n (fun i hi => h i (by omega))
    obtain ⟨x, hx⟩ := h n (by omega)
    refine ⟨l ++ [x], by simp [h1], fun i y hy => ?_⟩
    rcases Nat.lt_or_ge i n with hi | hi
    · rw [List.getElem?_append_left (by omega)] at hy; exact h2 i y hy
    · have : i = n := by
        have := (List.getElem?_eq_some_iff.1 hy).1
        simp [h1] at this; omega
      subst this
      rw [List.getElem?_append_right (by omega), h1, Nat.sub_self] at hy
      simp at hy; subst hy; exact hx
theorem weights_all_mem {P : Program} {e : TypeId} : ∀ {l : List (DataW H)} {d : DataW H} {q : Nat}, d ∈ l → q ∈ d.weights P e → q ∈ DataW.weightsAll P e l
  | x :: r, d, q, hd, hq => by
    simp only [DataW.weightsAll, List.mem_append]
    rcases List.mem_cons.1 hd with rfl | hd
    · exact Or.inl hq
    · exact Or.inr (weights_all_mem hd hq)
theorem okL_of : ∀ {l : List NodeT}, (∀ (i : Nat) (t : NodeT), l[i]? = some t → t.ok) → okL l
  | [], _ => by simp [okL]
  | t :: r, h => by simp only [okL]; exact ⟨h 0 t rfl, okL_of (fun i u hu => h (i + 1) u (by simpa using hu))⟩
theorem smallL_of : ∀ {l : List NodeT}, (∀ (i : Nat) (t : NodeT), l[i]? = some t → smallT t) → smallL l
  | [], _ => by simp [smallL]
  | t :: r, h => by simp only [smallL]; exact ⟨h 0 t rfl, smallL_of (fun i u hu => h (i + 1) u (by simpa using hu))⟩
set_option maxRecDepth 100000 in
set_option maxHeartbeats 1000000 in
theorem open_node : ∀ (n : Nat) {cs : List Value} {x : DataW H × List MemPlace}, DataW.trod enc Tryz.prog W base spare held n 49 cs = some x → (∀ q ∈ x.1.weights Tryz.prog 49, q ≤ reachBytes) → ∃ (t : NodeT) (av : Value), cs = nodeC t av ∧ ArgsIn W n av t.args ∧ t.ok ∧ smallT t := by
  intro n
  induction n using Nat.strongRecOn with
  | ind n ih =>
    intro cs x h hz
    obtain ⟨xs, m, hm, rfl, hl, hlen, hf⟩ := DataW.trod_struct Tryz.underlying49 h
    rw [Tryz.cellsNode] at hl
    match xs, hlen with
    | [y0, y1, y2, y3, y4, y5, y6, y7, y8], _ =>
      match cs, hl with
      | [c0, c1, c2, c3, c4, c5, c6, c7, c8, c9, c10, c11, c12, c13, c14], _ =>
        have g0 : DataW.trod enc Tryz.prog W base spare held m 3 [c0] = some y0 := by simpa [Tryz.cellsInt] using hf 0 _ rfl
        have g1 : DataW.trod enc Tryz.prog W base spare held m 3 [c1] = some y1 := by simpa [Tryz.cellsInt] using hf 1 _ rfl
        have g2 : DataW.trod enc Tryz.prog W base spare held m 42 [c2] = some y2 := by simpa [Tryz.cellsF64] using hf 2 _ rfl
        have g3 : DataW.trod enc Tryz.prog W base spare held m 9 [c3] = some y3 := by simpa [Tryz.cellsStr] using hf 3 _ rfl
        have g4 : DataW.trod enc Tryz.prog W base spare held m 4 [c4] = some y4 := by simpa [Tryz.cellsBool] using hf 4 _ rfl
        have g5 : DataW.trod enc Tryz.prog W base spare held m 3 [c5] = some y5 := by simpa [Tryz.cellsInt] using hf 5 _ rfl
        have g6 : DataW.trod enc Tryz.prog W base spare held m 46 [c6, c7, c8, c9] = some y6 := by simpa [Tryz.cellsRef] using hf 6 _ rfl
        have g7 : DataW.trod enc Tryz.prog W base spare held m 46 [c10, c11, c12, c13] = some y7 := by simpa [Tryz.cellsRef] using hf 7 _ rfl
        have g8 : DataW.trod enc Tryz.prog W base spare held m 47 [c14] = some y8 := by simpa [Tryz.cellsNodes] using hf 8 _ rfl
        obtain ⟨k, e0, _, _⟩ := DataW.trod_int Tryz.underlying3 g0
        obtain ⟨op, e1, _, _⟩ := DataW.trod_int Tryz.underlying3 g1
        obtain ⟨fx, e2, hfx⟩ := open_f64 g2
        have hz3 : ∀ q ∈ y3.1.weights Tryz.prog 9, q ≤ reachBytes := fun q hq => hz q (by simp [DataW.weights, Tryz.underlying49, DataW.weightsEach, hq])
        have hz8 : ∀ q ∈ y8.1.weights Tryz.prog 47, q ≤ reachBytes := fun q hq => hz q (by simp [DataW.weights, Tryz.underlying49, DataW.weightsEach, hq])
        obtain ⟨s, e3, es3, ws⟩ := DataW.trod_string Tryz.underlying9 g3
        rw [es3] at hz3
        obtain ⟨b, e4, _⟩ := DataW.trod_bool Tryz.underlying4 g4
        obtain ⟨f, e5, _, _⟩ := DataW.trod_int Tryz.underlying3 g5
        obtain ⟨r1, e6⟩ := open_ref g6
        obtain ⟨r2, e7⟩ := open_ref g7
        simp only [List.cons.injEq, and_true] at e0 e1 e2 e3 e4 e5 e6 e7
        obtain ⟨rfl, rfl, rfl, rfl⟩ := e6
        obtain ⟨rfl, rfl, rfl, rfl⟩ := e7
        subst e0 e1 e2 e3 e4 e5
        have hs : s.size < 4611686018427387904 := size_reach (hz3 s.data.toList.length (by simp [DataW.weights]))
        have harg : ∃ l : List NodeT, ArgsIn W n c14 l ∧ okL l ∧ l.length ≤ 1099511627744 ∧ smallL l := by
          rcases DataW.trod_slice Tryz.underlying47 g8 with ⟨h0, _⟩ | ⟨a, len, cap, elems, rest, q, hq, hcs, hx, hb, hlc, hcap, hle, hel, _, _⟩
          · cases h0
            rw [hm]
            exact ⟨[], ⟨none, 0, rfl, by simp, by omega, fun h => absurd rfl h⟩, by simp [okL], by simp, by simp [smallL]⟩
          · cases hcs
            rw [Tryz.cellsNode] at hel
            rw [hx] at hz8
            have hlen128 : len ≤ 1099511627744 := by
              have h := hz8 ((elems.length + rest.length) * Tryz.prog.bytesOf 49) (by
                simp only [DataW.weights, Tryz.underlying47, List.length_map, List.mem_cons, true_or])
              rw [show Tryz.prog.bytesOf 49 = 128 by kernel_rfl] at h
              unfold reachBytes at h
              omega
            have each : ∀ i, i < len → ∃ u : NodeT, ∃ av : Value, (∀ (j : Nat) (c : Value), (nodeC u av)[j]? = some c → W.cell? (a.add (i * 15 + j)) = some c) ∧ ArgsIn W q av u.args ∧ u.ok ∧ smallT u := by
              intro i hil
              have hi := hel i hil
              rw [List.getElem?_eq_getElem (by omega)] at hi
              obtain ⟨cs', h1, h2⟩ := Option.bind_eq_some_iff.1 hi
              obtain ⟨u, av, rfl, hin, hok, hsu⟩ := ih q (by omega) h2 (fun z hq => hz8 z (by
                simp only [DataW.weights, Tryz.underlying47, List.mem_cons, List.mem_append]
                exact Or.inr (Or.inl (weights_all_mem (List.mem_map.2 ⟨_, List.getElem_mem (by omega), rfl⟩) hq))))
              obtain ⟨_, hlen, hcell⟩ := World.cells?_some h1
              refine ⟨u, av, fun j c hj => ?_, hin, hok, hsu⟩
              have hjs : j < 15 := (List.getElem?_eq_some_iff.1 hj).1
              rw [← add_add, hcell j hjs, hj]
            obtain ⟨l, hl1, hl2⟩ := list_of len each
            refine ⟨l, ?_, okL_of fun i t ht => (let ⟨_, _, _, h, _⟩ := hl2 i t ht; h), by omega, smallL_of fun i t ht => (let ⟨_, _, _, _, h⟩ := hl2 i t ht; h)⟩
            rw [hm, hq]
            refine ⟨some a, cap, by rw [hl1], by omega, by unfold maxLen at hcap; omega, fun hne => ?_⟩
            obtain ⟨bb, o, spot⟩ := a
            obtain ⟨y, hy⟩ : ∃ y, l[0]? = some y := by
              cases l with
              | nil => exact absurd rfl hne
              | cons y _ => exact ⟨y, rfl⟩
            obtain ⟨av0, hc0, _⟩ := hl2 0 y hy
            have hspot : spot = none := by simpa [Addr.add] using World.cell?_spot (hc0 0 _ rfl)
            subst hspot
            refine ⟨bb, o, rfl, fun k t ht => ?_⟩
            obtain ⟨av, hcell, hin, _⟩ := hl2 k t ht
            refine ⟨av, fun i u hu => ?_, hin.up⟩
            have := hcell i u hu
            rw [Addr.add_lit] at this
            rwa [← Nat.add_assoc] at this
        obtain ⟨l, hin, hok, hln, hsl⟩ := harg
        exact ⟨.mk k op fx s b f r1 r2 l, c14, rfl, hin, by simp only [NodeT.ok]; exact ⟨hs, hfx, hok⟩, by simp only [smallT]; exact ⟨hln, hsl⟩⟩
set_option maxRecDepth 100000 in
theorem open_content {n : Nat} {cs : List Value} {x : DataW H × List MemPlace} (h : DataW.trod enc Tryz.prog W base spare held n 51 cs = some x) (hz : ∀ q ∈ x.1.weights Tryz.prog 51, q ≤ reachBytes) : ∃ (c : ContT) (a : Option Addr) (cap d : Nat), Value.agg cs.toArray = contV c a c.t.args.length cap ∧ ArgsIn W d (.slice a c.t.args.length cap) c.t.args ∧ c.ok ∧ smallT c.t := by
  obtain ⟨xs, m, hm, rfl, hl, hlen, hf⟩ := DataW.trod_struct Tryz.underlying51 h
  rw [Tryz.cellsContent] at hl
  match xs, hlen with
  | [y0, y1, y2], _ =>
    match cs, hl with
    | [c0, v0, v1, v2, v3, v4, n0, n1, n2, n3, n4, n5, n6, n7, n8, n9, n10, n11, n12, n13, n14], _ =>
      have g0 : DataW.trod enc Tryz.prog W base spare held m 3 [c0] = some y0 := by simpa [Tryz.cellsInt] using hf 0 _ rfl
      have g1 : DataW.trod enc Tryz.prog W base spare held m 44 [v0, v1, v2, v3, v4] = some y1 := by simpa [Tryz.cellsValue] using hf 1 _ rfl
      have g2 : DataW.trod enc Tryz.prog W base spare held m 49 [n0, n1, n2, n3, n4, n5, n6, n7, n8, n9, n10, n11, n12, n13, n14] = some y2 := by simpa [Tryz.cellsNode] using hf 2 _ rfl
      obtain ⟨k, e0, _, _⟩ := DataW.trod_int Tryz.underlying3 g0
      have hz1 : ∀ q ∈ y1.1.weights Tryz.prog 44, q ≤ reachBytes := fun q hq => hz q (by simp [DataW.weights, Tryz.underlying51, DataW.weightsEach, hq])
      have hz2 : ∀ q ∈ y2.1.weights Tryz.prog 49, q ≤ reachBytes := fun q hq => hz q (by simp [DataW.weights, Tryz.underlying51, DataW.weightsEach, hq])
      obtain ⟨zs, m2, _, rfl, hl2, hlen2, hf2⟩ := DataW.trod_struct Tryz.underlying44 g1
      obtain ⟨t, av, et, hin, hok, hsm⟩ := open_node m g2 hz2
      match zs, hlen2 with
      | [z0, z1, z2, z3, z4], _ =>
        have p0 : DataW.trod enc Tryz.prog W base spare held m2 3 [v0] = some z0 := by simpa [Tryz.cellsInt] using hf2 0 _ rfl
        have p1 : DataW.trod enc Tryz.prog W base spare held m2 42 [v1] = some z1 := by simpa [Tryz.cellsF64] using hf2 1 _ rfl
        have p2 : DataW.trod enc Tryz.prog W base spare held m2 9 [v2] = some z2 := by simpa [Tryz.cellsStr] using hf2 2 _ rfl
        have p3 : DataW.trod enc Tryz.prog W base spare held m2 4 [v3] = some z3 := by simpa [Tryz.cellsBool] using hf2 3 _ rfl
        have p4 : DataW.trod enc Tryz.prog W base spare held m2 3 [v4] = some z4 := by simpa [Tryz.cellsInt] using hf2 4 _ rfl
        obtain ⟨vk, f0, _, _⟩ := DataW.trod_int Tryz.underlying3 p0
        obtain ⟨vx, f1, hvx⟩ := open_f64 p1
        obtain ⟨vs, f2, es2, ws⟩ := DataW.trod_string Tryz.underlying9 p2
        have hws : vs.size < 4611686018427387904 := size_reach (hz1 vs.data.toList.length (by simp [DataW.weights, Tryz.underlying44, DataW.weightsEach, es2]))
        obtain ⟨vb, f3, _⟩ := DataW.trod_bool Tryz.underlying4 p3
        obtain ⟨vf, f4, _, _⟩ := DataW.trod_int Tryz.underlying3 p4
        obtain ⟨a, cap, rfl, _, _⟩ := hin.shape
        simp only [nodeC, List.cons.injEq, and_true] at e0 f0 f1 f2 f3 f4 et
        obtain ⟨rfl, rfl, rfl, rfl, rfl, rfl, rfl, rfl, rfl, rfl, rfl, rfl, rfl, rfl, rfl⟩ := et
        subst e0 f0 f1 f2 f3 f4
        exact ⟨⟨k, ⟨vk, vx, vs, vb, vf⟩, t⟩, a, cap, m, rfl, hin, ⟨hws, hok, hvx⟩, hsm⟩
end
end Go.Proofs.YtdoeejhdenifpaaGreatDoor
/- The laid tables of unicode/utf8, and what comes in, opened. -/
namespace Go.Proofs.YtdoeejhdenifpaaGreatDoor
open Go.ChangeShapes Go.WideShapes Go.ChangeAt Go.RowKit Go.Joins Go.Deep Go.Shelf

/-- The witness: the two tables laid. -/
noncomputable def laidWorld (os : Os) : World :=
  let w0 := World.holding Tryz.prog os ⟨#[], #[], []⟩
  let put (h : Array Obj) (g : Nat) (cs : Array Value) : Array Obj := h.modify g fun
    | .cells _ t frozen => .cells cs t frozen
    | o => o
  let h1 := put w0.heap 1 (Lib.firstTab.map fun z => Value.int .u8 z).toArray
  let h2 := put h1 2 ((List.range 16).flatMap fun i => [Value.int .u8 (Lib.accLo i), Value.int .u8 (Lib.accHi i)]).toArray
  { w0 with heap := h2 }
theorem acc_is : (Rows.laid_unicode_utf8_acceptRanges : DataW Unit) = Lib.acceptData := by kernel_rfl
theorem fst_is : (Rows.laid_unicode_utf8_first : DataW Unit) = Lib.firstData := by kernel_rfl
abbrev laidL : List (String × DataW Unit) := [("unicode/utf8.acceptRanges", Rows.laid_unicode_utf8_acceptRanges), ("unicode/utf8.first", Rows.laid_unicode_utf8_first)]
theorem laid_met (os : Os) (args : Array Value) : laidMet Tryz.prog laidL ((laidWorld os).forCall (fun _ _ => 0) ⟨#[], args, []⟩).memory :=
  (LaidIn.of_run (l := [("unicode/utf8.acceptRanges", Rows.laid_unicode_utf8_acceptRanges), ("unicode/utf8.first", Rows.laid_unicode_utf8_first)]) [2, 1] 8 (by kernel_rfl) (by kernel_rfl) (by kernel_rfl) (by kernel_rfl)).met
theorem tabs_of {W : World} (hL : laidMetH Tryz.prog laidL W) : Tabs W := by
  have h1 := Lib.laidMet.reads hL (.head _)
  have h2 := Lib.laidMet.reads hL (.tail _ (.head _))
  rw [acc_is] at h1
  rw [fst_is] at h2
  exact utf8Tabs_of_readsT (U8Types.of196 Tryz.valid8) ⟨by kernel_rfl, by kernel_rfl, by kernel_rfl, by kernel_rfl, by kernel_rfl, by kernel_rfl, by kernel_rfl⟩ h2 h1
theorem laid_metH (os : Os) (args : Array Value) : laidMetH Tryz.prog laidL ((laidWorld os).forCall (fun _ _ => 0) ⟨#[], args, []⟩).memory :=
  laidMetH_of_parts (laid_met os args) (by kernel_rfl)
abbrev zeroV : Value := contV zeroC none 0 0
set_option maxRecDepth 100000 in
theorem open_con {H : Type} {enc : TypeId × Value → H} {W : World} {v : Value} {d : DataW H} {p : List MemPlace} {base : Nat} (hv : Value.okWide Tryz.prog W .any base 51 v) (h : DataW.Trod enc Tryz.prog W 0 (fun _ => true) true 51 v d p) (hz : ∀ q ∈ d.weights Tryz.prog 51, q ≤ reachBytes) :
    ∃ (c : ContT) (a : Option Addr) (cap n : Nat), v = contV c a c.t.args.length cap ∧ ArgsIn W n (.slice a c.t.args.length cap) c.t.args ∧ c.ok := by
  obtain ⟨cs, rfl, _⟩ := okWide_struct Tryz.underlying51 hv
  obtain ⟨f, hf⟩ := h
  obtain ⟨c, a, cap, n, e, q1, q2, _⟩ := open_content hf hz
  exact ⟨c, a, cap, n, by rw [← e]; simp [Value.cells], q1, q2⟩
end Go.Proofs.YtdoeejhdenifpaaGreatDoor
/- move: where a line is brought; where those from one to another one are. -/
namespace Go.Proofs.YtdoeejhdenifpaaGreatDoor
open Go.RowKit Go.Sort

/-- Lines put in (or taken out, below 0) at one; how many there are. -/
structure LinT where
  at_ : Int
  n : Int
  many : Int
abbrev linV (l : LinT) : Value := .agg #[.int .i64 l.at_, .int .i64 l.n, .int .i64 l.many]
def lineF (l : LinT) (k : Int) : Int × Bool :=
  if k < l.at_ then (k, true) else if 0 ≤ l.n then (wrap64 (k + l.n), decide (wrap64 (k + l.n) ≤ l.many)) else (wrap64 (k + l.n), decide (wrap64 (l.at_ - l.n) ≤ k))
set_option maxRecDepth 100000 in
set_option maxHeartbeats 2000000 in
theorem line_any (l : LinT) (k : Int) (w : World) :
    Calls Tryz.prog 147 #[linV l, .int .i64 k] w fun e w' => e = .returned (.tuple #[.int .i64 (lineF l k).1, .bool (lineF l k).2]) ∧ Gr w w' := by
  obtain ⟨a, n, m⟩ := l
  unfold lineF
  simp only
  obtain ⟨w0, hw0⟩ : ∃ w0, w.alloc (.cells #[.int .i64 a, .int .i64 n, .int .i64 m] 147) = w0 := ⟨_, rfl⟩
  have hr : w0.heap[w.heap.size]? = some (.cells #[.int .i64 a, .int .i64 n, .int .i64 m] 147 (0, 0)) := by rw [← hw0]; exact (MapKept.heap_alloc w _).1
  have c0 : w0.cell? ⟨w.heap.size, 0, none⟩ = some (.int .i64 a) := by simp [World.cell?, hr]
  have c1 : w0.cell? ⟨w.heap.size, 1, none⟩ = some (.int .i64 n) := by simp [World.cell?, hr]
  have c2 : w0.cell? ⟨w.heap.size, 2, none⟩ = some (.int .i64 m) := by simp [World.cell?, hr]
  have HG : Hid (Gr w w0) := by unfold Hid; rw [← hw0]; exact (Gr.refl _).alloc _
  clear hr
  by_cases h1 : k < a
  · rw [if_pos h1]
    go_enter Tryz.func147, Tryz.ntmps147
    go_wp2_with fail
    go_ret2
    exact ⟨rfl, HG.out⟩
  rw [if_neg h1]
  by_cases h2 : 0 ≤ n
  · rw [if_pos h2]
    obtain ⟨s, hs⟩ : ∃ s, wrap64 (k + n) = s := ⟨_, rfl⟩
    go_enter Tryz.func147, Tryz.ntmps147
    go_wp2_with fail
    go_quiet (fail)
    go_wp2_with fail
    go_ret2
    exact ⟨by simp [hs], HG.out.drewN _⟩
  · rw [if_neg h2]
    obtain ⟨s, hs⟩ : ∃ s, wrap64 (k + n) = s := ⟨_, rfl⟩
    obtain ⟨q, hq⟩ : ∃ q, wrap64 (a - n) = q := ⟨_, rfl⟩
    go_enter Tryz.func147, Tryz.ntmps147
    go_wp2_with fail
    go_quiet (fail)
    go_wp2_with fail
    go_ret2
    exact ⟨by simp [hs, hq], HG.out.drewN _⟩
def spanG (l : LinT) : Nat → Int → Int → Int → Int × Int
  | 0, _, f, t => (f, t)
  | n + 1, k, f, t => if (lineF l k).2 = true then spanG l n (k + 1) (if f = 0 then (lineF l k).1 else f) (lineF l k).1 else spanG l n (k + 1) f t
def spanF (l : LinT) (a b : Int) : Int × Int × Bool := ((spanG l (b - a + 1).toNat a 0 0).1, (spanG l (b - a + 1).toNat a 0 0).2, decide (0 < (spanG l (b - a + 1).toNat a 0 0).1))
theorem spanG_step {l : LinT} {k b f t : Int} (h : k ≤ b) : spanG l (b - k + 1).toNat k f t = if (lineF l k).2 = true then spanG l (b - (k + 1) + 1).toNat (k + 1) (if f = 0 then (lineF l k).1 else f) (lineF l k).1 else spanG l (b - (k + 1) + 1).toNat (k + 1) f t := by
  have e : (b - k + 1).toNat = (b - (k + 1) + 1).toNat + 1 := by omega
  rw [e]; rfl
theorem spanG_end {l : LinT} {k b f t : Int} (h : b < k) : spanG l (b - k + 1).toNat k f t = (f, t) := by
  have e : (b - k + 1).toNat = 0 := by omega
  rw [e]; rfl
set_option maxRecDepth 100000 in
set_option maxHeartbeats 4000000 in
theorem span_any (l : LinT) (a b : Int) (w : World) (ha : -4611686018427387904 ≤ a) (hb : b ≤ 4611686018427387904) :
    Calls Tryz.prog 149 #[linV l, .int .i64 a, .int .i64 b] w fun e w' => e = .returned (.tuple #[.int .i64 (spanF l a b).1, .int .i64 (spanF l a b).2.1, .bool (spanF l a b).2.2]) ∧ Gr w w' := by
  obtain ⟨w0, hw0⟩ : ∃ w0, w.alloc (.cells #[.int .i64 l.at_, .int .i64 l.n, .int .i64 l.many] 147) = w0 := ⟨_, rfl⟩
  have hr : w0.heap[w.heap.size]? = some (.cells #[.int .i64 l.at_, .int .i64 l.n, .int .i64 l.many] 147 (0, 0)) := by rw [← hw0]; exact (MapKept.heap_alloc w _).1
  have c0 : w0.cell? ⟨w.heap.size, 0, none⟩ = some (.int .i64 l.at_) := by simp [World.cell?, hr]
  have c1 : w0.cell? ⟨w.heap.size, 1, none⟩ = some (.int .i64 l.n) := by simp [World.cell?, hr]
  have c2 : w0.cell? ⟨w.heap.size, 2, none⟩ = some (.int .i64 l.many) := by simp [World.cell?, hr]
  have HG : Hid (Gr w w0) := by unfold Hid; rw [← hw0]; exact (Gr.refl _).alloc _
  have hs0 : w0.heap.size = w.heap.size + 1 := by rw [← hw0]; simp
  unfold spanF
  obtain ⟨r, hr0⟩ : ∃ r, spanG l (b - a + 1).toNat a 0 0 = r := ⟨_, rfl⟩
  have HR := Lib.hid hr0
  rw [hr0]
  clear hr hr0
  go_enter Tryz.func149, Tryz.ntmps149
  go_wp2_with fail
  clear hw0
  go_loopw [9, 10, 11] (fun s9 s10 s11 wr => ∃ k f t : Int, -4611686018427387904 ≤ k ∧ s11 = .int .i64 k ∧ s9 = .int .i64 f ∧ s10 = .int .i64 t ∧ Hid (spanG l (b - k + 1).toNat k f t = r) ∧ Hid (Gr w0 wr)) (fun _ _ s11 _ => (b + 1 - intOf s11).toNat)
  case atStart => exact ⟨a, 0, 0, ha, rfl, rfl, rfl, HR, Gr.refl _⟩
  case round =>
    obtain ⟨k, f, t, hk, rfl, rfl, rfl, HS, HGr⟩ := hrel
    have k0 := ((HGr.out.xt.cells).1 w.heap.size 0 (by omega)).trans c0
    have k1 := ((HGr.out.xt.cells).1 w.heap.size 1 (by omega)).trans c1
    have k2 := ((HGr.out.xt.cells).1 w.heap.size 2 (by omega)).trans c2
    by_cases hlt : k ≤ b
    · have hst := HS.out
      rw [spanG_step hlt] at hst
      have HST := Lib.hid hst
      have HC := Lib.hid (line_any l k wr)
      generalize lineF l k = lf at HC HST
      obtain ⟨m, ok⟩ := lf
      simp only at HC HST
      have hadd : wrap64 (k + 1) = k + 1 := by unfold wrap64; omega
      clear hst
      go_wp2_with fail
      refine (HC.out).mono ?_
      rintro e w2 ⟨rfl, hg2⟩
      have HG2 := Lib.hid (HGr.out.trans hg2)
      clear hg2 k0 k1 k2
      cases ok
      · have HN : Hid (spanG l (b - (k + 1) + 1).toNat (k + 1) f t = r) := by have h := HST.out; unfold Hid; simpa using h
        go_wp2_with fail
        go_roundw
        case rel => exact ⟨k + 1, f, t, by omega, rfl, rfl, rfl, HN, HG2.out⟩
        case measure => simp [intOf]; omega
      · by_cases hf : f = 0
        · subst hf
          have HN : Hid (spanG l (b - (k + 1) + 1).toNat (k + 1) m m = r) := by have h := HST.out; unfold Hid; simpa using h
          go_wp2_with fail
          go_roundw
          case rel => exact ⟨k + 1, m, m, by omega, rfl, rfl, rfl, HN, HG2.out⟩
          case measure => simp [intOf]; omega
        · have hfb : (f == 0) = false := by simpa using hf
          have HN : Hid (spanG l (b - (k + 1) + 1).toNat (k + 1) f m = r) := by have h := HST.out; unfold Hid; simpa [hf] using h
          go_wp2_with fail
          go_roundw
          case rel => exact ⟨k + 1, f, m, by omega, rfl, rfl, rfl, HN, HG2.out⟩
          case measure => simp [intOf]; omega
    · have hE := HS.out
      rw [spanG_end (by omega)] at hE
      have HE := Lib.hid hE
      clear hE
      go_wp2_with fail
      refine bodyPost_ret (v := .tuple #[.int .i64 f, .int .i64 t, .bool (decide (0 < f))]) (by simp [results]) rfl ?_
      exact ⟨by rw [← HE.out], HG.out.trans HGr.out⟩
end Go.Proofs.YtdoeejhdenifpaaGreatDoor
/- move: the roads of lines put in or taken out (closures). -/
namespace Go.Proofs.YtdoeejhdenifpaaGreatDoor
open Go.RowKit Go.Sort

theorem rowX {w w' : World} (hx : Xt w w') {b : Nat} {o : Obj} (h : w.heap[b]? = some o) : w'.heap[b]? = some o := (hx.block b (Array.getElem?_eq_some_iff.1 h).1).trans h
/-- Lines in a cell of their own, and whether they are columns. -/
structure LinAt (w : World) (pc pl : Nat) (cols : Bool) (l : LinT) : Prop where
  c : w.cell? ⟨pc, 0, none⟩ = some (.bool cols)
  c0 : w.cell? ⟨pl, 0, none⟩ = some (.int .i64 l.at_)
  c1 : w.cell? ⟨pl, 1, none⟩ = some (.int .i64 l.n)
  c2 : w.cell? ⟨pl, 2, none⟩ = some (.int .i64 l.many)
theorem LinAt.xt {w w' : World} {pc pl : Nat} {cols : Bool} {l : LinT} (h : LinAt w pc pl cols l) (hx : Xt w w') : LinAt w' pc pl cols l :=
  ⟨((hx.cells).1 _ _ (World.block_lt_of_cell? w _ h.c)).trans h.c, ((hx.cells).1 _ _ (World.block_lt_of_cell? w _ h.c0)).trans h.c0, ((hx.cells).1 _ _ (World.block_lt_of_cell? w _ h.c1)).trans h.c1, ((hx.cells).1 _ _ (World.block_lt_of_cell? w _ h.c2)).trans h.c2⟩
def cellF (cols : Bool) (l : LinT) (a : Int × Int) : (Int × Int) × Bool := if cols = true then (((lineF l a.1).1, a.2), (lineF l a.1).2) else ((a.1, (lineF l a.2).1), (lineF l a.2).2)
theorem cells2 {w : World} {b : Nat} {u v : Value} {T : TypeId} (h : w.heap[b]? = some (.cells #[u, v] T (0, 0))) : w.cell? ⟨b, 0, none⟩ = some u ∧ w.cell? ⟨b, 1, none⟩ = some v ∧ w.frozen? ⟨b, 0, none⟩ = false ∧ w.frozen? ⟨b, 1, none⟩ = false := by
  refine ⟨?_, ?_, ?_, ?_⟩ <;> simp [World.cell?, World.frozen?, h]
set_option maxRecDepth 100000 in
set_option maxHeartbeats 4000000 in
theorem road1_any (cols : Bool) (l : LinT) (a : Int × Int) (pc pl : Nat) (w : World) (h : LinAt w pc pl cols l) :
    Calls Tryz.prog 146 #[.agg #[.int .i64 a.1, .int .i64 a.2], .pointer (some ⟨pc, 0, none⟩), .pointer (some ⟨pl, 0, none⟩)] w fun e w' => e = .returned (.tuple #[.agg #[.int .i64 (cellF cols l a).1.1, .int .i64 (cellF cols l a).1.2], .bool (cellF cols l a).2]) ∧ Xt w w' := by
  obtain ⟨B, hB⟩ : ∃ B, w.heap.size = B := ⟨_, rfl⟩
  obtain ⟨w0, hw0⟩ : ∃ w0, w.alloc (.cells #[.int .i64 a.1, .int .i64 a.2] 24) = w0 := ⟨_, rfl⟩
  have hs0 : w0.heap.size = B + 1 := by rw [← hw0, ← hB]; simp
  obtain ⟨w1, hw1⟩ : ∃ w1, w0.alloc (.cells #[.int .i64 0, .int .i64 0] 24) = w1 := ⟨_, rfl⟩
  have hx1 : Xt w w1 := by rw [← hw1, ← hw0]; exact ((Xt.refl w).alloc _).alloc _
  have HB : Hid (w1.heap[B]? = some (.cells #[.int .i64 a.1, .int .i64 a.2] 24 (0, 0))) := by
    unfold Hid; rw [← hw1]; exact (Below.heap_alloc w0 _ _ (by omega)).trans (by rw [← hw0, ← hB]; exact (MapKept.heap_alloc w _).1)
  have HR : Hid (w1.heap[B + 1]? = some (.cells #[.int .i64 0, .int .i64 0] 24 (0, 0))) := by
    unfold Hid; rw [← hw1, ← hs0]; exact (MapKept.heap_alloc w0 _).1
  obtain ⟨c, c0, c1, c2⟩ := h.xt hx1
  obtain ⟨b0, b1, f0, f1⟩ := cells2 HB.out
  have HX1 := Lib.hid hx1
  have hBB := Lib.hid hB
  clear hx1 h
  unfold cellF
  cases cols
  ·
    have HC := Lib.hid (line_any l a.2)
    generalize lineF l a.2 = r at HC ⊢
    obtain ⟨m, ok⟩ := r
    go_enter Tryz.func146, Tryz.ntmps146
    go_wp2_with fail
    refine (HC.out _).mono ?_
    rintro e w2 ⟨rfl, hg2⟩
    have hb2 := rowX hg2.xt HB.out
    have hr2 := rowX hg2.xt HR.out
    obtain ⟨b0, b1, f0, f1⟩ := cells2 hb2
    obtain ⟨r0, r1, g0, g1⟩ := cells2 hr2
    have HX2 := Lib.hid (HX1.out.trans hg2.xt)
    obtain ⟨w3, hw3⟩ : ∃ w3, w2.setCell ⟨B, 1, none⟩ (.int .i64 m) = w3 := ⟨_, rfl⟩
    have hb3 : w3.heap[B]? = some (.cells #[.int .i64 a.1, .int .i64 m] 24 (0, 0)) := by rw [← hw3]; exact setCell_row hb2 1 _
    have hr3 : w3.heap[B + 1]? = some (.cells #[.int .i64 0, .int .i64 0] 24 (0, 0)) := by rw [← hw3]; exact (Below.heap_setCell _ _ _ _ (by simp)).trans hr2
    have hx3 : Xt w w3 := by rw [← hw3]; exact HX2.out.grownB (setCell_grown _ _ _ _) (fun q hq => by cases hq; rw [hBB.out]; exact Nat.le_refl _)
    obtain ⟨d0, d1, _, _⟩ := cells2 hb3
    obtain ⟨e0, e1, g2, g3⟩ := cells2 hr3
    have hrow : ((w3.setCell ⟨B + 1, 0, none⟩ (.int .i64 a.1)).setCell ⟨B + 1, 1, none⟩ (.int .i64 m)).heap[B + 1]? = some (.cells #[.int .i64 a.1, .int .i64 m] 24 (0, 0)) := setCell_row (setCell_row hr3 0 _) 1 _
    have hxe : Xt w ((w3.setCell ⟨B + 1, 0, none⟩ (.int .i64 a.1)).setCell ⟨B + 1, 1, none⟩ (.int .i64 m)) := (hx3.grownB (setCell_grown _ _ _ _) (fun q hq => by cases hq; rw [hBB.out]; omega)).grownB (setCell_grown _ _ _ _) (fun q hq => by cases hq; rw [hBB.out]; omega)
    clear hw0 hw1 c c0 c1 c2 hb2 hr2 hg2
    go_wp2_with fail
    (try simp only [Exit.inBlock, Exit.then])
    refine bodyPost_ret (v := .tuple #[.agg #[.int .i64 a.1, .int .i64 m], .bool ok]) ?_ rfl ⟨rfl, hxe⟩
    rw [results_cell_tmp rfl]
    show ((asAddr (.pointer (some ⟨B + 1, 0, none⟩))).run _ _).andThen _ = _
    simp only [asAddr, Sem.run_pure, Result.andThen_ok, run_loadVar_row _ _ _ 24 _ _ _ hrow Tryz.underlying24 rfl (by kernel_rfl)]
    rfl
  ·
    have HC := Lib.hid (line_any l a.1)
    generalize lineF l a.1 = r at HC ⊢
    obtain ⟨m, ok⟩ := r
    go_enter Tryz.func146, Tryz.ntmps146
    go_wp2_with fail
    refine (HC.out _).mono ?_
    rintro e w2 ⟨rfl, hg2⟩
    have hb2 := rowX hg2.xt HB.out
    have hr2 := rowX hg2.xt HR.out
    obtain ⟨b0, b1, f0, f1⟩ := cells2 hb2
    obtain ⟨r0, r1, g0, g1⟩ := cells2 hr2
    have HX2 := Lib.hid (HX1.out.trans hg2.xt)
    obtain ⟨w3, hw3⟩ : ∃ w3, w2.setCell ⟨B, 0, none⟩ (.int .i64 m) = w3 := ⟨_, rfl⟩
    have hb3 : w3.heap[B]? = some (.cells #[.int .i64 m, .int .i64 a.2] 24 (0, 0)) := by rw [← hw3]; exact setCell_row hb2 0 _
    have hr3 : w3.heap[B + 1]? = some (.cells #[.int .i64 0, .int .i64 0] 24 (0, 0)) := by rw [← hw3]; exact (Below.heap_setCell _ _ _ _ (by simp)).trans hr2
    have hx3 : Xt w w3 := by rw [← hw3]; exact HX2.out.grownB (setCell_grown _ _ _ _) (fun q hq => by cases hq; rw [hBB.out]; exact Nat.le_refl _)
    obtain ⟨d0, d1, _, _⟩ := cells2 hb3
    obtain ⟨e0, e1, g2, g3⟩ := cells2 hr3
    have hrow : ((w3.setCell ⟨B + 1, 0, none⟩ (.int .i64 m)).setCell ⟨B + 1, 1, none⟩ (.int .i64 a.2)).heap[B + 1]? = some (.cells #[.int .i64 m, .int .i64 a.2] 24 (0, 0)) := setCell_row (setCell_row hr3 0 _) 1 _
    have hxe : Xt w ((w3.setCell ⟨B + 1, 0, none⟩ (.int .i64 m)).setCell ⟨B + 1, 1, none⟩ (.int .i64 a.2)) := (hx3.grownB (setCell_grown _ _ _ _) (fun q hq => by cases hq; rw [hBB.out]; omega)).grownB (setCell_grown _ _ _ _) (fun q hq => by cases hq; rw [hBB.out]; omega)
    clear hw0 hw1 c c0 c1 c2 hb2 hr2 hg2
    go_wp2_with fail
    (try simp only [Exit.inBlock, Exit.then])
    refine bodyPost_ret (v := .tuple #[.agg #[.int .i64 m, .int .i64 a.2], .bool ok]) ?_ rfl ⟨rfl, hxe⟩
    rw [results_cell_tmp rfl]
    show ((asAddr (.pointer (some ⟨B + 1, 0, none⟩))).run _ _).andThen _ = _
    simp only [asAddr, Sem.run_pure, Result.andThen_ok, run_loadVar_row _ _ _ 24 _ _ _ hrow Tryz.underlying24 rfl (by kernel_rfl)]
    rfl
end Go.Proofs.YtdoeejhdenifpaaGreatDoor
/- move: the areas' road of lines put in or taken out (made by mkm3.py). -/
namespace Go.Proofs.YtdoeejhdenifpaaGreatDoor
open Go.RowKit Go.Sort

/-- An area's four numbers. -/
structure ArT where
  a : Int
  b : Int
  c : Int
  d : Int
abbrev arT (x : ArT) : Value := .agg #[.int .i64 x.a, .int .i64 x.b, .int .i64 x.c, .int .i64 x.d]
def areaF (cols : Bool) (l : LinT) (x : ArT) : ArT × Bool := if cols = true then (⟨(spanF l x.a x.c).1, x.b, (spanF l x.a x.c).2.1, x.d⟩, (spanF l x.a x.c).2.2) else (⟨x.a, (spanF l x.b x.d).1, x.c, (spanF l x.b x.d).2.1⟩, (spanF l x.b x.d).2.2)
def ArT.ok (x : ArT) : Prop := -4611686018427387904 ≤ x.a ∧ -4611686018427387904 ≤ x.b ∧ x.c ≤ 4611686018427387904 ∧ x.d ≤ 4611686018427387904
theorem cells4 {w : World} {b : Nat} {u v x y : Value} {T : TypeId} (h : w.heap[b]? = some (.cells #[u, v, x, y] T (0, 0))) : (w.cell? ⟨b, 0, none⟩ = some u ∧ w.cell? ⟨b, 1, none⟩ = some v ∧ w.cell? ⟨b, 2, none⟩ = some x ∧ w.cell? ⟨b, 3, none⟩ = some y) ∧ w.frozen? ⟨b, 0, none⟩ = false ∧ w.frozen? ⟨b, 1, none⟩ = false ∧ w.frozen? ⟨b, 2, none⟩ = false ∧ w.frozen? ⟨b, 3, none⟩ = false := by
  refine ⟨⟨?_, ?_, ?_, ?_⟩, ?_, ?_, ?_, ?_⟩ <;> simp [World.cell?, World.frozen?, h]
set_option maxRecDepth 100000 in
set_option maxHeartbeats 4000000 in
theorem road2_any (cols : Bool) (l : LinT) (x : ArT) (hx : x.ok) (pc pl : Nat) (w : World) (h : LinAt w pc pl cols l) :
    Calls Tryz.prog 148 #[arT x, .pointer (some ⟨pc, 0, none⟩), .pointer (some ⟨pl, 0, none⟩)] w fun e w' => e = .returned (.tuple #[arT (areaF cols l x).1, .bool (areaF cols l x).2]) ∧ Xt w w' := by
  obtain ⟨B, hB⟩ : ∃ B, w.heap.size = B := ⟨_, rfl⟩
  obtain ⟨w0, hw0⟩ : ∃ w0, w.alloc (.cells #[.int .i64 x.a, .int .i64 x.b, .int .i64 x.c, .int .i64 x.d] 26) = w0 := ⟨_, rfl⟩
  have hs0 : w0.heap.size = B + 1 := by rw [← hw0, ← hB]; simp
  obtain ⟨w1, hw1⟩ : ∃ w1, w0.alloc (.cells #[.int .i64 0, .int .i64 0, .int .i64 0, .int .i64 0] 26) = w1 := ⟨_, rfl⟩
  have hx1 : Xt w w1 := by rw [← hw1, ← hw0]; exact ((Xt.refl w).alloc _).alloc _
  have HB : Hid (w1.heap[B]? = some (.cells #[.int .i64 x.a, .int .i64 x.b, .int .i64 x.c, .int .i64 x.d] 26 (0, 0))) := by
    unfold Hid; rw [← hw1]; exact (Below.heap_alloc w0 _ _ (by omega)).trans (by rw [← hw0, ← hB]; exact (MapKept.heap_alloc w _).1)
  have HR : Hid (w1.heap[B + 1]? = some (.cells #[.int .i64 0, .int .i64 0, .int .i64 0, .int .i64 0] 26 (0, 0))) := by
    unfold Hid; rw [← hw1, ← hs0]; exact (MapKept.heap_alloc w0 _).1
  obtain ⟨c, c0, c1, c2⟩ := h.xt hx1
  obtain ⟨⟨b0, b1, b2, b3⟩, f0, f1, f2, f3⟩ := cells4 HB.out
  obtain ⟨q1, q2, q3, q4⟩ := hx
  have HX1 := Lib.hid hx1
  have hBB := Lib.hid hB
  clear hx1 h
  unfold areaF
  cases cols
  · have HC := Lib.hid (fun w => span_any l x.b x.d w (by omega) (by omega))
    generalize spanF l x.b x.d = r at HC ⊢
    obtain ⟨m1, m2, ok⟩ := r
    go_enter Tryz.func148, Tryz.ntmps148
    go_wp2_with fail
    refine (HC.out _).mono ?_
    rintro e w2 ⟨rfl, hg2⟩
    have hb2 := rowX hg2.xt HB.out
    have hr2 := rowX hg2.xt HR.out
    obtain ⟨⟨b0, b1, b2, b3⟩, f0, f1, f2, f3⟩ := cells4 hb2
    obtain ⟨⟨r0, r1, r2, r3⟩, g0, g1, g2, g3⟩ := cells4 hr2
    have HX2 := Lib.hid (HX1.out.trans hg2.xt)
    obtain ⟨w3, hw3⟩ : ∃ w3, (w2.setCell ⟨B, 1, none⟩ (.int .i64 m1)).setCell ⟨B, 3, none⟩ (.int .i64 m2) = w3 := ⟨_, rfl⟩
    have hb3 : w3.heap[B]? = some (.cells #[.int .i64 x.a, .int .i64 m1, .int .i64 x.c, .int .i64 m2] 26 (0, 0)) := by rw [← hw3]; exact setCell_row (setCell_row hb2 1 _) 3 _
    have hr3 : w3.heap[B + 1]? = some (.cells #[.int .i64 0, .int .i64 0, .int .i64 0, .int .i64 0] 26 (0, 0)) := by rw [← hw3]; exact (Below.heap_setCell _ _ _ _ (by simp)).trans ((Below.heap_setCell _ _ _ _ (by simp)).trans hr2)
    have hx3 : Xt w w3 := by rw [← hw3]; exact (HX2.out.grownB (setCell_grown _ _ _ _) (fun q hq => by cases hq; rw [hBB.out]; exact Nat.le_refl _)).grownB (setCell_grown _ _ _ _) (fun q hq => by cases hq; rw [hBB.out]; exact Nat.le_refl _)
    obtain ⟨⟨d0, d1, d2, d3⟩, _⟩ := cells4 hb3
    obtain ⟨⟨e0, e1, e2, e3⟩, h0, h1, h2, h3⟩ := cells4 hr3
    have hrow : ((((w3.setCell ⟨B + 1, 0, none⟩ (.int .i64 x.a)).setCell ⟨B + 1, 1, none⟩ (.int .i64 m1)).setCell ⟨B + 1, 2, none⟩ (.int .i64 x.c)).setCell ⟨B + 1, 3, none⟩ (.int .i64 m2)).heap[B + 1]? = some (.cells #[.int .i64 x.a, .int .i64 m1, .int .i64 x.c, .int .i64 m2] 26 (0, 0)) := (setCell_row (setCell_row (setCell_row (setCell_row hr3 0 _) 1 _) 2 _) 3 _)
    have hxe : Xt w ((((w3.setCell ⟨B + 1, 0, none⟩ (.int .i64 x.a)).setCell ⟨B + 1, 1, none⟩ (.int .i64 m1)).setCell ⟨B + 1, 2, none⟩ (.int .i64 x.c)).setCell ⟨B + 1, 3, none⟩ (.int .i64 m2)) := ((((hx3.grownB (setCell_grown _ _ _ _) (fun q hq => by cases hq; rw [hBB.out]; omega)).grownB (setCell_grown _ _ _ _) (fun q hq => by cases hq; rw [hBB.out]; omega)).grownB (setCell_grown _ _ _ _) (fun q hq => by cases hq; rw [hBB.out]; omega)).grownB (setCell_grown _ _ _ _) (fun q hq => by cases hq; rw [hBB.out]; omega))
    clear hw0 hw1 c c0 c1 c2 hb2 hr2 hg2
    go_wp2_with fail
    (try simp only [Exit.inBlock, Exit.then])
    refine bodyPost_ret (v := .tuple #[.agg #[.int .i64 x.a, .int .i64 m1, .int .i64 x.c, .int .i64 m2], .bool ok]) ?_ rfl ⟨rfl, hxe⟩
    rw [results_cell_tmp rfl]
    show ((asAddr (.pointer (some ⟨B + 1, 0, none⟩))).run _ _).andThen _ = _
    simp only [asAddr, Sem.run_pure, Result.andThen_ok, run_loadVar_row _ _ _ 26 _ _ _ hrow Tryz.underlying26 rfl (by kernel_rfl)]
    rfl
  · have HC := Lib.hid (fun w => span_any l x.a x.c w (by omega) (by omega))
    generalize spanF l x.a x.c = r at HC ⊢
    obtain ⟨m1, m2, ok⟩ := r
    go_enter Tryz.func148, Tryz.ntmps148
    go_wp2_with fail
    refine (HC.out _).mono ?_
    rintro e w2 ⟨rfl, hg2⟩
    have hb2 := rowX hg2.xt HB.out
    have hr2 := rowX hg2.xt HR.out
    obtain ⟨⟨b0, b1, b2, b3⟩, f0, f1, f2, f3⟩ := cells4 hb2
    obtain ⟨⟨r0, r1, r2, r3⟩, g0, g1, g2, g3⟩ := cells4 hr2
    have HX2 := Lib.hid (HX1.out.trans hg2.xt)
    obtain ⟨w3, hw3⟩ : ∃ w3, (w2.setCell ⟨B, 0, none⟩ (.int .i64 m1)).setCell ⟨B, 2, none⟩ (.int .i64 m2) = w3 := ⟨_, rfl⟩
    have hb3 : w3.heap[B]? = some (.cells #[.int .i64 m1, .int .i64 x.b, .int .i64 m2, .int .i64 x.d] 26 (0, 0)) := by rw [← hw3]; exact setCell_row (setCell_row hb2 0 _) 2 _
    have hr3 : w3.heap[B + 1]? = some (.cells #[.int .i64 0, .int .i64 0, .int .i64 0, .int .i64 0] 26 (0, 0)) := by rw [← hw3]; exact (Below.heap_setCell _ _ _ _ (by simp)).trans ((Below.heap_setCell _ _ _ _ (by simp)).trans hr2)
    have hx3 : Xt w w3 := by rw [← hw3]; exact (HX2.out.grownB (setCell_grown _ _ _ _) (fun q hq => by cases hq; rw [hBB.out]; exact Nat.le_refl _)).grownB (setCell_grown _ _ _ _) (fun q hq => by cases hq; rw [hBB.out]; exact Nat.le_refl _)
    obtain ⟨⟨d0, d1, d2, d3⟩, _⟩ := cells4 hb3
    obtain ⟨⟨e0, e1, e2, e3⟩, h0, h1, h2, h3⟩ := cells4 hr3
    have hrow : ((((w3.setCell ⟨B + 1, 0, none⟩ (.int .i64 m1)).setCell ⟨B + 1, 1, none⟩ (.int .i64 x.b)).setCell ⟨B + 1, 2, none⟩ (.int .i64 m2)).setCell ⟨B + 1, 3, none⟩ (.int .i64 x.d)).heap[B + 1]? = some (.cells #[.int .i64 m1, .int .i64 x.b, .int .i64 m2, .int .i64 x.d] 26 (0, 0)) := (setCell_row (setCell_row (setCell_row (setCell_row hr3 0 _) 1 _) 2 _) 3 _)
    have hxe : Xt w ((((w3.setCell ⟨B + 1, 0, none⟩ (.int .i64 m1)).setCell ⟨B + 1, 1, none⟩ (.int .i64 x.b)).setCell ⟨B + 1, 2, none⟩ (.int .i64 m2)).setCell ⟨B + 1, 3, none⟩ (.int .i64 x.d)) := ((((hx3.grownB (setCell_grown _ _ _ _) (fun q hq => by cases hq; rw [hBB.out]; omega)).grownB (setCell_grown _ _ _ _) (fun q hq => by cases hq; rw [hBB.out]; omega)).grownB (setCell_grown _ _ _ _) (fun q hq => by cases hq; rw [hBB.out]; omega)).grownB (setCell_grown _ _ _ _) (fun q hq => by cases hq; rw [hBB.out]; omega))
    clear hw0 hw1 c c0 c1 c2 hb2 hr2 hg2
    go_wp2_with fail
    (try simp only [Exit.inBlock, Exit.then])
    refine bodyPost_ret (v := .tuple #[.agg #[.int .i64 m1, .int .i64 x.b, .int .i64 m2, .int .i64 x.d], .bool ok]) ?_ rfl ⟨rfl, hxe⟩
    rw [results_cell_tmp rfl]
    show ((asAddr (.pointer (some ⟨B + 1, 0, none⟩))).run _ _).andThen _ = _
    simp only [asAddr, Sem.run_pure, Result.andThen_ok, run_loadVar_row _ _ _ 26 _ _ _ hrow Tryz.underlying26 rfl (by kernel_rfl)]
    rfl
end Go.Proofs.YtdoeejhdenifpaaGreatDoor
/- move: the roads of lines, as two func values. -/
namespace Go.Proofs.YtdoeejhdenifpaaGreatDoor
open Go.RowKit Go.Sort

abbrev roadV (pc pl : Nat) : Value := .agg #[.func (.func 146) #[] #[.pointer (some ⟨pc, 0, none⟩), .pointer (some ⟨pl, 0, none⟩)], .func (.func 148) #[] #[.pointer (some ⟨pc, 0, none⟩), .pointer (some ⟨pl, 0, none⟩)]]
set_option maxRecDepth 100000 in
set_option maxHeartbeats 4000000 in
theorem road_any (cols : Bool) (l : LinT) (w : World) :
    Calls Tryz.prog 115 #[linV l, .bool cols] w fun e w' => ∃ pc pl, e = .returned (roadV pc pl) ∧ LinAt w' pc pl cols l ∧ Xt w w' := by
  go_enter Tryz.func115, Tryz.ntmps115
  go_wp2_with fail
  obtain ⟨w0, hw0⟩ : ∃ w0, w.alloc (.cells #[.int .i64 l.at_, .int .i64 l.n, .int .i64 l.many] 147) = w0 := ⟨_, rfl⟩
  rw [hw0]
  have hs0 : w0.heap.size = w.heap.size + 1 := by rw [← hw0]; simp
  obtain ⟨w1, hw1⟩ : ∃ w1, w0.alloc (.cells #[.bool cols] 4) = w1 := ⟨_, rfl⟩
  rw [hw1]
  have hs1 : w1.heap.size = w.heap.size + 1 + 1 := by rw [← hw1]; simp [hs0]
  have hr0 : w1.heap[w.heap.size]? = some (.cells #[.int .i64 l.at_, .int .i64 l.n, .int .i64 l.many] 147 (0, 0)) := by
    rw [← hw1]; exact (Below.heap_alloc w0 _ _ (by omega)).trans (by rw [← hw0]; exact (MapKept.heap_alloc w _).1)
  have hr1 : w1.heap[w.heap.size + 1]? = some (.cells #[.bool cols] 4 (0, 0)) := by rw [← hw1, ← hs0]; exact (MapKept.heap_alloc w0 _).1
  have hx1 : Xt w w1 := by rw [← hw1, ← hw0]; exact ((Xt.refl w).alloc _).alloc _
  have hL : LinAt w1 (w.heap.size + 1) w.heap.size cols l := ⟨by simp [World.cell?, hr1], by simp [World.cell?, hr0], by simp [World.cell?, hr0], by simp [World.cell?, hr0]⟩
  refine bodyPost_ret (results_cell_row rfl _ _ (w.heap.size + 1 + 1) _ _ _ _ rfl (by rw [← hs1]; exact (MapKept.heap_alloc w1 _).1) Tryz.underlying97 rfl (by kernel_rfl)) rfl ?_
  exact ⟨_, _, rfl, hL.xt ((Xt.refl w1).alloc _), hx1.alloc _⟩
end Go.Proofs.YtdoeejhdenifpaaGreatDoor
