import Derived.Test.YtakcadkffmfneaaDoorB10
import Derived.Test.YtakcadkffmfneaaDoorW20
import Derived.ProofKit
import Derived.Lib.SmallJoins
import Derived.Deep.Slices
import Derived.Test.YtakcadkffmfneaaDoorRows
import Derived.Test.YtakcadkffmfneaaDoorCards
import Derived.Test.YtakcadkffmfneaaDoorTie
import Derived.Test.YtakcadkffmfneaaDoorA3
import Derived.OpenShut
import Derived.Lib.LaidIn
import Derived.Lib.LaidU8T
import Derived.Deep.DeepHandedRow
import Derived.Deep.DeepWitnessRowRef
import Derived.SizedLaws
import Derived.SevenTiedAt
namespace Go.Proofs.YtakcadkffmfneaaDoor
open Go.ChangeShapes Go.WideShapes Go.ChangeAt Go.RowKit Go.Joins Go.Deep

theorem Tryd.own' : ownKnob Tryd.prog.godebug = none := by kernel_rfl
theorem Tryd.laidOut' : laidOutB Tryd.prog = true := by kernel_rfl
theorem Tryd.cellsInt : Tryd.prog.cellsOf 3 = 1 := by kernel_rfl
theorem Tryd.cellsBool : Tryd.prog.cellsOf 4 = 1 := by kernel_rfl
theorem Tryd.cellsF64 : Tryd.prog.cellsOf 30 = 1 := by kernel_rfl
theorem Tryd.cellsStr : Tryd.prog.cellsOf 9 = 1 := by kernel_rfl
theorem Tryd.cellsAddr : Tryd.prog.cellsOf 28 = 2 := by kernel_rfl
theorem Tryd.cellsRef : Tryd.prog.cellsOf 34 = 4 := by kernel_rfl
theorem Tryd.cellsValue : Tryd.prog.cellsOf 32 = 5 := by kernel_rfl
theorem Tryd.cellsNode : Tryd.prog.cellsOf 37 = 15 := by kernel_rfl
theorem Tryd.cellsNodes : Tryd.prog.cellsOf 35 = 1 := by kernel_rfl
theorem Tryd.cellsContent : Tryd.prog.cellsOf 39 = 21 := by kernel_rfl
theorem ArgsIn.up {w : World} : ∀ {n : Nat} {av : Value} {l : List NodeT}, ArgsIn w n av l → ArgsIn w (n + 1) av l
  | 0, _, _, h => by obtain ⟨rfl, a, cap, rfl, hc⟩ := h; exact ⟨a, cap, rfl, Nat.zero_le _, hc, fun h => absurd rfl h⟩
  | n + 1, _, _, h => by
    obtain ⟨a, cap, rfl, h1, h2, h3⟩ := h
    refine ⟨a, cap, rfl, h1, h2, fun hne => ?_⟩
    obtain ⟨b, off, rfl, hc⟩ := h3 hne
    exact ⟨b, off, rfl, fun k t ht => let ⟨av', q1, q2⟩ := hc k t ht; ⟨av', q1, q2.up⟩⟩
/-! ### what came in, opened -/
theorem size_reach {s : ByteArray} (h : s.data.toList.length ≤ reachBytes) : s.size < 4611686018427387904 := by
  have e : s.size = s.data.toList.length := by rw [Array.length_toList]; rfl
  unfold reachBytes at h
  omega
section
variable {H : Type} {enc : TypeId × Value → H} {W : World} {base : Nat} {spare : Nat → Bool} {held : Bool}
theorem trod_fl {P : Program} {k : FloatKind} {ty : TypeId} {n : Nat} {cs : List Value} {x : DataW H × List MemPlace} (ht : P.underlying ty = some (.float k)) (h : DataW.trod enc P W base spare held n ty cs = some x) : ∃ v, cs = [.float k v] ∧ (Lit.float k v).wf = true := by
  cases n with
  | zero => simp [DataW.trod] at h
  | succ n =>
    unfold DataW.trod at h
    rw [ht] at h
    split at h <;> simp_all
theorem open_f64 {n : Nat} {cs : List Value} {x : DataW H × List MemPlace} (h : DataW.trod enc Tryd.prog W base spare held n 30 cs = some x) : ∃ v, cs = [.float .f64 v] ∧ v < 18446744073709551616 := by
  obtain ⟨v, h1, h2⟩ := trod_fl Tryd.underlying30 h
  exact ⟨v, h1, by simpa [Lit.wf] using h2⟩
set_option maxRecDepth 100000 in
theorem open_ad {n : Nat} {cs : List Value} {x : DataW H × List MemPlace} (h : DataW.trod enc Tryd.prog W base spare held n 28 cs = some x) : ∃ a : Ad, cs = adC a := by
  obtain ⟨y0, y1, m, hx, hl, h0, h1⟩ := trod_struct2 Tryd.underlying28 h
  rw [Tryd.cellsAddr] at hl
  match cs, hl with
  | [c0, c1], _ =>
    have g0 : DataW.trod enc Tryd.prog W base spare held m 3 [c0] = some y0 := by simpa [Tryd.cellsInt] using h0
    have g1 : DataW.trod enc Tryd.prog W base spare held m 3 [c1] = some y1 := by simpa [Tryd.cellsInt] using h1
    obtain ⟨a, e0, _, _⟩ := DataW.trod_int Tryd.underlying3 g0
    obtain ⟨b, e1, _, _⟩ := DataW.trod_int Tryd.underlying3 g1
    simp at e0 e1
    subst e0 e1
    exact ⟨(a, b), rfl⟩
set_option maxRecDepth 100000 in
theorem open_ref {n : Nat} {cs : List Value} {x : DataW H × List MemPlace} (h : DataW.trod enc Tryd.prog W base spare held n 34 cs = some x) : ∃ r : RefT, cs = [.int .i64 r.a.1, .int .i64 r.a.2, .bool r.cf, .bool r.rf] := by
  obtain ⟨xs, m, _, rfl, hl, hlen, hf⟩ := DataW.trod_struct Tryd.underlying34 h
  rw [Tryd.cellsRef] at hl
  match xs, hlen with
  | [y0, y1, y2], _ =>
    match cs, hl with
    | [c0, c1, c2, c3], _ =>
      have g0 : DataW.trod enc Tryd.prog W base spare held m 28 [c0, c1] = some y0 := by simpa [Tryd.cellsAddr] using hf 0 _ rfl
      have g1 : DataW.trod enc Tryd.prog W base spare held m 4 [c2] = some y1 := by simpa [Tryd.cellsBool] using hf 1 _ rfl
      have g2 : DataW.trod enc Tryd.prog W base spare held m 4 [c3] = some y2 := by simpa [Tryd.cellsBool] using hf 2 _ rfl
      obtain ⟨a, ea⟩ := open_ad g0
      obtain ⟨b1, e1, _⟩ := DataW.trod_bool Tryd.underlying4 g1
      obtain ⟨b2, e2, _⟩ := DataW.trod_bool Tryd.underlying4 g2
      simp only [adC, List.cons.injEq, and_true] at ea e1 e2
      obtain ⟨rfl, rfl⟩ := ea
      subst e1 e2
      exact ⟨⟨a, b1, b2⟩, rfl⟩
theorem list_of {α : Type} {p : Nat → α → Prop} : ∀ (n : Nat), (∀ i, i < n → ∃ x, p i x) → ∃ l : List α, l.length = n ∧ ∀ i x, l[i]? = some x → p i x
  | 0, _ => ⟨[], rfl, fun i x h => by simp at h⟩
  | n + 1, h => by
    obtain ⟨l, h1, h2⟩ := list_of n (fun i hi => h i (by omega))
    obtain ⟨x, hx⟩ := h n (by omega)
    refine ⟨l ++ [x], by simp [h1], fun i y hy => ?_⟩
    rcases Nat.lt_or_ge i n with hi | hi
    · rw [List.getElem?_append_left (by omega)] at hy; exact h2 i y hy
    · have : i = n := by
        have := (List.getElem?_eq_some_iff.1 hy).1
        simp [h1] at this; omega
      subst this
      rw [List.getElem?_append_right (by omega), h1, Nat.sub_self] at hy
      simp at hy; subst hy; exact hx
theorem weights_all_mem {P : Program} {e : TypeId} : ∀ {l : List (DataW H)} {d : DataW H} {q : Nat}, d ∈ l → q ∈ d.weights P e → q ∈ DataW.weightsAll P e l
  | x :: r, d, q, hd, hq => by
    simp only [DataW.weightsAll, List.mem_append]
    rcases List.mem_cons.1 hd with rfl | hd
    · exact Or.inl hq
    · exact Or.inr (weights_all_mem hd hq)
theorem okL_of : ∀ {l : List NodeT}, (∀ (i : Nat) (t : NodeT), l[i]? = some t → t.ok) → okL l
  | [], _ => by simp [okL]
  | t :: r, h => by simp only [okL]; exact ⟨h 0 t rfl, okL_of (fun i u hu => h (i + 1) u (by simpa using hu))⟩
set_option maxRecDepth 100000 in
set_option maxHeartbeats 1000000 in
theorem open_node : ∀ (n : Nat) {cs : List Value} {x : DataW H × List MemPlace}, DataW.trod enc Tryd.prog W base spare held n 37 cs = some x → (∀ q ∈ x.1.weights Tryd.prog 37, q ≤ reachBytes) → ∃ (t : NodeT) (av : Value), cs = nodeC t av ∧ ArgsIn W n av t.args ∧ t.ok := by
  intro n
  induction n using Nat.strongRecOn with
  | ind n ih =>
    intro cs x h hz
    obtain ⟨xs, m, hm, rfl, hl, hlen, hf⟩ := DataW.trod_struct Tryd.underlying37 h
    rw [Tryd.cellsNode] at hl
    match xs, hlen with
    | [y0, y1, y2, y3, y4, y5, y6, y7, y8], _ =>
      match cs, hl with
      | [c0, c1, c2, c3, c4, c5, c6, c7, c8, c9, c10, c11, c12, c13, c14], _ =>
        have g0 : DataW.trod enc Tryd.prog W base spare held m 3 [c0] = some y0 := by simpa [Tryd.cellsInt] using hf 0 _ rfl
        have g1 : DataW.trod enc Tryd.prog W base spare held m 3 [c1] = some y1 := by simpa [Tryd.cellsInt] using hf 1 _ rfl
        have g2 : DataW.trod enc Tryd.prog W base spare held m 30 [c2] = some y2 := by simpa [Tryd.cellsF64] using hf 2 _ rfl
        have g3 : DataW.trod enc Tryd.prog W base spare held m 9 [c3] = some y3 := by simpa [Tryd.cellsStr] using hf 3 _ rfl
        have g4 : DataW.trod enc Tryd.prog W base spare held m 4 [c4] = some y4 := by simpa [Tryd.cellsBool] using hf 4 _ rfl
        have g5 : DataW.trod enc Tryd.prog W base spare held m 3 [c5] = some y5 := by simpa [Tryd.cellsInt] using hf 5 _ rfl
        have g6 : DataW.trod enc Tryd.prog W base spare held m 34 [c6, c7, c8, c9] = some y6 := by simpa [Tryd.cellsRef] using hf 6 _ rfl
        have g7 : DataW.trod enc Tryd.prog W base spare held m 34 [c10, c11, c12, c13] = some y7 := by simpa [Tryd.cellsRef] using hf 7 _ rfl
        have g8 : DataW.trod enc Tryd.prog W base spare held m 35 [c14] = some y8 := by simpa [Tryd.cellsNodes] using hf 8 _ rfl
        obtain ⟨k, e0, _, _⟩ := DataW.trod_int Tryd.underlying3 g0
        obtain ⟨op, e1, _, _⟩ := DataW.trod_int Tryd.underlying3 g1
        obtain ⟨fx, e2, hfx⟩ := open_f64 g2
        have hz3 : ∀ q ∈ y3.1.weights Tryd.prog 9, q ≤ reachBytes := fun q hq => hz q (by simp [DataW.weights, Tryd.underlying37, DataW.weightsEach, hq])
        have hz8 : ∀ q ∈ y8.1.weights Tryd.prog 35, q ≤ reachBytes := fun q hq => hz q (by simp [DataW.weights, Tryd.underlying37, DataW.weightsEach, hq])
        obtain ⟨s, e3, es3, ws⟩ := DataW.trod_string Tryd.underlying9 g3
        rw [es3] at hz3
        obtain ⟨b, e4, _⟩ := DataW.trod_bool Tryd.underlying4 g4
        obtain ⟨f, e5, _, _⟩ := DataW.trod_int Tryd.underlying3 g5
        obtain ⟨r1, e6⟩ := open_ref g6
        obtain ⟨r2, e7⟩ := open_ref g7
        simp only [List.cons.injEq, and_true] at e0 e1 e2 e3 e4 e5 e6 e7
        obtain ⟨rfl, rfl, rfl, rfl⟩ := e6
        obtain ⟨rfl, rfl, rfl, rfl⟩ := e7
        subst e0 e1 e2 e3 e4 e5
        have hs : s.size < 4611686018427387904 := size_reach (hz3 s.data.toList.length (by simp [DataW.weights]))
        have harg : ∃ l : List NodeT, ArgsIn W n c14 l ∧ okL l := by
          rcases DataW.trod_slice Tryd.underlying35 g8 with ⟨h0, _⟩ | ⟨a, len, cap, elems, rest, q, hq, hcs, hx, hb, hlc, hcap, hle, hel, _, _⟩
          · cases h0
            rw [hm]
            exact ⟨[], ⟨none, 0, rfl, by simp, by omega, fun h => absurd rfl h⟩, by simp [okL]⟩
          · cases hcs
            rw [Tryd.cellsNode] at hel
            rw [hx] at hz8
            have each : ∀ i, i < len → ∃ u : NodeT, ∃ av : Value, (∀ (j : Nat) (c : Value), (nodeC u av)[j]? = some c → W.cell? (a.add (i * 15 + j)) = some c) ∧ ArgsIn W q av u.args ∧ u.ok := by
              intro i hil
              have hi := hel i hil
              rw [List.getElem?_eq_getElem (by omega)] at hi
              obtain ⟨cs', h1, h2⟩ := Option.bind_eq_some_iff.1 hi
              obtain ⟨u, av, rfl, hin, hok⟩ := ih q (by omega) h2 (fun z hq => hz8 z (by
                simp only [DataW.weights, Tryd.underlying35, List.mem_cons, List.mem_append]
                exact Or.inr (Or.inl (weights_all_mem (List.mem_map.2 ⟨_, List.getElem_mem (by omega), rfl⟩) hq))))
              obtain ⟨_, hlen, hcell⟩ := World.cells?_some h1
              refine ⟨u, av, fun j c hj => ?_, hin, hok⟩
              have hjs : j < 15 := (List.getElem?_eq_some_iff.1 hj).1
              rw [← add_add, hcell j hjs, hj]
            obtain ⟨l, hl1, hl2⟩ := list_of len each
            refine ⟨l, ?_, okL_of fun i t ht => let ⟨_, _, _, h⟩ := hl2 i t ht; h⟩
            rw [hm, hq]
            refine ⟨some a, cap, by rw [hl1], by omega, by unfold maxLen at hcap; omega, fun hne => ?_⟩
            obtain ⟨bb, o, spot⟩ := a
            obtain ⟨y, hy⟩ : ∃ y, l[0]? = some y := by
              cases l with
              | nil => exact absurd rfl hne
              | cons y _ => exact ⟨y, rfl⟩
            obtain ⟨av0, hc0, _, _⟩ := hl2 0 y hy
            have hspot : spot = none := by simpa [Addr.add] using World.cell?_spot (hc0 0 _ rfl)
            subst hspot
            refine ⟨bb, o, rfl, fun k t ht => ?_⟩
            obtain ⟨av, hcell, hin, _⟩ := hl2 k t ht
            refine ⟨av, fun i u hu => ?_, hin.up⟩
            have := hcell i u hu
            rw [Addr.add_lit] at this
            rwa [← Nat.add_assoc] at this
        obtain ⟨l, hin, hok⟩ := harg
        exact ⟨.mk k op fx s b f r1 r2 l, c14, rfl, hin, by simp only [NodeT.ok]; exact ⟨hs, hfx, hok⟩⟩
set_option maxRecDepth 100000 in
theorem open_content {n : Nat} {cs : List Value} {x : DataW H × List MemPlace} (h : DataW.trod enc Tryd.prog W base spare held n 39 cs = some x) (hz : ∀ q ∈ x.1.weights Tryd.prog 39, q ≤ reachBytes) : ∃ (c : ContT) (a : Option Addr) (cap d : Nat), Value.agg cs.toArray = contV c a c.t.args.length cap ∧ ArgsIn W d (.slice a c.t.args.length cap) c.t.args ∧ c.ok := by
  obtain ⟨xs, m, hm, rfl, hl, hlen, hf⟩ := DataW.trod_struct Tryd.underlying39 h
  rw [Tryd.cellsContent] at hl
  match xs, hlen with
  | [y0, y1, y2], _ =>
    match cs, hl with
    | [c0, v0, v1, v2, v3, v4, n0, n1, n2, n3, n4, n5, n6, n7, n8, n9, n10, n11, n12, n13, n14], _ =>
      have g0 : DataW.trod enc Tryd.prog W base spare held m 3 [c0] = some y0 := by simpa [Tryd.cellsInt] using hf 0 _ rfl
      have g1 : DataW.trod enc Tryd.prog W base spare held m 32 [v0, v1, v2, v3, v4] = some y1 := by simpa [Tryd.cellsValue] using hf 1 _ rfl
      have g2 : DataW.trod enc Tryd.prog W base spare held m 37 [n0, n1, n2, n3, n4, n5, n6, n7, n8, n9, n10, n11, n12, n13, n14] = some y2 := by simpa [Tryd.cellsNode] using hf 2 _ rfl
      obtain ⟨k, e0, _, _⟩ := DataW.trod_int Tryd.underlying3 g0
      have hz1 : ∀ q ∈ y1.1.weights Tryd.prog 32, q ≤ reachBytes := fun q hq => hz q (by simp [DataW.weights, Tryd.underlying39, DataW.weightsEach, hq])
      have hz2 : ∀ q ∈ y2.1.weights Tryd.prog 37, q ≤ reachBytes := fun q hq => hz q (by simp [DataW.weights, Tryd.underlying39, DataW.weightsEach, hq])
      obtain ⟨zs, m2, _, rfl, hl2, hlen2, hf2⟩ := DataW.trod_struct Tryd.underlying32 g1
      obtain ⟨t, av, et, hin, hok⟩ := open_node m g2 hz2
      match zs, hlen2 with
      | [z0, z1, z2, z3, z4], _ =>
        have p0 : DataW.trod enc Tryd.prog W base spare held m2 3 [v0] = some z0 := by simpa [Tryd.cellsInt] using hf2 0 _ rfl
        have p1 : DataW.trod enc Tryd.prog W base spare held m2 30 [v1] = some z1 := by simpa [Tryd.cellsF64] using hf2 1 _ rfl
        have p2 : DataW.trod enc Tryd.prog W base spare held m2 9 [v2] = some z2 := by simpa [Tryd.cellsStr] using hf2 2 _ rfl
        have p3 : DataW.trod enc Tryd.prog W base spare held m2 4 [v3] = some z3 := by simpa [Tryd.cellsBool] using hf2 3 _ rfl
        have p4 : DataW.trod enc Tryd.prog W base spare held m2 3 [v4] = some z4 := by simpa [Tryd.cellsInt] using hf2 4 _ rfl
        obtain ⟨vk, f0, _, _⟩ := DataW.trod_int Tryd.underlying3 p0
        obtain ⟨vx, f1, hvx⟩ := open_f64 p1
        obtain ⟨vs, f2, es2, ws⟩ := DataW.trod_string Tryd.underlying9 p2
        have hws : vs.size < 4611686018427387904 := size_reach (hz1 vs.data.toList.length (by simp [DataW.weights, Tryd.underlying32, DataW.weightsEach, es2]))
        obtain ⟨vb, f3, _⟩ := DataW.trod_bool Tryd.underlying4 p3
        obtain ⟨vf, f4, _, _⟩ := DataW.trod_int Tryd.underlying3 p4
        obtain ⟨a, cap, rfl, _, _⟩ := hin.shape
        simp only [nodeC, List.cons.injEq, and_true] at e0 f0 f1 f2 f3 f4 et
        obtain ⟨rfl, rfl, rfl, rfl, rfl, rfl, rfl, rfl, rfl, rfl, rfl, rfl, rfl, rfl, rfl⟩ := et
        subst e0 f0 f1 f2 f3 f4
        exact ⟨⟨k, ⟨vk, vx, vs, vb, vf⟩, t⟩, a, cap, m, rfl, hin, hws, hok, hvx⟩
end
end Go.Proofs.YtakcadkffmfneaaDoor
/- The laid tables of unicode/utf8, and what comes in, opened. -/
namespace Go.Proofs.YtakcadkffmfneaaDoor
open Go.ChangeShapes Go.WideShapes Go.ChangeAt Go.RowKit Go.Joins Go.Deep Go.Shelf

/-- The witness: the two tables laid. -/
noncomputable def laidWorld (os : Os) : World :=
  let w0 := World.holding Tryd.prog os ⟨#[], #[], []⟩
  let put (h : Array Obj) (g : Nat) (cs : Array Value) : Array Obj := h.modify g fun
    | .cells _ t frozen => .cells cs t frozen
    | o => o
  let h1 := put w0.heap 1 (Lib.firstTab.map fun z => Value.int .u8 z).toArray
  let h2 := put h1 2 ((List.range 16).flatMap fun i => [Value.int .u8 (Lib.accLo i), Value.int .u8 (Lib.accHi i)]).toArray
  { w0 with heap := h2 }
theorem acc_is : (Rows.laid_unicode_utf8_acceptRanges : DataW Unit) = Lib.acceptData := by kernel_rfl
theorem fst_is : (Rows.laid_unicode_utf8_first : DataW Unit) = Lib.firstData := by kernel_rfl
abbrev laidL : List (String × DataW Unit) := [("unicode/utf8.acceptRanges", Rows.laid_unicode_utf8_acceptRanges), ("unicode/utf8.first", Rows.laid_unicode_utf8_first)]
theorem laid_met (os : Os) (args : Array Value) : laidMet Tryd.prog laidL ((laidWorld os).forCall (fun _ _ => 0) ⟨#[], args, []⟩).memory :=
  (LaidIn.of_run (l := [("unicode/utf8.acceptRanges", Rows.laid_unicode_utf8_acceptRanges), ("unicode/utf8.first", Rows.laid_unicode_utf8_first)]) [2, 1] 8 (by kernel_rfl) (by kernel_rfl) (by kernel_rfl) (by kernel_rfl)).met
theorem tabs_of {W : World} (hL : laidMetH Tryd.prog laidL W) : Tabs W := by
  have h1 := Lib.laidMet.reads hL (.head _)
  have h2 := Lib.laidMet.reads hL (.tail _ (.head _))
  rw [acc_is] at h1
  rw [fst_is] at h2
  exact utf8Tabs_of_readsT (U8Types.of196 Tryd.valid8) ⟨by kernel_rfl, by kernel_rfl, by kernel_rfl, by kernel_rfl, by kernel_rfl, by kernel_rfl, by kernel_rfl⟩ h2 h1
theorem laid_metH (os : Os) (args : Array Value) : laidMetH Tryd.prog laidL ((laidWorld os).forCall (fun _ _ => 0) ⟨#[], args, []⟩).memory :=
  laidMetH_of_parts (laid_met os args) (by kernel_rfl)
abbrev zeroV : Value := contV zeroC none 0 0
set_option maxRecDepth 100000 in
theorem open_con {H : Type} {enc : TypeId × Value → H} {W : World} {v : Value} {d : DataW H} {p : List MemPlace} {base : Nat} (hv : Value.okWide Tryd.prog W .any base 39 v) (h : DataW.Trod enc Tryd.prog W 0 (fun _ => true) true 39 v d p) (hz : ∀ q ∈ d.weights Tryd.prog 39, q ≤ reachBytes) :
    ∃ (c : ContT) (a : Option Addr) (cap n : Nat), v = contV c a c.t.args.length cap ∧ ArgsIn W n (.slice a c.t.args.length cap) c.t.args ∧ c.ok := by
  obtain ⟨cs, rfl, _⟩ := okWide_struct Tryd.underlying39 hv
  obtain ⟨f, hf⟩ := h
  obtain ⟨c, a, cap, n, e, q1, q2⟩ := open_content hf hz
  exact ⟨c, a, cap, n, by rw [← e]; simp [Value.cells], q1, q2⟩
end Go.Proofs.YtakcadkffmfneaaDoor
