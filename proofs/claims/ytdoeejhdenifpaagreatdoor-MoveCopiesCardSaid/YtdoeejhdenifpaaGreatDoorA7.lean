import Derived.Test.YtdoeejhdenifpaaGreatDoorA6
import Derived.Test.YtdoeejhdenifpaaGreatDoorW20
import Derived.ProofKit
import Derived.Lib.SmallJoins
import Derived.Deep.Slices
import Derived.Test.YtdoeejhdenifpaaGreatDoorRows
import Derived.Test.YtdoeejhdenifpaaGreatDoorCards
import Derived.Test.YtdoeejhdenifpaaGreatDoorTie
import Derived.Test.YtdoeejhdenifpaaGreatDoorA3
import Derived.OpenShut
import Derived.Lib.LaidIn
import Derived.Lib.LaidU8T
import Derived.Deep.DeepHandedRow
import Derived.Deep.DeepWitnessRowRef
import Derived.SizedLaws
import Derived.SevenTiedAt
import Derived.Test.YtdoeejhdenifpaaGreatDoorA1
import Derived.Test.YtdoeejhdenifpaaGreatDoorA5
import Derived.Deep.MidRow
import Derived.ArgAppend
import Derived.Laws.Rows
import Derived.Laws.ResultCell
import Derived.Laws.EntriesVeiled
namespace Go.Proofs.YtdoeejhdenifpaaGreatDoor
open Go.ChangeShapes Go.WideShapes Go.ChangeAt Go.RowKit Go.Joins Go.Deep
theorem Tryz.own' : ownKnob Tryz.prog.godebug = none := by kernel_rfl
theorem Tryz.laidOut' : laidOutB Tryz.prog = true := by kernel_rfl
theorem Tryz.cellsInt : Tryz.prog.cellsOf 3 = 1 := by kernel_rfl
theorem Tryz.cellsBool : Tryz.prog.cellsOf 4 = 1 := by kernel_rfl
theorem Tryz.cellsF64 : Tryz.prog.cellsOf 42 = 1 := by kernel_rfl
theorem Tryz.cellsStr : Tryz.prog.cellsOf 9 = 1 := by kernel_rfl
theorem Tryz.cellsAddr : Tryz.prog.cellsOf 24 = 2 := by kernel_rfl
theorem Tryz.cellsRef : Tryz.prog.cellsOf 46 = 4 := by kernel_rfl
theorem Tryz.cellsValue : Tryz.prog.cellsOf 44 = 5 := by kernel_rfl
theorem Tryz.cellsNode : Tryz.prog.cellsOf 49 = 15 := by kernel_rfl
theorem Tryz.cellsNodes : Tryz.prog.cellsOf 47 = 1 := by kernel_rfl
theorem Tryz.cellsContent : Tryz.prog.cellsOf 51 = 21 := by kernel_rfl
theorem ArgsIn.up {w : World} : ∀ {n : Nat} {av : Value} {l : List NodeT}, ArgsIn w n av l → ArgsIn w (n + 1) av l
 | 0, _, _, h => by obtain ⟨rfl, a, cap, rfl, hc⟩ := h; exact ⟨a, cap, rfl, Nat.zero_le _, hc, fun h => absurd rfl h⟩
 | n + 1, _, _, h => by
  obtain ⟨a, cap, rfl, h1, h2, h3⟩ := h
  refine ⟨a, cap, rfl, h1, h2, fun hne => ?_⟩
  obtain ⟨b, off, rfl, hc⟩ := h3 hne
  exact ⟨b, off, rfl, fun k t ht => let ⟨av', q1, q2⟩ := hc k t ht; ⟨av', q1, q2.up⟩⟩
theorem size_reach {s : ByteArray} (h : s.data.toList.length ≤ reachBytes) : s.size < 4611686018427387904 := by
 have e : s.size = s.data.toList.length := by rw [Array.length_toList]; rfl
 unfold reachBytes at h
 omega
section
variable {H : Type} {enc : TypeId × Value → H} {W : World} {base : Nat} {spare : Nat → Bool} {held : Bool}
theorem trod_fl {P : Program} {k : FloatKind} {ty : TypeId} {n : Nat} {cs : List Value} {x : DataW H × List MemPlace} (ht : P.underlying ty = some (.float k)) (h : DataW.trod enc P W base spare held n ty cs = some x) : ∃ v, cs = [.float k v] ∧ (Lit.float k v).wf = true := by
 cases n with
 | zero => simp [DataW.trod] at h
 | succ n =>
  unfold DataW.trod at h
  rw [ht] at h
  split at h <;> simp_all
theorem open_f64 {n : Nat} {cs : List Value} {x : DataW H × List MemPlace} (h : DataW.trod enc Tryz.prog W base spare held n 42 cs = some x) : ∃ v, cs = [.float .f64 v] ∧ v < 18446744073709551616 := by
 obtain ⟨v, h1, h2⟩ := trod_fl Tryz.underlying42 h
 exact ⟨v, h1, by simpa [Lit.wf] using h2⟩
set_option maxRecDepth 100000 in
theorem open_ad {n : Nat} {cs : List Value} {x : DataW H × List MemPlace} (h : DataW.trod enc Tryz.prog W base spare held n 24 cs = some x) : ∃ a : Ad, cs = adC a := by
 obtain ⟨y0, y1, m, hx, hl, h0, h1⟩ := trod_struct2 Tryz.underlying24 h
 rw [Tryz.cellsAddr] at hl
 match cs, hl with
 | [c0, c1], _ =>
  have g0 : DataW.trod enc Tryz.prog W base spare held m 3 [c0] = some y0 := by simpa [Tryz.cellsInt] using h0
  have g1 : DataW.trod enc Tryz.prog W base spare held m 3 [c1] = some y1 := by simpa [Tryz.cellsInt] using h1
  obtain ⟨a, e0, _, _⟩ := DataW.trod_int Tryz.underlying3 g0
  obtain ⟨b, e1, _, _⟩ := DataW.trod_int Tryz.underlying3 g1
  simp at e0 e1
  subst e0 e1
  exact ⟨(a, b), rfl⟩
set_option maxRecDepth 100000 in
theorem open_ref {n : Nat} {cs : List Value} {x : DataW H × List MemPlace} (h : DataW.trod enc Tryz.prog W base spare held n 46 cs = some x) : ∃ r : RefT, cs = [.int .i64 r.a.1, .int .i64 r.a.2, .bool r.cf, .bool r.rf] := by
 obtain ⟨xs, m, _, rfl, hl, hlen, hf⟩ := DataW.trod_struct Tryz.underlying46 h
 rw [Tryz.cellsRef] at hl
 match xs, hlen with
 | [y0, y1, y2], _ =>
  match cs, hl with
  | [c0, c1, c2, c3], _ =>
   have g0 : DataW.trod enc Tryz.prog W base spare held m 24 [c0, c1] = some y0 := by simpa [Tryz.cellsAddr] using hf 0 _ rfl
   have g1 : DataW.trod enc Tryz.prog W base spare held m 4 [c2] = some y1 := by simpa [Tryz.cellsBool] using hf 1 _ rfl
   have g2 : DataW.trod enc Tryz.prog W base spare held m 4 [c3] = some y2 := by simpa [Tryz.cellsBool] using hf 2 _ rfl
   obtain ⟨a, ea⟩ := open_ad g0
   obtain ⟨b1, e1, _⟩ := DataW.trod_bool Tryz.underlying4 g1
   obtain ⟨b2, e2, _⟩ := DataW.trod_bool Tryz.underlying4 g2
   simp only [adC, List.cons.injEq, and_true] at ea e1 e2
   obtain ⟨rfl, rfl⟩ := ea
   subst e1 e2
   exact ⟨⟨a, b1, b2⟩, rfl⟩
theorem list_of {α : Type} {p : Nat → α → Prop} : ∀ (n : Nat), (∀ i, i < n → ∃ x, p i x) → ∃ l : List α, l.length = n ∧ ∀ i x, l[i]? = some x → p i x
 | 0, _ => ⟨[], rfl, fun i x h => by simp at h⟩
 | n + 1, h => by
  obtain ⟨l, h1, h2⟩ := list_of n (fun i hi => h i (by omega))
  obtain ⟨x, hx⟩ := h n (by omega)
  refine ⟨l ++ [x], by simp [h1], fun i y hy => ?_⟩
  rcases Nat.lt_or_ge i n with hi | hi
  · rw [List.getElem?_append_left (by omega)] at hy; exact h2 i y hy
  · have : i = n := by
     have := (List.getElem?_eq_some_iff.1 hy).1
     simp [h1] at this; omega
    subst this
    rw [List.getElem?_append_right (by omega), h1, Nat.sub_self] at hy
    simp at hy; subst hy; exact hx
theorem weights_all_mem {P : Program} {e : TypeId} : ∀ {l : List (DataW H)} {d : DataW H} {q : Nat}, d ∈ l → q ∈ d.weights P e → q ∈ DataW.weightsAll P e l
 | x :: r, d, q, hd, hq => by
  simp only [DataW.weightsAll, List.mem_append]
  rcases List.mem_cons.1 hd with rfl | hd
  · exact Or.inl hq
  · exact Or.inr (weights_all_mem hd hq)
theorem okL_of : ∀ {l : List NodeT}, (∀ (i : Nat) (t : NodeT), l[i]? = some t → t.ok) → okL l
 | [], _ => by simp [okL]
 | t :: r, h => by simp only [okL]; exact ⟨h 0 t rfl, okL_of (fun i u hu => h (i + 1) u (by simpa using hu))⟩
theorem smallL_of : ∀ {l : List NodeT}, (∀ (i : Nat) (t : NodeT), l[i]? = some t → smallT t) → smallL l
 | [], _ => by simp [smallL]
 | t :: r, h => by simp only [smallL]; exact ⟨h 0 t rfl, smallL_of (fun i u hu => h (i + 1) u (by simpa using hu))⟩
set_option maxRecDepth 100000 in
set_option maxHeartbeats 1000000 in
theorem open_node : ∀ (n : Nat) {cs : List Value} {x : DataW H × List MemPlace}, DataW.trod enc Tryz.prog W base spare held n 49 cs = some x → (∀ q ∈ x.1.weights Tryz.prog 49, q ≤ reachBytes) → ∃ (t : NodeT) (av : Value), cs = nodeC t av ∧ ArgsIn W n av t.args ∧ t.ok ∧ smallT t := by
 intro n
 induction n using Nat.strongRecOn with
 | ind n ih =>
  intro cs x h hz
  obtain ⟨xs, m, hm, rfl, hl, hlen, hf⟩ := DataW.trod_struct Tryz.underlying49 h
  rw [Tryz.cellsNode] at hl
  match xs, hlen with
  | [y0, y1, y2, y3, y4, y5, y6, y7, y8], _ =>
   match cs, hl with
   | [c0, c1, c2, c3, c4, c5, c6, c7, c8, c9, c10, c11, c12, c13, c14], _ =>
    have g0 : DataW.trod enc Tryz.prog W base spare held m 3 [c0] = some y0 := by simpa [Tryz.cellsInt] using hf 0 _ rfl
    have g1 : DataW.trod enc Tryz.prog W base spare held m 3 [c1] = some y1 := by simpa [Tryz.cellsInt] using hf 1 _ rfl
    have g2 : DataW.trod enc Tryz.prog W base spare held m 42 [c2] = some y2 := by simpa [Tryz.cellsF64] using hf 2 _ rfl
    have g3 : DataW.trod enc Tryz.prog W base spare held m 9 [c3] = some y3 := by simpa [Tryz.cellsStr] using hf 3 _ rfl
    have g4 : DataW.trod enc Tryz.prog W base spare held m 4 [c4] = some y4 := by simpa [Tryz.cellsBool] using hf 4 _ rfl
    have g5 : DataW.trod enc Tryz.prog W base spare held m 3 [c5] = some y5 := by simpa [Tryz.cellsInt] using hf 5 _ rfl
    have g6 : DataW.trod enc Tryz.prog W base spare held m 46 [c6, c7, c8, c9] = some y6 := by simpa [Tryz.cellsRef] using hf 6 _ rfl
    have g7 : DataW.trod enc Tryz.prog W base spare held m 46 [c10, c11, c12, c13] = some y7 := by simpa [Tryz.cellsRef] using hf 7 _ rfl
    have g8 : DataW.trod enc Tryz.prog W base spare held m 47 [c14] = some y8 := by simpa [Tryz.cellsNodes] using hf 8 _ rfl
    obtain ⟨k, e0, _, _⟩ := DataW.trod_int Tryz.underlying3 g0
    obtain ⟨op, e1, _, _⟩ := DataW.trod_int Tryz.underlying3 g1
    obtain ⟨fx, e2, hfx⟩ := open_f64 g2
    have hz3 : ∀ q ∈ y3.1.weights Tryz.prog 9, q ≤ reachBytes := fun q hq => hz q (by simp [DataW.weights, Tryz.underlying49, DataW.weightsEach, hq])
    have hz8 : ∀ q ∈ y8.1.weights Tryz.prog 47, q ≤ reachBytes := fun q hq => hz q (by simp [DataW.weights, Tryz.underlying49, DataW.weightsEach, hq])
    obtain ⟨s, e3, es3, ws⟩ := DataW.trod_string Tryz.underlying9 g3
    rw [es3] at hz3
    obtain ⟨b, e4, _⟩ := DataW.trod_bool Tryz.underlying4 g4
    obtain ⟨f, e5, _, _⟩ := DataW.trod_int Tryz.underlying3 g5
    obtain ⟨r1, e6⟩ := open_ref g6
    obtain ⟨r2, e7⟩ := open_ref g7
    simp only [List.cons.injEq, and_true] at e0 e1 e2 e3 e4 e5 e6 e7
    obtain ⟨rfl, rfl, rfl, rfl⟩ := e6
    obtain ⟨rfl, rfl, rfl, rfl⟩ := e7
    subst e0 e1 e2 e3 e4 e5
    have hs : s.size < 4611686018427387904 := size_reach (hz3 s.data.toList.length (by simp [DataW.weights]))
    have harg : ∃ l : List NodeT, ArgsIn W n c14 l ∧ okL l ∧ l.length ≤ 1099511627744 ∧ smallL l := by
     rcases DataW.trod_slice Tryz.underlying47 g8 with ⟨h0, _⟩ | ⟨a, len, cap, elems, rest, q, hq, hcs, hx, hb, hlc, hcap, hle, hel, _, _⟩
     · cases h0
       rw [hm]
       exact ⟨[], ⟨none, 0, rfl, by simp, by omega, fun h => absurd rfl h⟩, by simp [okL], by simp, by simp [smallL]⟩
     · cases hcs
       rw [Tryz.cellsNode] at hel
       rw [hx] at hz8
       have hlen128 : len ≤ 1099511627744 := by
        have h := hz8 ((elems.length + rest.length) * Tryz.prog.bytesOf 49) (by
         simp only [DataW.weights, Tryz.underlying47, List.length_map, List.mem_cons, true_or])
        rw [show Tryz.prog.bytesOf 49 = 128 by kernel_rfl] at h
        unfold reachBytes at h
        omega
       have each : ∀ i, i < len → ∃ u : NodeT, ∃ av : Value, (∀ (j : Nat) (c : Value), (nodeC u av)[j]? = some c → W.cell? (a.add (i * 15 + j)) = some c) ∧ ArgsIn W q av u.args ∧ u.ok ∧ smallT u := by
        intro i hil
        have hi := hel i hil
        rw [List.getElem?_eq_getElem (by omega)] at hi
        obtain ⟨cs', h1, h2⟩ := Option.bind_eq_some_iff.1 hi
        obtain ⟨u, av, rfl, hin, hok, hsu⟩ := ih q (by omega) h2 (fun z hq => hz8 z (by
         simp only [DataW.weights, Tryz.underlying47, List.mem_cons, List.mem_append]
         exact Or.inr (Or.inl (weights_all_mem (List.mem_map.2 ⟨_, List.getElem_mem (by omega), rfl⟩) hq))))
        obtain ⟨_, hlen, hcell⟩ := World.cells?_some h1
        refine ⟨u, av, fun j c hj => ?_, hin, hok, hsu⟩
        have hjs : j < 15 := (List.getElem?_eq_some_iff.1 hj).1
        rw [← add_add, hcell j hjs, hj]
       obtain ⟨l, hl1, hl2⟩ := list_of len each
       refine ⟨l, ?_, okL_of fun i t ht => (let ⟨_, _, _, h, _⟩ := hl2 i t ht; h), by omega, smallL_of fun i t ht => (let ⟨_, _, _, _, h⟩ := hl2 i t ht; h)⟩
       rw [hm, hq]
       refine ⟨some a, cap, by rw [hl1], by omega, by unfold maxLen at hcap; omega, fun hne => ?_⟩
       obtain ⟨bb, o, spot⟩ := a
       obtain ⟨y, hy⟩ : ∃ y, l[0]? = some y := by
        cases l with
        | nil => exact absurd rfl hne
        | cons y _ => exact ⟨y, rfl⟩
       obtain ⟨av0, hc0, _⟩ := hl2 0 y hy
       have hspot : spot = none := by simpa [Addr.add] using World.cell?_spot (hc0 0 _ rfl)
       subst hspot
       refine ⟨bb, o, rfl, fun k t ht => ?_⟩
       obtain ⟨av, hcell, hin, _⟩ := hl2 k t ht
       refine ⟨av, fun i u hu => ?_, hin.up⟩
       have := hcell i u hu
       rw [Addr.add_lit] at this
       rwa [← Nat.add_assoc] at this
    obtain ⟨l, hin, hok, hln, hsl⟩ := harg
    exact ⟨.mk k op fx s b f r1 r2 l, c14, rfl, hin, by simp only [NodeT.ok]; exact ⟨hs, hfx, hok⟩, by simp only [smallT]; exact ⟨hln, hsl⟩⟩
set_option maxRecDepth 100000 in
theorem open_content {n : Nat} {cs : List Value} {x : DataW H × List MemPlace} (h : DataW.trod enc Tryz.prog W base spare held n 51 cs = some x) (hz : ∀ q ∈ x.1.weights Tryz.prog 51, q ≤ reachBytes) : ∃ (c : ContT) (a : Option Addr) (cap d : Nat), Value.agg cs.toArray = contV c a c.t.args.length cap ∧ ArgsIn W d (.slice a c.t.args.length cap) c.t.args ∧ c.ok ∧ smallT c.t := by
 obtain ⟨xs, m, hm, rfl, hl, hlen, hf⟩ := DataW.trod_struct Tryz.underlying51 h
 rw [Tryz.cellsContent] at hl
 match xs, hlen with
 | [y0, y1, y2], _ =>
  match cs, hl with
  | [c0, v0, v1, v2, v3, v4, n0, n1, n2, n3, n4, n5, n6, n7, n8, n9, n10, n11, n12, n13, n14], _ =>
   have g0 : DataW.trod enc Tryz.prog W base spare held m 3 [c0] = some y0 := by simpa [Tryz.cellsInt] using hf 0 _ rfl
   have g1 : DataW.trod enc Tryz.prog W base spare held m 44 [v0, v1, v2, v3, v4] = some y1 := by simpa [Tryz.cellsValue] using hf 1 _ rfl
   have g2 : DataW.trod enc Tryz.prog W base spare held m 49 [n0, n1, n2, n3, n4, n5, n6, n7, n8, n9, n10, n11, n12, n13, n14] = some y2 := by simpa [Tryz.cellsNode] using hf 2 _ rfl
   obtain ⟨k, e0, _, _⟩ := DataW.trod_int Tryz.underlying3 g0
   have hz1 : ∀ q ∈ y1.1.weights Tryz.prog 44, q ≤ reachBytes := fun q hq => hz q (by simp [DataW.weights, Tryz.underlying51, DataW.weightsEach, hq])
   have hz2 : ∀ q ∈ y2.1.weights Tryz.prog 49, q ≤ reachBytes := fun q hq => hz q (by simp [DataW.weights, Tryz.underlying51, DataW.weightsEach, hq])
   obtain ⟨zs, m2, _, rfl, hl2, hlen2, hf2⟩ := DataW.trod_struct Tryz.underlying44 g1
   obtain ⟨t, av, et, hin, hok, hsm⟩ := open_node m g2 hz2
   match zs, hlen2 with
   | [z0, z1, z2, z3, z4], _ =>
    have p0 : DataW.trod enc Tryz.prog W base spare held m2 3 [v0] = some z0 := by simpa [Tryz.cellsInt] using hf2 0 _ rfl
    have p1 : DataW.trod enc Tryz.prog W base spare held m2 42 [v1] = some z1 := by simpa [Tryz.cellsF64] using hf2 1 _ rfl
    have p2 : DataW.trod enc Tryz.prog W base spare held m2 9 [v2] = some z2 := by simpa [Tryz.cellsStr] using hf2 2 _ rfl
    have p3 : DataW.trod enc Tryz.prog W base spare held m2 4 [v3] = some z3 := by simpa [Tryz.cellsBool] using hf2 3 _ rfl
    have p4 : DataW.trod enc Tryz.prog W base spare held m2 3 [v4] = some z4 := by simpa [Tryz.cellsInt] using hf2 4 _ rfl
    obtain ⟨vk, f0, _, _⟩ := DataW.trod_int Tryz.underlying3 p0
    obtain ⟨vx, f1, hvx⟩ := open_f64 p1
    obtain ⟨vs, f2, es2, ws⟩ := DataW.trod_string Tryz.underlying9 p2
    have hws : vs.size < 4611686018427387904 := size_reach (hz1 vs.data.toList.length (by simp [DataW.weights, Tryz.underlying44, DataW.weightsEach, es2]))
    obtain ⟨vb, f3, _⟩ := DataW.trod_bool Tryz.underlying4 p3
    obtain ⟨vf, f4, _, _⟩ := DataW.trod_int Tryz.underlying3 p4
    obtain ⟨a, cap, rfl, _, _⟩ := hin.shape
    simp only [nodeC, List.cons.injEq, and_true] at e0 f0 f1 f2 f3 f4 et
    obtain ⟨rfl, rfl, rfl, rfl, rfl, rfl, rfl, rfl, rfl, rfl, rfl, rfl, rfl, rfl, rfl⟩ := et
    subst e0 f0 f1 f2 f3 f4
    exact ⟨⟨k, ⟨vk, vx, vs, vb, vf⟩, t⟩, a, cap, m, rfl, hin, ⟨hws, hok, hvx⟩, hsm⟩
end
end Go.Proofs.YtdoeejhdenifpaaGreatDoor
/- The laid tables of unicode/utf8, and what comes in, opened. -/
namespace Go.Proofs.YtdoeejhdenifpaaGreatDoor
open Go.ChangeShapes Go.WideShapes Go.ChangeAt Go.RowKit Go.Joins Go.Deep Go.Shelf
noncomputable def laidWorld (os : Os) : World :=
 let w0 := World.holding Tryz.prog os ⟨#[], #[], []⟩
 let put (h : Array Obj) (g : Nat) (cs : Array Value) : Array Obj := h.modify g fun
  | .cells _ t frozen => .cells cs t frozen
  | o => o
 let h1 := put w0.heap 1 (Lib.firstTab.map fun z => Value.int .u8 z).toArray
 let h2 := put h1 2 ((List.range 16).flatMap fun i => [Value.int .u8 (Lib.accLo i), Value.int .u8 (Lib.accHi i)]).toArray
 { w0 with heap := h2 }
theorem acc_is : (Rows.laid_unicode_utf8_acceptRanges : DataW Unit) = Lib.acceptData := by kernel_rfl
theorem fst_is : (Rows.laid_unicode_utf8_first : DataW Unit) = Lib.firstData := by kernel_rfl
abbrev laidL : List (String × DataW Unit) := [("unicode/utf8.acceptRanges", Rows.laid_unicode_utf8_acceptRanges), ("unicode/utf8.first", Rows.laid_unicode_utf8_first)]
theorem laid_met (os : Os) (args : Array Value) : laidMet Tryz.prog laidL ((laidWorld os).forCall (fun _ _ => 0) ⟨#[], args, []⟩).memory :=
 (LaidIn.of_run (l := [("unicode/utf8.acceptRanges", Rows.laid_unicode_utf8_acceptRanges), ("unicode/utf8.first", Rows.laid_unicode_utf8_first)]) [2, 1] 8 (by kernel_rfl) (by kernel_rfl) (by kernel_rfl) (by kernel_rfl)).met
theorem tabs_of {W : World} (hL : laidMetH Tryz.prog laidL W) : Tabs W := by
 have h1 := Lib.laidMet.reads hL (.head _)
 have h2 := Lib.laidMet.reads hL (.tail _ (.head _))
 rw [acc_is] at h1
 rw [fst_is] at h2
 exact utf8Tabs_of_readsT (U8Types.of196 Tryz.valid8) ⟨by kernel_rfl, by kernel_rfl, by kernel_rfl, by kernel_rfl, by kernel_rfl, by kernel_rfl, by kernel_rfl⟩ h2 h1
theorem laid_metH (os : Os) (args : Array Value) : laidMetH Tryz.prog laidL ((laidWorld os).forCall (fun _ _ => 0) ⟨#[], args, []⟩).memory :=
 laidMetH_of_parts (laid_met os args) (by kernel_rfl)
end Go.Proofs.YtdoeejhdenifpaaGreatDoor
/- formula.Copy's rounds, with the rows that its lists lie in (made by mk52.py). -/
namespace Go.Proofs.YtdoeejhdenifpaaGreatDoor
open Go.RowKit Go.Sort
def NodeRow (w : World) (b : Nat) : Prop := ∃ (cur : Array Value) (cap : Nat), w.heap[b]? = some (.cells cur 49 (0, 0)) ∧ cur.size = cap * 15
theorem NodeRow.of_heap {w w' : World} {b : Nat} (h : NodeRow w b) (e : w'.heap[b]? = w.heap[b]?) : NodeRow w' b := let ⟨cur, cap, h1, h2⟩ := h; ⟨cur, cap, e.trans h1, h2⟩
structure CopyRowsR (wr : World) (S : Nat) (n : Nat) (ob : Option Nat) (l : List NodeT) (R : List (NodeT × Value)) : Prop where
 fst : R.map Prod.fst = copyL l
 args : ∀ (k : Nat) (r : NodeT × Value), R[k]? = some r → ∃ n', n = n' + 1 ∧ ArgsS (fun b => (S ≤ b ∧ ob ≠ some b) ∧ NodeRow wr b) wr n' r.2 r.1.args
structure CopyStR (w : World) (n : Nat) (t2 : NodeT) (l : List NodeT) (wr : World) (i : Nat) (va : Option Addr) (vn vc : Nat) : Prop where
 box : NodeAt wr w.heap.size 0 t2 va vn vc
 f14 : wr.frozen? ⟨w.heap.size, 14, none⟩ = false
 res : ∃ cs, wr.heap[w.heap.size + 1]? = some (.cells cs 49 (0, 0)) ∧ cs.size = 15
 ob : ∀ g, (Value.slice va vn vc).ownBlock = some g → w.heap.size + 2 ≤ g
 rows : ∃ R, wr.ownsRow 0 49 15 (.slice va vn vc) i (R.flatMap rowC) ∧ CopyRowsR wr (w.heap.size + 2) n (Value.slice va vn vc).ownBlock (l.take i) R
 xt : Xt w wr
theorem copy_startR {w w0 : World} {t : NodeT} {a : Option Addr} {m cap : Nat} (n ox : Nat) (l : List NodeT) (hc : NodeAt w0 w.heap.size 0 t a m cap) (hs : w0.heap.size = w.heap.size + 1) (hf : w0.frozen? ⟨w.heap.size, 14, none⟩ = false) (hg : Gr w w0) :
    CopyStR w n (.mk t.kind t.op ox t.s t.b t.f t.ref t.to t.args) l (((w0.setCell ⟨w.heap.size, 2, none⟩ (.float .f64 ox)).setCell ⟨w.heap.size, 14, none⟩ (.slice none 0 0)).alloc (.cells #[.int .i64 0, .int .i64 0, .float .f64 0, .string ⟨#[]⟩, .bool false, .int .i64 0, .int .i64 0, .int .i64 0, .bool false, .bool false, .int .i64 0, .int .i64 0, .bool false, .bool false, .slice none 0 0] 49)) 0 none 0 0 := by
 obtain ⟨w1, hw1⟩ : ∃ w1, w0.setCell ⟨w.heap.size, 2, none⟩ (.float .f64 ox) = w1 := ⟨_, rfl⟩
 rw [hw1]
 obtain ⟨w2, hw2⟩ : ∃ w2, w1.setCell ⟨w.heap.size, 14, none⟩ (.slice none 0 0) = w2 := ⟨_, rfl⟩
 rw [hw2]
 have s1 : w1.heap.size = w.heap.size + 1 := by rw [← hw1]; simpa using hs
 have s2 : w2.heap.size = w.heap.size + 1 := by rw [← hw2]; simpa using s1
 have k1 : ∀ o v, o ≠ 2 → w0.cell? ⟨w.heap.size, o, none⟩ = some v → w1.cell? ⟨w.heap.size, o, none⟩ = some v := fun o v ho h => by
  rw [← hw1]; exact (World.cell?_setCell_other w0 _ _ _ (by intro e; cases e; exact ho rfl)).trans h
 have k2 : ∀ o v, o ≠ 14 → w1.cell? ⟨w.heap.size, o, none⟩ = some v → w2.cell? ⟨w.heap.size, o, none⟩ = some v := fun o v ho h => by
  rw [← hw2]; exact (World.cell?_setCell_other w1 _ _ _ (by intro e; cases e; exact ho rfl)).trans h
 have k3 : ∀ o v (ob : Obj), w2.cell? ⟨w.heap.size, o, none⟩ = some v → (w2.alloc ob).cell? ⟨w.heap.size, o, none⟩ = some v := fun o v ob h =>
  (World.cell?_of_block (w := w2) (a := ⟨w.heap.size, o, none⟩) (Below.heap_alloc w2 ob _ (by show w.heap.size < _; omega))).trans h
 have x1 : Xt w w1 := by rw [← hw1]; exact hg.xt.grownB (setCell_grown _ _ _ _) (fun m hm => by cases hm; exact Nat.le_refl _)
 have x2 : Xt w w2 := by rw [← hw2]; exact x1.grownB (setCell_grown _ _ _ _) (fun m hm => by cases hm; exact Nat.le_refl _)
 refine ⟨⟨?_, ?_, ?_, ?_, ?_, ?_, ?_, ?_, ?_, ?_, ?_, ?_, ?_, ?_, ?_⟩, ?_, ?_, fun g hg => (by cases hg), ⟨[], ?_, ?_, fun k r hk => (by simp at hk)⟩, x2.alloc _⟩
 · exact k3 _ _ _ (k2 _ _ (by omega) (k1 _ _ (by omega) hc.c0))
 · exact k3 _ _ _ (k2 _ _ (by omega) (k1 _ _ (by omega) hc.c1))
 · refine k3 _ _ _ (k2 _ _ (by omega) ?_)
   rw [← hw1, Nat.zero_add]; exact World.cell?_setCell_same' w0 _ _ (by have := hc.c2; rw [Nat.zero_add] at this; rw [this]; rfl)
 · exact k3 _ _ _ (k2 _ _ (by omega) (k1 _ _ (by omega) hc.c3))
 · exact k3 _ _ _ (k2 _ _ (by omega) (k1 _ _ (by omega) hc.c4))
 · exact k3 _ _ _ (k2 _ _ (by omega) (k1 _ _ (by omega) hc.c5))
 · exact k3 _ _ _ (k2 _ _ (by omega) (k1 _ _ (by omega) hc.c6))
 · exact k3 _ _ _ (k2 _ _ (by omega) (k1 _ _ (by omega) hc.c7))
 · exact k3 _ _ _ (k2 _ _ (by omega) (k1 _ _ (by omega) hc.c8))
 · exact k3 _ _ _ (k2 _ _ (by omega) (k1 _ _ (by omega) hc.c9))
 · exact k3 _ _ _ (k2 _ _ (by omega) (k1 _ _ (by omega) hc.c10))
 · exact k3 _ _ _ (k2 _ _ (by omega) (k1 _ _ (by omega) hc.c11))
 · exact k3 _ _ _ (k2 _ _ (by omega) (k1 _ _ (by omega) hc.c12))
 · exact k3 _ _ _ (k2 _ _ (by omega) (k1 _ _ (by omega) hc.c13))
 · refine k3 _ _ _ ?_
   have h14 := k1 _ _ (by omega) hc.c14
   rw [Nat.zero_add] at h14
   rw [← hw2, Nat.zero_add]; exact World.cell?_setCell_same' w1 _ _ (by rw [h14]; rfl)
 · have q1 : w1.frozen? ⟨w.heap.size, 14, none⟩ = false := by rw [← hw1]; simp [hf]
   have q2 : w2.frozen? ⟨w.heap.size, 14, none⟩ = false := by rw [← hw2]; simp [q1]
   exact (World.frozen?_of_block (w := w2) (a := ⟨w.heap.size, 14, none⟩) (Below.heap_alloc w2 _ _ (by show w.heap.size < _; omega))).trans q2
 · rw [← s2]; exact ⟨_, (MapKept.heap_alloc w2 _).1, rfl⟩
 · exact World.ownsRow_nil _ _ _ _
 · rfl
end Go.Proofs.YtdoeejhdenifpaaGreatDoor
/- A list of copies that grows in a node's args: what is known of it round by round; lists of one's own. -/
namespace Go.Proofs.YtdoeejhdenifpaaGreatDoor
open Go.RowKit Go.Sort
def OwnIn (S : Nat → Prop) (w : World) : Nat → Value → List NodeT → Prop
 | 0, av, l => l = [] ∧ ∃ a, av = .slice a 0 0
 | n + 1, av, l => ∃ a cap, av = .slice a l.length cap ∧ l.length ≤ cap ∧ cap ≤ 9223372036854775807 ∧ (0 < cap → ∃ b cur K, a = some ⟨b, 0, none⟩ ∧ S b ∧ w.heap[b]? = some (.cells cur 49 (0, 0)) ∧ cur.size = K * 15 ∧ cap ≤ K ∧
     ∀ k t, l[k]? = some t → ∃ av', (∀ i u, (nodeC t av')[i]? = some u → w.cell? ⟨b, k * 15 + i, none⟩ = some u) ∧ OwnIn S w n av' t.args)
theorem OwnIn.args {S : Nat → Prop} {w : World} : ∀ {n : Nat} {av : Value} {l : List NodeT}, OwnIn S w n av l → ArgsIn w n av l
 | 0, _, _, h => by obtain ⟨rfl, a, rfl⟩ := h; exact ⟨rfl, a, 0, rfl, by omega⟩
 | n + 1, _, _, h => by
  obtain ⟨a, cap, rfl, h1, h2, h3⟩ := h
  refine ⟨a, cap, rfl, h1, h2, fun hne => ?_⟩
  have hpos := List.length_pos_iff.2 hne
  obtain ⟨b, cur, K, rfl, _, _, _, _, hc⟩ := h3 (by omega)
  exact ⟨b, 0, rfl, fun k t ht => let ⟨av', q1, q2⟩ := hc k t ht; ⟨av', by simpa only [Nat.zero_add] using q1, q2.args⟩⟩
theorem OwnIn.keep {S S' : Nat → Prop} {w w' : World} (hS : ∀ b, S b → b < w.heap.size → S' b) (hk : ∀ b, S b → b < w.heap.size → w'.heap[b]? = w.heap[b]?) : ∀ {n : Nat} {av : Value} {l : List NodeT}, OwnIn S w n av l → OwnIn S' w' n av l
 | 0, _, _, h => h
 | n + 1, _, _, h => by
  obtain ⟨a, cap, rfl, h1, h2, h3⟩ := h
  refine ⟨a, cap, rfl, h1, h2, fun hpos => ?_⟩
  obtain ⟨b, cur, K, rfl, hb, hr, hK, hcK, hc⟩ := h3 hpos
  have hlt : b < w.heap.size := (Array.getElem?_eq_some_iff.1 hr).1
  exact ⟨b, cur, K, rfl, hS b hb hlt, (hk b hb hlt).trans hr, hK, hcK, fun k t ht => let ⟨av', q1, q2⟩ := hc k t ht; ⟨av', fun i u hu => (World.cell?_of_block (w := w) (a := ⟨b, k * 15 + i, none⟩) (hk b hb hlt)).trans (q1 i u hu), OwnIn.keep hS hk q2⟩⟩
theorem OwnIn.shape {S : Nat → Prop} {w : World} {n : Nat} {av : Value} {l : List NodeT} (h : OwnIn S w n av l) : ∃ a cap, av = .slice a l.length cap ∧ l.length ≤ cap ∧ cap ≤ 9223372036854775807 := h.args.shape
structure GRows (wr : World) (M : Nat) (g : NodeT → NodeT) (n : Nat) (ob : Option Nat) (l : List NodeT) (R : List (NodeT × Value)) : Prop where
 fst : R.map Prod.fst = l.map g
 args : ∀ (k : Nat) (r : NodeT × Value), R[k]? = some r → ∃ n', n = n' + 1 ∧ OwnIn (fun b => M ≤ b ∧ ob ≠ some b) wr n' r.2 r.1.args
structure GSt (w ws : World) (O M : Nat) (g : NodeT → NodeT) (n : Nat) (t2 : NodeT) (l : List NodeT) (wr : World) (i : Nat) (va : Option Addr) (vn vc : Nat) : Prop where
 lo : w.heap.size ≤ O ∧ O < M ∧ M = ws.heap.size ∧ M ≤ wr.heap.size
 box : NodeAt wr O 0 t2 va vn vc
 f14 : wr.frozen? ⟨O, 14, none⟩ = false
 none : i = 0 → vc = 0
 ob : ∀ q, (Value.slice va vn vc).ownBlock = some q → M ≤ q
 rows : ∃ R, wr.ownsRow 0 49 15 (.slice va vn vc) i (R.flatMap rowC) ∧ GRows wr M g n (Value.slice va vn vc).ownBlock (l.take i) R
 keep : ∀ b, b < M → b ≠ O → wr.heap[b]? = ws.heap[b]?
 xt : Xt w wr
theorem GSt.lenR {R : List (NodeT × Value)} {g : NodeT → NodeT} {l : List NodeT} {i : Nat} (h : R.map Prod.fst = (l.take i).map g) (hi : i ≤ l.length) : R.length = i := by
 have := congrArg List.length h
 simp at this; omega
end Go.Proofs.YtdoeejhdenifpaaGreatDoor
namespace Go.Proofs.YtdoeejhdenifpaaGreatDoor
open Go.RowKit Go.Sort
end Go.Proofs.YtdoeejhdenifpaaGreatDoor
/- Lists that their owner writes over. -/
namespace Go.Proofs.YtdoeejhdenifpaaGreatDoor
open Go.RowKit Go.Sort
def Ov (S : Nat → Prop) (w : World) : Nat → Value → Prop
 | 0, av => ∃ a, av = .slice a 0 0
 | n + 1, av => ∃ a m cap, av = .slice a m cap ∧ m ≤ cap ∧ m ≤ 1099511627744 ∧ cap ≤ 9223372036854775807 ∧ (0 < cap → ∃ b cur K, a = some ⟨b, 0, none⟩ ∧ S b ∧ w.heap[b]? = some (.cells cur 49 (0, 0)) ∧ cur.size = K * 15 ∧ cap ≤ K ∧
     ∀ k, k < m → ∃ u av', (∀ i v, (nodeC u av')[i]? = some v → w.cell? ⟨b, k * 15 + i, none⟩ = some v) ∧ Ov S w n av')
theorem Ov.nil {S : Nat → Prop} {w : World} {a : Option Addr} : ∀ n, Ov S w n (.slice a 0 0)
 | 0 => ⟨a, rfl⟩
 | _ + 1 => ⟨a, 0, 0, rfl, Nat.le_refl _, by omega, by omega, fun h => absurd h (Nat.lt_irrefl _)⟩
theorem Ov.shape {S : Nat → Prop} {w : World} {n : Nat} {av : Value} (h : Ov S w n av) : ∃ a m cap, av = .slice a m cap ∧ m ≤ cap ∧ m ≤ 1099511627744 ∧ cap ≤ 9223372036854775807 := by
 cases n with
 | zero => obtain ⟨a, rfl⟩ := h; exact ⟨a, 0, 0, rfl, Nat.le_refl _, by omega, by omega⟩
 | succ n => obtain ⟨a, m, cap, rfl, h1, h2, h3, _⟩ := h; exact ⟨a, m, cap, rfl, h1, h2, h3⟩
structure OvW (S : Nat → Prop) (w w' : World) : Prop where
 os : w'.os = w.os
 tape : w'.tape = w.tape
 output : w'.output = w.output
 size : w.heap.size ≤ w'.heap.size
 block : ∀ b, b < w.heap.size → ¬ S b → w'.heap[b]? = w.heap[b]?
 keep : ∀ n av, Ov S w n av → Ov S w' n av
theorem OvW.trans {S : Nat → Prop} {a b c : World} (h : OvW S a b) (k : OvW S b c) : OvW S a c :=
 ⟨k.os.trans h.os, k.tape.trans h.tape, k.output.trans h.output, Nat.le_trans h.size k.size, fun i hi hn => (k.block i (Nat.lt_of_lt_of_le hi h.size) hn).trans (h.block i hi hn), fun n av q => k.keep n av (h.keep n av q)⟩
theorem Ov.of_heap {S : Nat → Prop} {w w' : World} (hk : ∀ b, S b → b < w.heap.size → w'.heap[b]? = w.heap[b]?) : ∀ {n : Nat} {av : Value}, Ov S w n av → Ov S w' n av
 | 0, _, h => h
 | n + 1, _, h => by
  obtain ⟨a, m, cap, rfl, h1, h2, h4, h3⟩ := h
  refine ⟨a, m, cap, rfl, h1, h2, h4, fun hpos => ?_⟩
  obtain ⟨b, cur, K, rfl, hb, hr, hK, hcK, hc⟩ := h3 hpos
  have hlt : b < w.heap.size := (Array.getElem?_eq_some_iff.1 hr).1
  exact ⟨b, cur, K, rfl, hb, (hk b hb hlt).trans hr, hK, hcK, fun k hkm => let ⟨u, av', q1, q2⟩ := hc k hkm; ⟨u, av', fun i v hv => (World.cell?_of_block (w := w) (a := ⟨b, k * 15 + i, none⟩) (hk b hb hlt)).trans (q1 i v hv), Ov.of_heap hk q2⟩⟩
theorem OvW.of_xt {S : Nat → Prop} {w w' : World} (h : Xt w w') : OvW S w w' :=
 ⟨h.os, h.tape, h.output, h.size, fun b hb _ => h.block b hb, fun _ _ q => q.of_heap (fun b _ hb => h.block b hb)⟩
theorem setCells_rowC {T : TypeId} (b : Nat) : ∀ (vs : List Value) (o : Nat) (w : World) (cur : Array Value), w.heap[b]? = some (.cells cur T (0, 0)) → ∃ cur', (w.setCells b o vs).heap[b]? = some (.cells cur' T (0, 0)) ∧ cur'.size = cur.size
 | [], _, _, cur, h => ⟨cur, h, rfl⟩
 | v :: r, o, w, cur, h => by
  rw [World.setCells]
  obtain ⟨cur', h1, h2⟩ := setCells_rowC b r (o + 1) _ _ (heap_setCell_same w b o cur T v h)
  exact ⟨cur', h1, by simpa using h2⟩
theorem setCells_far (b : Nat) : ∀ (vs : List Value) (o : Nat) (w : World) (k : Nat), k ≠ b → (w.setCells b o vs).heap[k]? = w.heap[k]?
 | [], _, _, _, _ => rfl
 | v :: r, o, w, k, h => by
  rw [World.setCells]
  exact (setCells_far b r (o + 1) _ k h).trans (Below.heap_setCell _ _ _ _ h)
theorem setCells_size (b : Nat) : ∀ (vs : List Value) (o : Nat) (w : World), (w.setCells b o vs).heap.size = w.heap.size ∧ (w.setCells b o vs).os = w.os ∧ (w.setCells b o vs).tape = w.tape ∧ (w.setCells b o vs).output = w.output
 | [], _, _ => ⟨rfl, rfl, rfl, rfl⟩
 | v :: r, o, w => by
  rw [World.setCells]
  obtain ⟨h1, h2, h3, h4⟩ := setCells_size b r (o + 1) (w.setCell ⟨b, o, none⟩ v)
  exact ⟨h1.trans (by simp), h2, h3, h4⟩
def leafT (k : Int) (s : ByteArray) : NodeT := .mk k 0 0 s false 0 zR zR []
theorem Ov.written {S : Nat → Prop} {w : World} {b k : Nat} {u : NodeT} {av0 : Value} {w' : World} (hav : ∀ n, Ov S w n (.slice none 0 0))
    (hfar : ∀ j, j ≠ b → w'.heap[j]? = w.heap[j]?) (hrow : ∀ cur, w.heap[b]? = some (.cells cur 49 (0, 0)) → ∃ cur', w'.heap[b]? = some (.cells cur' 49 (0, 0)) ∧ cur'.size = cur.size)
    (hel : ∀ (k' : Nat) (u' : NodeT) (av' : Value), (∀ i v, (nodeC u' av')[i]? = some v → w.cell? ⟨b, k' * 15 + i, none⟩ = some v) → ∃ u2, (∀ i v, (nodeC u2 av')[i]? = some v → w'.cell? ⟨b, k' * 15 + i, none⟩ = some v) ∨ (∀ i v, (nodeC u2 (.slice none 0 0))[i]? = some v → w'.cell? ⟨b, k' * 15 + i, none⟩ = some v)) : ∀ {n : Nat} {av : Value}, Ov S w n av → Ov S w' n av
 | 0, _, h => h
 | n + 1, _, h => by
  obtain ⟨a, m, cap, rfl, h1, h2, h4, h3⟩ := h
  refine ⟨a, m, cap, rfl, h1, h2, h4, fun hpos => ?_⟩
  obtain ⟨b', cur, K, rfl, hb, hr, hK, hcK, hc⟩ := h3 hpos
  by_cases e : b' = b
  · subst e
    obtain ⟨cur', hr', hs'⟩ := hrow cur hr
    refine ⟨b', cur', K, rfl, hb, hr', hs'.trans hK, hcK, fun k' hk' => ?_⟩
    obtain ⟨u', av', q1, q2⟩ := hc k' hk'
    obtain ⟨u2, q | q⟩ := hel k' u' av' q1
    · exact ⟨u2, av', q, Ov.written (k := k) (u := u) (av0 := av0) hav hfar hrow hel q2⟩
    · exact ⟨u2, _, q, Ov.nil n⟩
  · exact ⟨b', cur, K, rfl, hb, (hfar b' e).trans hr, hK, hcK, fun k' hk' => let ⟨u', av', q1, q2⟩ := hc k' hk'; ⟨u', av', fun i v hv => (World.cell?_of_block (w := w) (a := ⟨b', k' * 15 + i, none⟩) (hfar b' e)).trans (q1 i v hv), Ov.written (k := k) (u := u) (av0 := av0) hav hfar hrow hel q2⟩⟩
theorem row_thereN {w : World} {b k K : Nat} {cur : Array Value} {T : TypeId} (hr : w.heap[b]? = some (.cells cur T (0, 0))) (hK : cur.size = K * 15) (hk : k < K) : w.there b (k * 15) 15 := fun j hj => by
 have hlt : k * 15 + j < cur.size := by omega
 constructor
 · have : w.cell? ⟨b, k * 15 + j, none⟩ = cur[k * 15 + j]? := by simp [World.cell?, hr]
   rw [this, Array.getElem?_eq_getElem hlt]; rfl
 · simp [World.frozen?, hr]
theorem leaf_len (u : NodeT) (av : Value) : (nodeC u av).length = 15 := rfl
theorem OvW.store {S : Nat → Prop} {w : World} {b k K : Nat} {cur : Array Value} (hS : S b) (hr : w.heap[b]? = some (.cells cur 49 (0, 0))) (hK : cur.size = K * 15) (hk : k < K) (u : NodeT) : OvW S w (w.setCells b (k * 15) (nodeC u (.slice none 0 0))) := by
 obtain ⟨s1, s2, s3, s4⟩ := setCells_size b (nodeC u (.slice none 0 0)) (k * 15) w
 have ht := row_thereN hr hK hk
 refine ⟨s2, s3, s4, by omega, fun j _ hn => setCells_far b _ _ w j (fun e => hn (e ▸ hS)), fun n av h => Ov.written (k := k) (u := u) (av0 := .slice none 0 0) (fun _ => Ov.nil _) (fun j hj => setCells_far b _ _ w j hj) (fun cur h => setCells_rowC b _ _ w cur h) (fun k' u' av' q => ?_) h⟩
 by_cases e : k' = k
 · subst e
   exact ⟨u, Or.inr (World.rangeAt_setCells_same w b (k' * 15) _ ht)⟩
 · refine ⟨u', Or.inl (fun i v hv => World.rangeAt_setCells_apart (b' := b) (o' := k' * 15) (cs := nodeC u' av') q b (k * 15) _ ?_ i v hv)⟩
   right; rw [leaf_len, leaf_len]; omega
theorem OvW.kind {S : Nat → Prop} {w : World} {b k K : Nat} {cur : Array Value} (hS : S b) (hr : w.heap[b]? = some (.cells cur 49 (0, 0))) (hK : cur.size = K * 15) (hk : k < K) (z : Int) : OvW S w (w.setCell ⟨b, k * 15, none⟩ (.int .i64 z)) := by
 have ht := row_thereN hr hK hk
 refine ⟨rfl, rfl, rfl, by simp, fun j _ hn => Below.heap_setCell _ _ _ _ (fun e => hn (e ▸ hS)), fun n av h => Ov.written (k := k) (u := leafT 0 ⟨#[]⟩) (av0 := .slice none 0 0) (fun _ => Ov.nil _) (fun j hj => Below.heap_setCell _ _ _ _ hj) (fun cur h => ⟨_, heap_setCell_same w b (k * 15) cur _ _ h, by simp⟩) (fun k' u' av' q => ?_) h⟩
 by_cases e : k' = k
 · subst e
   obtain ⟨kk, o, x, s, bb, f, r, g, l⟩ := u'
   refine ⟨.mk z o x s bb f r g l, Or.inl (fun i v hv => ?_)⟩
   by_cases h0 : i = 0
   · subst h0
     obtain ⟨y, hy⟩ := Option.isSome_iff_exists.1 (ht 0 (by omega)).1
     have : v = .int .i64 z := by simpa [nodeC, NodeT.kind] using hv.symm
     rw [this]
     exact World.cell?_setCell_same w _ _ hy
   · rw [World.cell?_setCell_other w _ _ _ (fun e => by have := congrArg Addr.off e; simp at this; omega)]
     refine q i v ?_
     rw [← hv]
     obtain ⟨j, rfl⟩ : ∃ j, i = j + 1 := ⟨i - 1, by omega⟩
     rfl
 · refine ⟨u', Or.inl (fun i v hv => ?_)⟩
   have hi : i < 15 := (List.getElem?_eq_some_iff.1 hv).1
   rw [World.cell?_setCell_other w _ _ _ (fun e2 => by have := congrArg Addr.off e2; simp at this; omega)]
   exact q i v hv
end Go.Proofs.YtdoeejhdenifpaaGreatDoor
/- Lists of one's own whose parts have nothing in common. -/
namespace Go.Proofs.YtdoeejhdenifpaaGreatDoor
open Go.RowKit Go.Sort
def SepIn (S : Nat → Prop) (w : World) : Nat → Value → List NodeT → Prop
 | 0, av, l => l = [] ∧ ∃ a, av = .slice a 0 0
 | n + 1, av, l => ∃ a cap, av = .slice a l.length cap ∧ l.length ≤ cap ∧ cap ≤ 9223372036854775807 ∧ (0 < cap → ∃ b cur K, ∃ T : Nat → Nat → Prop, a = some ⟨b, 0, none⟩ ∧ S b ∧ w.heap[b]? = some (.cells cur 49 (0, 0)) ∧ cur.size = K * 15 ∧ cap ≤ K ∧
     (∀ k c, T k c → S c ∧ c ≠ b) ∧ (∀ k k' c, k ≠ k' → T k c → ¬ T k' c) ∧
     ∀ k t, l[k]? = some t → ∃ av', (∀ i u, (nodeC t av')[i]? = some u → w.cell? ⟨b, k * 15 + i, none⟩ = some u) ∧ SepIn (T k) w n av' t.args)
theorem SepIn.own {w : World} : ∀ {S : Nat → Prop} {n : Nat} {av : Value} {l : List NodeT}, SepIn S w n av l → OwnIn S w n av l
 | _, 0, _, _, h => h
 | S, n + 1, _, _, h => by
  obtain ⟨a, cap, rfl, h1, h2, h3⟩ := h
  refine ⟨a, cap, rfl, h1, h2, fun hpos => ?_⟩
  obtain ⟨b, cur, K, T, rfl, hb, hr, hK, hcK, hT, _, hc⟩ := h3 hpos
  exact ⟨b, cur, K, rfl, hb, hr, hK, hcK, fun k t ht => let ⟨av', q1, q2⟩ := hc k t ht; ⟨av', q1, q2.own.keep (fun c hc _ => (hT k c hc).1) (fun _ _ _ => rfl)⟩⟩
theorem SepIn.keep {w w' : World} : ∀ {S : Nat → Prop} {n : Nat} {av : Value} {l : List NodeT}, (∀ b, S b → b < w.heap.size → w'.heap[b]? = w.heap[b]?) → SepIn S w n av l → SepIn S w' n av l
 | _, 0, _, _, _, h => h
 | S, n + 1, _, _, hk, h => by
  obtain ⟨a, cap, rfl, h1, h2, h3⟩ := h
  refine ⟨a, cap, rfl, h1, h2, fun hpos => ?_⟩
  obtain ⟨b, cur, K, T, rfl, hb, hr, hK, hcK, hT, hD, hc⟩ := h3 hpos
  have hlt : b < w.heap.size := (Array.getElem?_eq_some_iff.1 hr).1
  exact ⟨b, cur, K, T, rfl, hb, (hk b hb hlt).trans hr, hK, hcK, hT, hD, fun k t ht => let ⟨av', q1, q2⟩ := hc k t ht; ⟨av', fun i u hu => (World.cell?_of_block (w := w) (a := ⟨b, k * 15 + i, none⟩) (hk b hb hlt)).trans (q1 i u hu), q2.keep (fun c hc => hk c (hT k c hc).1)⟩⟩
theorem SepIn.weak {w : World} {S S' : Nat → Prop} (hS : ∀ b, S b → b < w.heap.size → S' b) : ∀ {n : Nat} {av : Value} {l : List NodeT}, SepIn S w n av l → SepIn (fun b => S' b) w n av l
 | 0, _, _, h => h
 | n + 1, _, _, h => by
  obtain ⟨a, cap, rfl, h1, h2, h3⟩ := h
  refine ⟨a, cap, rfl, h1, h2, fun hpos => ?_⟩
  obtain ⟨b, cur, K, T, rfl, hb, hr, hK, hcK, hT, hD, hc⟩ := h3 hpos
  have hlt : b < w.heap.size := (Array.getElem?_eq_some_iff.1 hr).1
  exact ⟨b, cur, K, fun k c => T k c ∧ c < w.heap.size, rfl, hS b hb hlt, hr, hK, hcK, fun k c h => ⟨hS c (hT k c h.1).1 h.2, (hT k c h.1).2⟩, fun k k' c hne h h' => hD k k' c hne h.1 h'.1, fun k t ht => let ⟨av', q1, q2⟩ := hc k t ht; ⟨av', q1, SepIn.weak (S := T k) (S' := fun c => T k c ∧ c < w.heap.size) (fun c h hl => ⟨h, hl⟩) q2⟩⟩
structure SRows (wr : World) (M : Nat) (g : NodeT → NodeT) (n : Nat) (ob : Option Nat) (l : List NodeT) (R : List (NodeT × Value)) : Prop where
 fst : R.map Prod.fst = l.map g
 args : ∃ lo hi : Nat → Nat, (∀ (k : Nat) (r : NodeT × Value), R[k]? = some r → ∃ n', n = n' + 1 ∧ SepIn (fun b => lo k ≤ b ∧ b < hi k) wr n' r.2 r.1.args) ∧ (∀ k, k < R.length → M ≤ lo k ∧ hi k ≤ wr.heap.size ∧ ∀ q, ob = some q → ¬ (lo k ≤ q ∧ q < hi k)) ∧ (∀ k k', k < k' → k' < R.length → hi k ≤ lo k')
structure SSt (w ws : World) (O M : Nat) (g : NodeT → NodeT) (n : Nat) (t2 : NodeT) (l : List NodeT) (wr : World) (i : Nat) (va : Option Addr) (vn vc : Nat) : Prop where
 lo : w.heap.size ≤ O ∧ O < M ∧ M = ws.heap.size ∧ M ≤ wr.heap.size
 box : NodeAt wr O 0 t2 va vn vc
 f14 : wr.frozen? ⟨O, 14, none⟩ = false
 none : i = 0 → vc = 0
 ob : ∀ q, (Value.slice va vn vc).ownBlock = some q → M ≤ q
 rows : ∃ R, wr.ownsRow 0 49 15 (.slice va vn vc) i (R.flatMap rowC) ∧ SRows wr M g n (Value.slice va vn vc).ownBlock (l.take i) R
 keep : ∀ b, b < M → b ≠ O → wr.heap[b]? = ws.heap[b]?
 xt : Xt w wr
theorem sep_start {w ws : World} {O : Nat} (g : NodeT → NodeT) (n : Nat) {t2 : NodeT} (l : List NodeT) (h1 : w.heap.size ≤ O) (h2 : O < ws.heap.size) (hb : NodeAt ws O 0 t2 none 0 0) (hf : ws.frozen? ⟨O, 14, none⟩ = false) (hx : Xt w ws) :
    SSt w ws O ws.heap.size g n t2 l ws 0 none 0 0 :=
 ⟨⟨h1, h2, rfl, Nat.le_refl _⟩, hb, hf, fun _ => rfl, fun q hq => (by cases hq), ⟨[], World.ownsRow_nil _ _ _ _, rfl, fun _ => 0, fun _ => 0, fun k r hk => (by simp at hk), fun k hk => (by simp at hk), fun k k' _ hk => (by simp at hk)⟩, fun _ _ _ => rfl, hx⟩
theorem SSt.lenR {R : List (NodeT × Value)} {g : NodeT → NodeT} {l : List NodeT} {i : Nat} (h : R.map Prod.fst = (l.take i).map g) (hi : i ≤ l.length) : R.length = i := by
 have := congrArg List.length h
 simp at this; omega
theorem sep_push {w ws wr w6 : World} {O M n n' i : Nat} {g : NodeT → NodeT} {t2 x : NodeT} {l : List NodeT} {va a' : Option Addr} {vn vc c' : Nat} (hn : n = n' + 1) (h : SSt w ws O M g n t2 l wr i va vn vc) (hx : l[i]? = some x) (hl : l.length ≤ 1099511627744) (h6 : Xt wr w6)
    (hA : SepIn (fun b => wr.heap.size ≤ b ∧ b < w6.heap.size) w6 n' (.slice a' (g x).args.length c') (g x).args) (wA : World)
    (hwA : w6.alloc (.cells #[.int .i64 (g x).kind, .int .i64 (g x).op, .float .f64 (g x).x, .string (g x).s, .bool (g x).b, .int .i64 (g x).f, .int .i64 (g x).ref.a.1, .int .i64 (g x).ref.a.2, .bool (g x).ref.cf, .bool (g x).ref.rf, .int .i64 (g x).to.a.1, .int .i64 (g x).to.a.2, .bool (g x).to.cf, .bool (g x).to.rf, .slice a' (g x).args.length c'] 49) = wA) :
    ∃ va' vn' vc' w7, (Builtin.append_ #[47, 47] 47 #[.slice va vn vc, .slice (some ⟨w6.heap.size, 0, none⟩) 1 1]).run Tryz.prog wA = .ok (.slice va' vn' vc') w7 ∧ (w6.cell? ⟨O, 14, none⟩ = some (.slice va vn vc) ∧ wA.cell? ⟨O, 14, none⟩ = some (.slice va vn vc) ∧ w7.cell? ⟨O, 14, none⟩ = some (.slice va vn vc)) ∧ w7.frozen? ⟨O, 14, none⟩ = false ∧
     (∀ b, b < wr.heap.size → (b < M ∧ b ≠ O ∨ b < w.heap.size) → w6.heap[b]? = wr.heap[b]? ∧ wA.heap[b]? = wr.heap[b]? ∧ w7.heap[b]? = wr.heap[b]? ∧ (w7.setCell ⟨O, 14, none⟩ (.slice va' vn' vc')).heap[b]? = wr.heap[b]?) ∧
     (∀ b, wr.heap.size ≤ b → b < wA.heap.size → w7.heap[b]? = wA.heap[b]? ∧ (w7.setCell ⟨O, 14, none⟩ (.slice va' vn' vc')).heap[b]? = wA.heap[b]?) ∧
     SSt w ws O M g n t2 l (w7.setCell ⟨O, 14, none⟩ (.slice va' vn' vc')) (i + 1) va' vn' vc' := by
 obtain ⟨i0, hi, hz0, hz1, hz2⟩ := info_parts infoNode
 obtain ⟨⟨hO1, hO2, hM, hMr⟩, hbox, hf14, hnone, hob, ⟨R, hown, hRf, lo, hi', hRa, hRb, hRc⟩, hkeep, hxt⟩ := h
 have hil : i < l.length := (List.getElem?_eq_some_iff.1 hx).1
 have hBr : O < wr.heap.size := by omega
 have h6s := h6.sz
 have hxtA : Xt wr wA := by rw [← hwA]; exact h6.alloc _
 have hAs : wA.heap.size = w6.heap.size + 1 := by rw [← hwA]; simp
 have hRl : R.length = i := SSt.lenR hRf (by omega)
 have hownA : wA.ownsRow 0 49 15 (.slice va vn vc) i (R.flatMap rowC) :=
  World.ownsRow.kept hown (row := none) ⟨hxtA.os, hxtA.tape, hxtA.output, hxtA.size, fun k hk _ => hxtA.block k hk⟩ (by
   cases (Value.slice va vn vc).ownBlock with
   | none => exact Or.inl rfl
   | some q => exact Or.inr (by simp))
 have hnews : ∀ (j : Nat) (u : Value), (nodeC (g x) (.slice a' (g x).args.length c'))[j]? = some u → wA.cell? ((⟨w6.heap.size, 0, none⟩ : Addr).add j) = some u := by
  rw [← hwA]
  exact news_at w6 (nodeC (g x) (.slice a' (g x).args.length c')) 49 (b := w6.heap.size) rfl
 obtain ⟨v', w7, hpush, hown7, hg7, hwh⟩ := run_append_where (P := Tryz.prog) wA 47 47 49 i0 _ 15 128 Tryz.underlying47 hi hz0 hz1 hz2 rfl (by decide) (.slice va vn vc) i (R.flatMap rowC) hownA ⟨w6.heap.size, 0, none⟩ 1 1 (nodeC (g x) (.slice a' (g x).args.length c')) rfl hnews (nodeC_one _ _ rfl) (by unfold maxLen; omega) (by omega)
 obtain ⟨va', vc', rfl, hvc1, hvc2⟩ := ownsRow_base hown7
 have hobl : ∀ q, (Value.slice va vn vc).ownBlock = some q → q < wr.heap.size := fun q hq => (World.ownsRow.lt hown q hq).2
 have hob' : ∀ q, (Value.slice va' (i + 1) vc').ownBlock = some q → M ≤ q ∧ q < w7.heap.size := by
  intro q hq
  have hlt := (World.ownsRow.lt hown7 q hq).2
  rcases hwh with e | e
  · rw [e] at hq; exact ⟨hob q hq, hlt⟩
  · have := e q hq; exact ⟨by omega, hlt⟩
 have hx7 : Xt w w7 := (hxt.trans hxtA).grownB hg7 (fun m hm => by have := hob m hm; omega)
 have hn0 : (Value.slice va vn vc).ownBlock ≠ some O := fun e => by have := hob _ e; omega
 have k7h : ∀ b, b < wr.heap.size → (Value.slice va vn vc).ownBlock ≠ some b → w7.heap[b]? = wr.heap[b]? := fun b hb hne =>
  (hg7.block b (by omega) (fun e => hne e.symm)).trans (hxtA.block b hb)
 have k7 : ∀ b o, b < wr.heap.size → (Value.slice va vn vc).ownBlock ≠ some b → w7.cell? ⟨b, o, none⟩ = wr.cell? ⟨b, o, none⟩ := fun b o hb hne =>
  World.cell?_of_block (w := wr) (a := ⟨b, o, none⟩) (k7h b hb hne)
 have hc14 := (k7 O 14 hBr hn0).trans hbox.c14
 have hcell : ∀ o v, o ≠ 14 → wr.cell? ⟨O, o, none⟩ = some v → (w7.setCell ⟨O, 14, none⟩ (.slice va' (i + 1) vc')).cell? ⟨O, o, none⟩ = some v := fun o v ho hv =>
  (World.cell?_setCell_other w7 _ _ _ (by intro e; cases e; exact ho rfl)).trans ((k7 _ o hBr hn0).trans hv)
 have hf7 : w7.frozen? ⟨O, 14, none⟩ = false :=
  (World.frozen?_of_block (w := wr) (a := ⟨O, 14, none⟩) (k7h _ hBr hn0)).trans hf14
 have k8 : ∀ b, b < wr.heap.size → b ≠ O → (Value.slice va vn vc).ownBlock ≠ some b → (w7.setCell ⟨O, 14, none⟩ (.slice va' (i + 1) vc')).heap[b]? = wr.heap[b]? := fun b hb hne hob =>
  (Below.heap_setCell _ _ _ _ hne).trans (k7h b hb hob)
 have hsz7 : M ≤ w7.heap.size := by have := hg7.size; omega
 refine ⟨va', i + 1, vc', w7, hpush, ⟨((h6.cells).1 _ _ hBr).trans hbox.c14, ((hxtA.cells).1 _ _ hBr).trans hbox.c14, hc14⟩, hf7, fun b hb hor => ?_, fun b hb hl => ?_, ⟨⟨hO1, hO2, hM, by simpa using hsz7⟩, ?_, ?_, fun e => by omega, fun q hq => (hob' q hq).1, ?_, fun b hb hne => (k8 b (by omega) hne (fun e => by have := hob b e; omega)).trans (hkeep b hb hne), hx7.grownB (setCell_grown _ _ _ _) (fun m hm => by cases hm; exact hO1)⟩⟩
 · have hbM : b < M := by rcases hor with h | h <;> omega
   have hbO : b ≠ O := by rcases hor with h | h <;> omega
   exact ⟨h6.block b hb, hxtA.block b hb, k7h b hb (fun e => by have := hob b e; omega), k8 b hb hbO (fun e => by have := hob b e; omega)⟩
 · have e7 : w7.heap[b]? = wA.heap[b]? := hg7.block b hl (fun e => by have := hobl b e.symm; omega)
   exact ⟨e7, (Below.heap_setCell _ _ _ _ (by show b ≠ O; omega)).trans e7⟩
 · refine ⟨?_, ?_, ?_, ?_, ?_, ?_, ?_, ?_, ?_, ?_, ?_, ?_, ?_, ?_, ?_⟩
   · exact hcell _ _ (by omega) hbox.c0
   · exact hcell _ _ (by omega) hbox.c1
   · exact hcell _ _ (by omega) hbox.c2
   · exact hcell _ _ (by omega) hbox.c3
   · exact hcell _ _ (by omega) hbox.c4
   · exact hcell _ _ (by omega) hbox.c5
   · exact hcell _ _ (by omega) hbox.c6
   · exact hcell _ _ (by omega) hbox.c7
   · exact hcell _ _ (by omega) hbox.c8
   · exact hcell _ _ (by omega) hbox.c9
   · exact hcell _ _ (by omega) hbox.c10
   · exact hcell _ _ (by omega) hbox.c11
   · exact hcell _ _ (by omega) hbox.c12
   · exact hcell _ _ (by omega) hbox.c13
   · rw [Nat.zero_add]; exact World.cell?_setCell_same' w7 _ _ (by rw [hc14]; rfl)
 · simp [hf7]
 · have e7 : (R ++ [(g x, Value.slice a' (g x).args.length c')]).flatMap rowC = R.flatMap rowC ++ nodeC (g x) (.slice a' (g x).args.length c') := by simp [rowC]
   have hobn : ∀ b, b < w6.heap.size → (Value.slice va vn vc).ownBlock ≠ some b → (Value.slice va' (i + 1) vc').ownBlock ≠ some b := by
    intro b hb hne e
    rcases hwh with e' | e'
    · rw [e'] at e; exact hne e
    · have := e' b e; omega
   refine ⟨R ++ [(g x, .slice a' (g x).args.length c')], ?_, ?_, fun k => if k < i then lo k else wr.heap.size, fun k => if k < i then hi' k else w6.heap.size, ?_, ?_, ?_⟩
   · rw [e7]
     exact ownsRow_setCell_other hown7 (a := ⟨O, 14, none⟩) (fun e => by have := (hob' _ e).1; simp at this; omega) _
   · rw [List.map_append, hRf, List.take_add_one, hx]; simp
   · intro k r hk
     by_cases hkl : k < R.length
     · rw [List.getElem?_append_left hkl] at hk
       obtain ⟨n1, hn1', hAk⟩ := hRa k r hk
       obtain ⟨b1, b2, b3⟩ := hRb k hkl
       have hki : k < i := by omega
       simp only [hki, if_true]
       exact ⟨n1, hn1', hAk.keep (fun b hb hlt => k8 b hlt (by omega) (fun e => b3 b e hb))⟩
     · rw [List.getElem?_append_right (by omega)] at hk
       have hk0 : k - R.length = 0 := by
        rcases Nat.eq_zero_or_pos (k - R.length) with e | e
        · exact e
        · rw [List.getElem?_eq_none (by simp; omega)] at hk; cases hk
       rw [hk0] at hk
       simp only [List.getElem?_cons_zero, Option.some.injEq] at hk
       subst hk
       have hki : ¬ k < i := by omega
       simp only [hki, if_false]
       refine ⟨n', hn, hA.keep (fun b hb hlt => ?_)⟩
       refine (Below.heap_setCell _ _ _ _ (by show b ≠ O; omega)).trans ((hg7.block b (by omega) (fun e => by have := hobl b e.symm; omega)).trans ?_)
       rw [← hwA]
       exact Below.heap_alloc w6 _ b hlt
   · intro k hk
     have hsz8 : (w7.setCell ⟨O, 14, none⟩ (.slice va' (i + 1) vc')).heap.size = w7.heap.size := by simp
     have hs7 := hg7.size
     by_cases hki : k < i
     · obtain ⟨b1, b2, b3⟩ := hRb k (by omega)
       simp only [hki, if_true]
       refine ⟨b1, by omega, fun q hq hb => ?_⟩
       rcases hwh with e' | e'
       · rw [e'] at hq; exact b3 q hq hb
       · have := e' q hq; omega
     · simp only [hki, if_false]
       refine ⟨hMr, by omega, fun q hq hb => ?_⟩
       rcases hwh with e' | e'
       · rw [e'] at hq; have := hobl q hq; omega
       · have := e' q hq; omega
   · intro k k' hkk hk'
     simp only [List.length_append, List.length_cons, List.length_nil] at hk'
     by_cases hki' : k' < i
     · have hki : k < i := by omega
       simp only [hki, hki', if_true]
       exact hRc k k' hkk (by omega)
     · have hki : k < i := by omega
       obtain ⟨b1, b2, b3⟩ := hRb k (by omega)
       simp only [hki, hki', if_true, if_false]
       exact b2
theorem sep_end {w ws wr w' : World} {O M n : Nat} {g : NodeT → NodeT} {t2 : NodeT} {l : List NodeT} {va : Option Addr} {vn vc : Nat} (h : SSt w ws O M g n t2 l wr l.length va vn vc) (hk : ∀ b, M ≤ b → b < wr.heap.size → w'.heap[b]? = wr.heap[b]?) :
    vn = l.length ∧ l.length ≤ vc ∧ vc ≤ 9223372036854775807 ∧ ∀ c, c = vc ∨ c = l.length → SepIn (fun b => M ≤ b ∧ b < wr.heap.size) w' n (.slice va l.length c) (l.map g) := by
 obtain ⟨_, _, _, hnone, hob, ⟨R, hown, hRf, lo, hi', hRa, hRb, hRc⟩, _⟩ := h
 obtain ⟨a2, c2, e, h1, h2⟩ := ownsRow_base hown
 cases e
 refine ⟨rfl, h1, h2, fun c hc => ?_⟩
 rw [List.take_length] at hRf
 have hRl : R.length = l.length := by have := congrArg List.length hRf; simpa using this
 have hcl : (l.map g).length = l.length := by simp
 have hcv : l.length ≤ c ∧ c ≤ vc := by rcases hc with e | e <;> omega
 cases n with
 | zero =>
  cases R with
  | nil =>
   have : l = [] := List.eq_nil_of_length_eq_zero (by rw [← hRl]; rfl)
   subst this
   have hv := hnone rfl
   have hc0 : c = 0 := by omega
   subst hc0
   exact ⟨rfl, va, rfl⟩
  | cons r R => obtain ⟨n', hn, _⟩ := hRa 0 r rfl; cases hn
 | succ n =>
  refine ⟨va, c, by rw [hcl], by rw [hcl]; omega, by omega, fun hpos => ?_⟩
  rcases hown.2 with ⟨e0, h0⟩ | ⟨q, cap, cur, e, _, hgc, _, _, hgs, _⟩
  · simp only [Value.slice.injEq] at e0; omega
  · cases e
    have hg2 := hob q rfl
    have hgl := (World.ownsRow.lt hown q rfl).2
    refine ⟨q, cur, vc, fun k c => k < R.length ∧ lo k ≤ c ∧ c < hi' k, rfl, ⟨hg2, hgl⟩, (hk q hg2 hgl).trans hgc, hgs, hcv.2, fun k c hc => ?_, fun k k' c hne h h' => ?_, fun k t ht => ?_⟩
    · obtain ⟨b1, b2, b3⟩ := hRb k hc.1
      exact ⟨⟨by omega, by omega⟩, fun e => b3 q rfl (by subst e; exact hc.2)⟩
    · rcases Nat.lt_or_gt_of_ne hne with e | e
      · have := hRc k k' e h'.1; omega
      · have := hRc k' k e h.1; omega
    rw [← hRf, List.getElem?_map] at ht
    obtain ⟨r, hr, rfl⟩ := Option.map_eq_some_iff.1 ht
    obtain ⟨n', hn', hA⟩ := hRa k r hr
    cases hn'
    refine ⟨r.2, fun i u hu => ?_, ((hA.keep (w' := w') (fun b hb hlt => hk b (by have := (hRb k (List.getElem?_eq_some_iff.1 hr).1).1; omega) hlt)).weak (fun b hb _ => ⟨(List.getElem?_eq_some_iff.1 hr).1, hb.1, hb.2⟩))⟩
    have hi : i < 15 := (List.getElem?_eq_some_iff.1 hu).1
    have hf := rflat_at rowC 15 rowC_len R k i r hr hi
    have := World.ownsRow.cells hown (g := q) rfl (k * 15 + i) u (hf.trans hu)
    rw [World.cell?_of_block (w := wr) (a := ⟨q, k * 15 + i, none⟩) (hk q hg2 hgl)]
    rw [← this, Addr.add_lit, Nat.zero_add]
end Go.Proofs.YtdoeejhdenifpaaGreatDoor
/- move: where a line is brought; where those from one to another one are. -/
namespace Go.Proofs.YtdoeejhdenifpaaGreatDoor
open Go.RowKit Go.Sort
structure LinT where
 at_ : Int
 n : Int
 many : Int
abbrev linV (l : LinT) : Value := .agg #[.int .i64 l.at_, .int .i64 l.n, .int .i64 l.many]
def lineF (l : LinT) (k : Int) : Int × Bool :=
 if k < l.at_ then (k, true) else if 0 ≤ l.n then (wrap64 (k + l.n), decide (wrap64 (k + l.n) ≤ l.many)) else (wrap64 (k + l.n), decide (wrap64 (l.at_ - l.n) ≤ k))
set_option maxRecDepth 100000 in
set_option maxHeartbeats 2000000 in
theorem line_any (l : LinT) (k : Int) (w : World) :
    Calls Tryz.prog 147 #[linV l, .int .i64 k] w fun e w' => e = .returned (.tuple #[.int .i64 (lineF l k).1, .bool (lineF l k).2]) ∧ Gr w w' := by
 obtain ⟨a, n, m⟩ := l
 unfold lineF
 simp only
 obtain ⟨w0, hw0⟩ : ∃ w0, w.alloc (.cells #[.int .i64 a, .int .i64 n, .int .i64 m] 147) = w0 := ⟨_, rfl⟩
 have hr : w0.heap[w.heap.size]? = some (.cells #[.int .i64 a, .int .i64 n, .int .i64 m] 147 (0, 0)) := by rw [← hw0]; exact (MapKept.heap_alloc w _).1
 have c0 : w0.cell? ⟨w.heap.size, 0, none⟩ = some (.int .i64 a) := by simp [World.cell?, hr]
 have c1 : w0.cell? ⟨w.heap.size, 1, none⟩ = some (.int .i64 n) := by simp [World.cell?, hr]
 have c2 : w0.cell? ⟨w.heap.size, 2, none⟩ = some (.int .i64 m) := by simp [World.cell?, hr]
 have HG : Hid (Gr w w0) := by unfold Hid; rw [← hw0]; exact (Gr.refl _).alloc _
 clear hr
 by_cases h1 : k < a
 · rw [if_pos h1]
   go_enter Tryz.func147, Tryz.ntmps147
   go_wp2_with fail
   go_ret2
   exact ⟨rfl, HG.out⟩
 rw [if_neg h1]
 by_cases h2 : 0 ≤ n
 · rw [if_pos h2]
   obtain ⟨s, hs⟩ : ∃ s, wrap64 (k + n) = s := ⟨_, rfl⟩
   go_enter Tryz.func147, Tryz.ntmps147
   go_wp2_with fail
   go_quiet (fail)
   go_wp2_with fail
   go_ret2
   exact ⟨by simp [hs], HG.out.drewN _⟩
 · rw [if_neg h2]
   obtain ⟨s, hs⟩ : ∃ s, wrap64 (k + n) = s := ⟨_, rfl⟩
   obtain ⟨q, hq⟩ : ∃ q, wrap64 (a - n) = q := ⟨_, rfl⟩
   go_enter Tryz.func147, Tryz.ntmps147
   go_wp2_with fail
   go_quiet (fail)
   go_wp2_with fail
   go_ret2
   exact ⟨by simp [hs, hq], HG.out.drewN _⟩
def spanG (l : LinT) : Nat → Int → Int → Int → Int × Int
 | 0, _, f, t => (f, t)
 | n + 1, k, f, t => if (lineF l k).2 = true then spanG l n (k + 1) (if f = 0 then (lineF l k).1 else f) (lineF l k).1 else spanG l n (k + 1) f t
def spanF (l : LinT) (a b : Int) : Int × Int × Bool := ((spanG l (b - a + 1).toNat a 0 0).1, (spanG l (b - a + 1).toNat a 0 0).2, decide (0 < (spanG l (b - a + 1).toNat a 0 0).1))
theorem spanG_step {l : LinT} {k b f t : Int} (h : k ≤ b) : spanG l (b - k + 1).toNat k f t = if (lineF l k).2 = true then spanG l (b - (k + 1) + 1).toNat (k + 1) (if f = 0 then (lineF l k).1 else f) (lineF l k).1 else spanG l (b - (k + 1) + 1).toNat (k + 1) f t := by
 have e : (b - k + 1).toNat = (b - (k + 1) + 1).toNat + 1 := by omega
 rw [e]; rfl
theorem spanG_end {l : LinT} {k b f t : Int} (h : b < k) : spanG l (b - k + 1).toNat k f t = (f, t) := by
 have e : (b - k + 1).toNat = 0 := by omega
 rw [e]; rfl
set_option maxRecDepth 100000 in
set_option maxHeartbeats 4000000 in
theorem span_any (l : LinT) (a b : Int) (w : World) (ha : -4611686018427387904 ≤ a) (hb : b ≤ 4611686018427387904) :
    Calls Tryz.prog 149 #[linV l, .int .i64 a, .int .i64 b] w fun e w' => e = .returned (.tuple #[.int .i64 (spanF l a b).1, .int .i64 (spanF l a b).2.1, .bool (spanF l a b).2.2]) ∧ Gr w w' := by
 obtain ⟨w0, hw0⟩ : ∃ w0, w.alloc (.cells #[.int .i64 l.at_, .int .i64 l.n, .int .i64 l.many] 147) = w0 := ⟨_, rfl⟩
 have hr : w0.heap[w.heap.size]? = some (.cells #[.int .i64 l.at_, .int .i64 l.n, .int .i64 l.many] 147 (0, 0)) := by rw [← hw0]; exact (MapKept.heap_alloc w _).1
 have c0 : w0.cell? ⟨w.heap.size, 0, none⟩ = some (.int .i64 l.at_) := by simp [World.cell?, hr]
 have c1 : w0.cell? ⟨w.heap.size, 1, none⟩ = some (.int .i64 l.n) := by simp [World.cell?, hr]
 have c2 : w0.cell? ⟨w.heap.size, 2, none⟩ = some (.int .i64 l.many) := by simp [World.cell?, hr]
 have HG : Hid (Gr w w0) := by unfold Hid; rw [← hw0]; exact (Gr.refl _).alloc _
 have hs0 : w0.heap.size = w.heap.size + 1 := by rw [← hw0]; simp
 unfold spanF
 obtain ⟨r, hr0⟩ : ∃ r, spanG l (b - a + 1).toNat a 0 0 = r := ⟨_, rfl⟩
 have HR := Lib.hid hr0
 rw [hr0]
 clear hr hr0
 go_enter Tryz.func149, Tryz.ntmps149
 go_wp2_with fail
 clear hw0
 go_loopw [9, 10, 11] (fun s9 s10 s11 wr => ∃ k f t : Int, -4611686018427387904 ≤ k ∧ s11 = .int .i64 k ∧ s9 = .int .i64 f ∧ s10 = .int .i64 t ∧ Hid (spanG l (b - k + 1).toNat k f t = r) ∧ Hid (Gr w0 wr)) (fun _ _ s11 _ => (b + 1 - intOf s11).toNat)
 case atStart => exact ⟨a, 0, 0, ha, rfl, rfl, rfl, HR, Gr.refl _⟩
 case round =>
  obtain ⟨k, f, t, hk, rfl, rfl, rfl, HS, HGr⟩ := hrel
  have k0 := ((HGr.out.xt.cells).1 w.heap.size 0 (by omega)).trans c0
  have k1 := ((HGr.out.xt.cells).1 w.heap.size 1 (by omega)).trans c1
  have k2 := ((HGr.out.xt.cells).1 w.heap.size 2 (by omega)).trans c2
  by_cases hlt : k ≤ b
  · have hst := HS.out
    rw [spanG_step hlt] at hst
    have HST := Lib.hid hst
    have HC := Lib.hid (line_any l k wr)
    generalize lineF l k = lf at HC HST
    obtain ⟨m, ok⟩ := lf
    simp only at HC HST
    have hadd : wrap64 (k + 1) = k + 1 := by unfold wrap64; omega
    clear hst
    go_wp2_with fail
    refine (HC.out).mono ?_
    rintro e w2 ⟨rfl, hg2⟩
    have HG2 := Lib.hid (HGr.out.trans hg2)
    clear hg2 k0 k1 k2
    cases ok
    · have HN : Hid (spanG l (b - (k + 1) + 1).toNat (k + 1) f t = r) := by have h := HST.out; unfold Hid; simpa using h
      go_wp2_with fail
      go_roundw
      case rel => exact ⟨k + 1, f, t, by omega, rfl, rfl, rfl, HN, HG2.out⟩
      case measure => simp [intOf]; omega
    · by_cases hf : f = 0
      · subst hf
        have HN : Hid (spanG l (b - (k + 1) + 1).toNat (k + 1) m m = r) := by have h := HST.out; unfold Hid; simpa using h
        go_wp2_with fail
        go_roundw
        case rel => exact ⟨k + 1, m, m, by omega, rfl, rfl, rfl, HN, HG2.out⟩
        case measure => simp [intOf]; omega
      · have hfb : (f == 0) = false := by simpa using hf
        have HN : Hid (spanG l (b - (k + 1) + 1).toNat (k + 1) f m = r) := by have h := HST.out; unfold Hid; simpa [hf] using h
        go_wp2_with fail
        go_roundw
        case rel => exact ⟨k + 1, f, m, by omega, rfl, rfl, rfl, HN, HG2.out⟩
        case measure => simp [intOf]; omega
  · have hE := HS.out
    rw [spanG_end (by omega)] at hE
    have HE := Lib.hid hE
    clear hE
    go_wp2_with fail
    refine bodyPost_ret (v := .tuple #[.int .i64 f, .int .i64 t, .bool (decide (0 < f))]) (by simp [results]) rfl ?_
    exact ⟨by rw [← HE.out], HG.out.trans HGr.out⟩
end Go.Proofs.YtdoeejhdenifpaaGreatDoor
/- move: the roads of lines put in or taken out (closures). -/
namespace Go.Proofs.YtdoeejhdenifpaaGreatDoor
open Go.RowKit Go.Sort
theorem rowX {w w' : World} (hx : Xt w w') {b : Nat} {o : Obj} (h : w.heap[b]? = some o) : w'.heap[b]? = some o := (hx.block b (Array.getElem?_eq_some_iff.1 h).1).trans h
structure LinAt (w : World) (pc pl : Nat) (cols : Bool) (l : LinT) : Prop where
 c : w.cell? ⟨pc, 0, none⟩ = some (.bool cols)
 c0 : w.cell? ⟨pl, 0, none⟩ = some (.int .i64 l.at_)
 c1 : w.cell? ⟨pl, 1, none⟩ = some (.int .i64 l.n)
 c2 : w.cell? ⟨pl, 2, none⟩ = some (.int .i64 l.many)
theorem LinAt.xt {w w' : World} {pc pl : Nat} {cols : Bool} {l : LinT} (h : LinAt w pc pl cols l) (hx : Xt w w') : LinAt w' pc pl cols l :=
 ⟨((hx.cells).1 _ _ (World.block_lt_of_cell? w _ h.c)).trans h.c, ((hx.cells).1 _ _ (World.block_lt_of_cell? w _ h.c0)).trans h.c0, ((hx.cells).1 _ _ (World.block_lt_of_cell? w _ h.c1)).trans h.c1, ((hx.cells).1 _ _ (World.block_lt_of_cell? w _ h.c2)).trans h.c2⟩
def cellF (cols : Bool) (l : LinT) (a : Int × Int) : (Int × Int) × Bool := if cols = true then (((lineF l a.1).1, a.2), (lineF l a.1).2) else ((a.1, (lineF l a.2).1), (lineF l a.2).2)
theorem cells2 {w : World} {b : Nat} {u v : Value} {T : TypeId} (h : w.heap[b]? = some (.cells #[u, v] T (0, 0))) : w.cell? ⟨b, 0, none⟩ = some u ∧ w.cell? ⟨b, 1, none⟩ = some v ∧ w.frozen? ⟨b, 0, none⟩ = false ∧ w.frozen? ⟨b, 1, none⟩ = false := by
 refine ⟨?_, ?_, ?_, ?_⟩ <;> simp [World.cell?, World.frozen?, h]
set_option maxRecDepth 100000 in
set_option maxHeartbeats 4000000 in
theorem road1_any (cols : Bool) (l : LinT) (a : Int × Int) (pc pl : Nat) (w : World) (h : LinAt w pc pl cols l) :
    Calls Tryz.prog 146 #[.agg #[.int .i64 a.1, .int .i64 a.2], .pointer (some ⟨pc, 0, none⟩), .pointer (some ⟨pl, 0, none⟩)] w fun e w' => e = .returned (.tuple #[.agg #[.int .i64 (cellF cols l a).1.1, .int .i64 (cellF cols l a).1.2], .bool (cellF cols l a).2]) ∧ Xt w w' := by
 obtain ⟨B, hB⟩ : ∃ B, w.heap.size = B := ⟨_, rfl⟩
 obtain ⟨w0, hw0⟩ : ∃ w0, w.alloc (.cells #[.int .i64 a.1, .int .i64 a.2] 24) = w0 := ⟨_, rfl⟩
 have hs0 : w0.heap.size = B + 1 := by rw [← hw0, ← hB]; simp
 obtain ⟨w1, hw1⟩ : ∃ w1, w0.alloc (.cells #[.int .i64 0, .int .i64 0] 24) = w1 := ⟨_, rfl⟩
 have hx1 : Xt w w1 := by rw [← hw1, ← hw0]; exact ((Xt.refl w).alloc _).alloc _
 have HB : Hid (w1.heap[B]? = some (.cells #[.int .i64 a.1, .int .i64 a.2] 24 (0, 0))) := by
  unfold Hid; rw [← hw1]; exact (Below.heap_alloc w0 _ _ (by omega)).trans (by rw [← hw0, ← hB]; exact (MapKept.heap_alloc w _).1)
 have HR : Hid (w1.heap[B + 1]? = some (.cells #[.int .i64 0, .int .i64 0] 24 (0, 0))) := by
  unfold Hid; rw [← hw1, ← hs0]; exact (MapKept.heap_alloc w0 _).1
 obtain ⟨c, c0, c1, c2⟩ := h.xt hx1
 obtain ⟨b0, b1, f0, f1⟩ := cells2 HB.out
 have HX1 := Lib.hid hx1
 have hBB := Lib.hid hB
 clear hx1 h
 unfold cellF
 cases cols
 ·
  have HC := Lib.hid (line_any l a.2)
  generalize lineF l a.2 = r at HC ⊢
  obtain ⟨m, ok⟩ := r
  go_enter Tryz.func146, Tryz.ntmps146
  go_wp2_with fail
  refine (HC.out _).mono ?_
  rintro e w2 ⟨rfl, hg2⟩
  have hb2 := rowX hg2.xt HB.out
  have hr2 := rowX hg2.xt HR.out
  obtain ⟨b0, b1, f0, f1⟩ := cells2 hb2
  obtain ⟨r0, r1, g0, g1⟩ := cells2 hr2
  have HX2 := Lib.hid (HX1.out.trans hg2.xt)
  obtain ⟨w3, hw3⟩ : ∃ w3, w2.setCell ⟨B, 1, none⟩ (.int .i64 m) = w3 := ⟨_, rfl⟩
  have hb3 : w3.heap[B]? = some (.cells #[.int .i64 a.1, .int .i64 m] 24 (0, 0)) := by rw [← hw3]; exact setCell_row hb2 1 _
  have hr3 : w3.heap[B + 1]? = some (.cells #[.int .i64 0, .int .i64 0] 24 (0, 0)) := by rw [← hw3]; exact (Below.heap_setCell _ _ _ _ (by simp)).trans hr2
  have hx3 : Xt w w3 := by rw [← hw3]; exact HX2.out.grownB (setCell_grown _ _ _ _) (fun q hq => by cases hq; rw [hBB.out]; exact Nat.le_refl _)
  obtain ⟨d0, d1, _, _⟩ := cells2 hb3
  obtain ⟨e0, e1, g2, g3⟩ := cells2 hr3
  have hrow : ((w3.setCell ⟨B + 1, 0, none⟩ (.int .i64 a.1)).setCell ⟨B + 1, 1, none⟩ (.int .i64 m)).heap[B + 1]? = some (.cells #[.int .i64 a.1, .int .i64 m] 24 (0, 0)) := setCell_row (setCell_row hr3 0 _) 1 _
  have hxe : Xt w ((w3.setCell ⟨B + 1, 0, none⟩ (.int .i64 a.1)).setCell ⟨B + 1, 1, none⟩ (.int .i64 m)) := (hx3.grownB (setCell_grown _ _ _ _) (fun q hq => by cases hq; rw [hBB.out]; omega)).grownB (setCell_grown _ _ _ _) (fun q hq => by cases hq; rw [hBB.out]; omega)
  clear hw0 hw1 c c0 c1 c2 hb2 hr2 hg2
  go_wp2_with fail
  (try simp only [Exit.inBlock, Exit.then])
  refine bodyPost_ret (v := .tuple #[.agg #[.int .i64 a.1, .int .i64 m], .bool ok]) ?_ rfl ⟨rfl, hxe⟩
  rw [results_cell_tmp rfl]
  show ((asAddr (.pointer (some ⟨B + 1, 0, none⟩))).run _ _).andThen _ = _
  simp only [asAddr, Sem.run_pure, Result.andThen_ok, run_loadVar_row _ _ _ 24 _ _ _ hrow Tryz.underlying24 rfl (by kernel_rfl)]
  rfl
 ·
  have HC := Lib.hid (line_any l a.1)
  generalize lineF l a.1 = r at HC ⊢
  obtain ⟨m, ok⟩ := r
  go_enter Tryz.func146, Tryz.ntmps146
  go_wp2_with fail
  refine (HC.out _).mono ?_
  rintro e w2 ⟨rfl, hg2⟩
  have hb2 := rowX hg2.xt HB.out
  have hr2 := rowX hg2.xt HR.out
  obtain ⟨b0, b1, f0, f1⟩ := cells2 hb2
  obtain ⟨r0, r1, g0, g1⟩ := cells2 hr2
  have HX2 := Lib.hid (HX1.out.trans hg2.xt)
  obtain ⟨w3, hw3⟩ : ∃ w3, w2.setCell ⟨B, 0, none⟩ (.int .i64 m) = w3 := ⟨_, rfl⟩
  have hb3 : w3.heap[B]? = some (.cells #[.int .i64 m, .int .i64 a.2] 24 (0, 0)) := by rw [← hw3]; exact setCell_row hb2 0 _
  have hr3 : w3.heap[B + 1]? = some (.cells #[.int .i64 0, .int .i64 0] 24 (0, 0)) := by rw [← hw3]; exact (Below.heap_setCell _ _ _ _ (by simp)).trans hr2
  have hx3 : Xt w w3 := by rw [← hw3]; exact HX2.out.grownB (setCell_grown _ _ _ _) (fun q hq => by cases hq; rw [hBB.out]; exact Nat.le_refl _)
  obtain ⟨d0, d1, _, _⟩ := cells2 hb3
  obtain ⟨e0, e1, g2, g3⟩ := cells2 hr3
  have hrow : ((w3.setCell ⟨B + 1, 0, none⟩ (.int .i64 m)).setCell ⟨B + 1, 1, none⟩ (.int .i64 a.2)).heap[B + 1]? = some (.cells #[.int .i64 m, .int .i64 a.2] 24 (0, 0)) := setCell_row (setCell_row hr3 0 _) 1 _
  have hxe : Xt w ((w3.setCell ⟨B + 1, 0, none⟩ (.int .i64 m)).setCell ⟨B + 1, 1, none⟩ (.int .i64 a.2)) := (hx3.grownB (setCell_grown _ _ _ _) (fun q hq => by cases hq; rw [hBB.out]; omega)).grownB (setCell_grown _ _ _ _) (fun q hq => by cases hq; rw [hBB.out]; omega)
  clear hw0 hw1 c c0 c1 c2 hb2 hr2 hg2
  go_wp2_with fail
  (try simp only [Exit.inBlock, Exit.then])
  refine bodyPost_ret (v := .tuple #[.agg #[.int .i64 m, .int .i64 a.2], .bool ok]) ?_ rfl ⟨rfl, hxe⟩
  rw [results_cell_tmp rfl]
  show ((asAddr (.pointer (some ⟨B + 1, 0, none⟩))).run _ _).andThen _ = _
  simp only [asAddr, Sem.run_pure, Result.andThen_ok, run_loadVar_row _ _ _ 24 _ _ _ hrow Tryz.underlying24 rfl (by kernel_rfl)]
  rfl
end Go.Proofs.YtdoeejhdenifpaaGreatDoor
/- move: the areas' road of lines put in or taken out (made by mkm3.py). -/
namespace Go.Proofs.YtdoeejhdenifpaaGreatDoor
open Go.RowKit Go.Sort
structure ArT where
 a : Int
 b : Int
 c : Int
 d : Int
abbrev arT (x : ArT) : Value := .agg #[.int .i64 x.a, .int .i64 x.b, .int .i64 x.c, .int .i64 x.d]
def areaF (cols : Bool) (l : LinT) (x : ArT) : ArT × Bool := if cols = true then (⟨(spanF l x.a x.c).1, x.b, (spanF l x.a x.c).2.1, x.d⟩, (spanF l x.a x.c).2.2) else (⟨x.a, (spanF l x.b x.d).1, x.c, (spanF l x.b x.d).2.1⟩, (spanF l x.b x.d).2.2)
def ArT.ok (x : ArT) : Prop := -4611686018427387904 ≤ x.a ∧ -4611686018427387904 ≤ x.b ∧ x.c ≤ 4611686018427387904 ∧ x.d ≤ 4611686018427387904
theorem cells4 {w : World} {b : Nat} {u v x y : Value} {T : TypeId} (h : w.heap[b]? = some (.cells #[u, v, x, y] T (0, 0))) : (w.cell? ⟨b, 0, none⟩ = some u ∧ w.cell? ⟨b, 1, none⟩ = some v ∧ w.cell? ⟨b, 2, none⟩ = some x ∧ w.cell? ⟨b, 3, none⟩ = some y) ∧ w.frozen? ⟨b, 0, none⟩ = false ∧ w.frozen? ⟨b, 1, none⟩ = false ∧ w.frozen? ⟨b, 2, none⟩ = false ∧ w.frozen? ⟨b, 3, none⟩ = false := by
 refine ⟨⟨?_, ?_, ?_, ?_⟩, ?_, ?_, ?_, ?_⟩ <;> simp [World.cell?, World.frozen?, h]
set_option maxRecDepth 100000 in
set_option maxHeartbeats 4000000 in
theorem road2_any (cols : Bool) (l : LinT) (x : ArT) (hx : x.ok) (pc pl : Nat) (w : World) (h : LinAt w pc pl cols l) :
    Calls Tryz.prog 148 #[arT x, .pointer (some ⟨pc, 0, none⟩), .pointer (some ⟨pl, 0, none⟩)] w fun e w' => e = .returned (.tuple #[arT (areaF cols l x).1, .bool (areaF cols l x).2]) ∧ Xt w w' := by
 obtain ⟨B, hB⟩ : ∃ B, w.heap.size = B := ⟨_, rfl⟩
 obtain ⟨w0, hw0⟩ : ∃ w0, w.alloc (.cells #[.int .i64 x.a, .int .i64 x.b, .int .i64 x.c, .int .i64 x.d] 26) = w0 := ⟨_, rfl⟩
 have hs0 : w0.heap.size = B + 1 := by rw [← hw0, ← hB]; simp
 obtain ⟨w1, hw1⟩ : ∃ w1, w0.alloc (.cells #[.int .i64 0, .int .i64 0, .int .i64 0, .int .i64 0] 26) = w1 := ⟨_, rfl⟩
 have hx1 : Xt w w1 := by rw [← hw1, ← hw0]; exact ((Xt.refl w).alloc _).alloc _
 have HB : Hid (w1.heap[B]? = some (.cells #[.int .i64 x.a, .int .i64 x.b, .int .i64 x.c, .int .i64 x.d] 26 (0, 0))) := by
  unfold Hid; rw [← hw1]; exact (Below.heap_alloc w0 _ _ (by omega)).trans (by rw [← hw0, ← hB]; exact (MapKept.heap_alloc w _).1)
 have HR : Hid (w1.heap[B + 1]? = some (.cells #[.int .i64 0, .int .i64 0, .int .i64 0, .int .i64 0] 26 (0, 0))) := by
  unfold Hid; rw [← hw1, ← hs0]; exact (MapKept.heap_alloc w0 _).1
 obtain ⟨c, c0, c1, c2⟩ := h.xt hx1
 obtain ⟨⟨b0, b1, b2, b3⟩, f0, f1, f2, f3⟩ := cells4 HB.out
 obtain ⟨q1, q2, q3, q4⟩ := hx
 have HX1 := Lib.hid hx1
 have hBB := Lib.hid hB
 clear hx1 h
 unfold areaF
 cases cols
 · have HC := Lib.hid (fun w => span_any l x.b x.d w (by omega) (by omega))
   generalize spanF l x.b x.d = r at HC ⊢
   obtain ⟨m1, m2, ok⟩ := r
   go_enter Tryz.func148, Tryz.ntmps148
   go_wp2_with fail
   refine (HC.out _).mono ?_
   rintro e w2 ⟨rfl, hg2⟩
   have hb2 := rowX hg2.xt HB.out
   have hr2 := rowX hg2.xt HR.out
   obtain ⟨⟨b0, b1, b2, b3⟩, f0, f1, f2, f3⟩ := cells4 hb2
   obtain ⟨⟨r0, r1, r2, r3⟩, g0, g1, g2, g3⟩ := cells4 hr2
   have HX2 := Lib.hid (HX1.out.trans hg2.xt)
   obtain ⟨w3, hw3⟩ : ∃ w3, (w2.setCell ⟨B, 1, none⟩ (.int .i64 m1)).setCell ⟨B, 3, none⟩ (.int .i64 m2) = w3 := ⟨_, rfl⟩
   have hb3 : w3.heap[B]? = some (.cells #[.int .i64 x.a, .int .i64 m1, .int .i64 x.c, .int .i64 m2] 26 (0, 0)) := by rw [← hw3]; exact setCell_row (setCell_row hb2 1 _) 3 _
   have hr3 : w3.heap[B + 1]? = some (.cells #[.int .i64 0, .int .i64 0, .int .i64 0, .int .i64 0] 26 (0, 0)) := by rw [← hw3]; exact (Below.heap_setCell _ _ _ _ (by simp)).trans ((Below.heap_setCell _ _ _ _ (by simp)).trans hr2)
   have hx3 : Xt w w3 := by rw [← hw3]; exact (HX2.out.grownB (setCell_grown _ _ _ _) (fun q hq => by cases hq; rw [hBB.out]; exact Nat.le_refl _)).grownB (setCell_grown _ _ _ _) (fun q hq => by cases hq; rw [hBB.out]; exact Nat.le_refl _)
   obtain ⟨⟨d0, d1, d2, d3⟩, _⟩ := cells4 hb3
   obtain ⟨⟨e0, e1, e2, e3⟩, h0, h1, h2, h3⟩ := cells4 hr3
   have hrow : ((((w3.setCell ⟨B + 1, 0, none⟩ (.int .i64 x.a)).setCell ⟨B + 1, 1, none⟩ (.int .i64 m1)).setCell ⟨B + 1, 2, none⟩ (.int .i64 x.c)).setCell ⟨B + 1, 3, none⟩ (.int .i64 m2)).heap[B + 1]? = some (.cells #[.int .i64 x.a, .int .i64 m1, .int .i64 x.c, .int .i64 m2] 26 (0, 0)) := (setCell_row (setCell_row (setCell_row (setCell_row hr3 0 _) 1 _) 2 _) 3 _)
   have hxe : Xt w ((((w3.setCell ⟨B + 1, 0, none⟩ (.int .i64 x.a)).setCell ⟨B + 1, 1, none⟩ (.int .i64 m1)).setCell ⟨B + 1, 2, none⟩ (.int .i64 x.c)).setCell ⟨B + 1, 3, none⟩ (.int .i64 m2)) := ((((hx3.grownB (setCell_grown _ _ _ _) (fun q hq => by cases hq; rw [hBB.out]; omega)).grownB (setCell_grown _ _ _ _) (fun q hq => by cases hq; rw [hBB.out]; omega)).grownB (setCell_grown _ _ _ _) (fun q hq => by cases hq; rw [hBB.out]; omega)).grownB (setCell_grown _ _ _ _) (fun q hq => by cases hq; rw [hBB.out]; omega))
   clear hw0 hw1 c c0 c1 c2 hb2 hr2 hg2
   go_wp2_with fail
   (try simp only [Exit.inBlock, Exit.then])
   refine bodyPost_ret (v := .tuple #[.agg #[.int .i64 x.a, .int .i64 m1, .int .i64 x.c, .int .i64 m2], .bool ok]) ?_ rfl ⟨rfl, hxe⟩
   rw [results_cell_tmp rfl]
   show ((asAddr (.pointer (some ⟨B + 1, 0, none⟩))).run _ _).andThen _ = _
   simp only [asAddr, Sem.run_pure, Result.andThen_ok, run_loadVar_row _ _ _ 26 _ _ _ hrow Tryz.underlying26 rfl (by kernel_rfl)]
   rfl
 · have HC := Lib.hid (fun w => span_any l x.a x.c w (by omega) (by omega))
   generalize spanF l x.a x.c = r at HC ⊢
   obtain ⟨m1, m2, ok⟩ := r
   go_enter Tryz.func148, Tryz.ntmps148
   go_wp2_with fail
   refine (HC.out _).mono ?_
   rintro e w2 ⟨rfl, hg2⟩
   have hb2 := rowX hg2.xt HB.out
   have hr2 := rowX hg2.xt HR.out
   obtain ⟨⟨b0, b1, b2, b3⟩, f0, f1, f2, f3⟩ := cells4 hb2
   obtain ⟨⟨r0, r1, r2, r3⟩, g0, g1, g2, g3⟩ := cells4 hr2
   have HX2 := Lib.hid (HX1.out.trans hg2.xt)
   obtain ⟨w3, hw3⟩ : ∃ w3, (w2.setCell ⟨B, 0, none⟩ (.int .i64 m1)).setCell ⟨B, 2, none⟩ (.int .i64 m2) = w3 := ⟨_, rfl⟩
   have hb3 : w3.heap[B]? = some (.cells #[.int .i64 m1, .int .i64 x.b, .int .i64 m2, .int .i64 x.d] 26 (0, 0)) := by rw [← hw3]; exact setCell_row (setCell_row hb2 0 _) 2 _
   have hr3 : w3.heap[B + 1]? = some (.cells #[.int .i64 0, .int .i64 0, .int .i64 0, .int .i64 0] 26 (0, 0)) := by rw [← hw3]; exact (Below.heap_setCell _ _ _ _ (by simp)).trans ((Below.heap_setCell _ _ _ _ (by simp)).trans hr2)
   have hx3 : Xt w w3 := by rw [← hw3]; exact (HX2.out.grownB (setCell_grown _ _ _ _) (fun q hq => by cases hq; rw [hBB.out]; exact Nat.le_refl _)).grownB (setCell_grown _ _ _ _) (fun q hq => by cases hq; rw [hBB.out]; exact Nat.le_refl _)
   obtain ⟨⟨d0, d1, d2, d3⟩, _⟩ := cells4 hb3
   obtain ⟨⟨e0, e1, e2, e3⟩, h0, h1, h2, h3⟩ := cells4 hr3
   have hrow : ((((w3.setCell ⟨B + 1, 0, none⟩ (.int .i64 m1)).setCell ⟨B + 1, 1, none⟩ (.int .i64 x.b)).setCell ⟨B + 1, 2, none⟩ (.int .i64 m2)).setCell ⟨B + 1, 3, none⟩ (.int .i64 x.d)).heap[B + 1]? = some (.cells #[.int .i64 m1, .int .i64 x.b, .int .i64 m2, .int .i64 x.d] 26 (0, 0)) := (setCell_row (setCell_row (setCell_row (setCell_row hr3 0 _) 1 _) 2 _) 3 _)
   have hxe : Xt w ((((w3.setCell ⟨B + 1, 0, none⟩ (.int .i64 m1)).setCell ⟨B + 1, 1, none⟩ (.int .i64 x.b)).setCell ⟨B + 1, 2, none⟩ (.int .i64 m2)).setCell ⟨B + 1, 3, none⟩ (.int .i64 x.d)) := ((((hx3.grownB (setCell_grown _ _ _ _) (fun q hq => by cases hq; rw [hBB.out]; omega)).grownB (setCell_grown _ _ _ _) (fun q hq => by cases hq; rw [hBB.out]; omega)).grownB (setCell_grown _ _ _ _) (fun q hq => by cases hq; rw [hBB.out]; omega)).grownB (setCell_grown _ _ _ _) (fun q hq => by cases hq; rw [hBB.out]; omega))
   clear hw0 hw1 c c0 c1 c2 hb2 hr2 hg2
   go_wp2_with fail
   (try simp only [Exit.inBlock, Exit.then])
   refine bodyPost_ret (v := .tuple #[.agg #[.int .i64 m1, .int .i64 x.b, .int .i64 m2, .int .i64 x.d], .bool ok]) ?_ rfl ⟨rfl, hxe⟩
   rw [results_cell_tmp rfl]
   show ((asAddr (.pointer (some ⟨B + 1, 0, none⟩))).run _ _).andThen _ = _
   simp only [asAddr, Sem.run_pure, Result.andThen_ok, run_loadVar_row _ _ _ 26 _ _ _ hrow Tryz.underlying26 rfl (by kernel_rfl)]
   rfl
end Go.Proofs.YtdoeejhdenifpaaGreatDoor
/- A formula whose references have gone a road: the tree; an element of a list of one's own is written. -/
namespace Go.Proofs.YtdoeejhdenifpaaGreatDoor
open Go.RowKit Go.Sort
def arOf (r q : RefT) : ArT := ⟨r.a.1, r.a.2, q.a.1, q.a.2⟩
def lostT : NodeT := .mk 4 0 0 ⟨#[]⟩ false 4 zR zR []
def turnH (cG : Ad → Ad × Bool) (aG : ArT → ArT × Bool) : NodeT → NodeT
 | .mk k o x s b f r q l =>
  if k = 5 then (if (cG r.a).2 = true then .mk k o x s b f ⟨(cG r.a).1, r.cf, r.rf⟩ q l else lostT)
  else if k = 6 then (if (aG (arOf r q)).2 = true then .mk k o x s b f ⟨((aG (arOf r q)).1.a, (aG (arOf r q)).1.b), r.cf, r.rf⟩ ⟨((aG (arOf r q)).1.c, (aG (arOf r q)).1.d), q.cf, q.rf⟩ l else lostT)
  else .mk k o x s b f r q l
mutual
def turnT (cG : Ad → Ad × Bool) (aG : ArT → ArT × Bool) : NodeT → NodeT
 | .mk k o x s b f r q l => turnH cG aG (.mk k o x s b f r q (turnL cG aG l))
def turnL (cG : Ad → Ad × Bool) (aG : ArT → ArT × Bool) : List NodeT → List NodeT
 | [] => []
 | t :: l => turnT cG aG t :: turnL cG aG l
end
theorem turnL_map (cG : Ad → Ad × Bool) (aG : ArT → ArT × Bool) : ∀ l : List NodeT, turnL cG aG l = l.map (turnT cG aG)
 | [] => rfl
 | t :: l => by rw [turnL, turnL_map cG aG l]; rfl
structure Wr (S : Nat → Prop) (w w' : World) : Prop where
 os : w'.os = w.os
 tape : w'.tape = w.tape
 output : w'.output = w.output
 size : w.heap.size ≤ w'.heap.size
 block : ∀ b, b < w.heap.size → ¬ S b → w'.heap[b]? = w.heap[b]?
theorem Wr.refl (S : Nat → Prop) (w : World) : Wr S w w := ⟨rfl, rfl, rfl, Nat.le_refl _, fun _ _ _ => rfl⟩
theorem Wr.trans {S : Nat → Prop} {a b c : World} (h : Wr S a b) (k : Wr S b c) : Wr S a c :=
 ⟨k.os.trans h.os, k.tape.trans h.tape, k.output.trans h.output, Nat.le_trans h.size k.size, fun i hi hn => (k.block i (Nat.lt_of_lt_of_le hi h.size) hn).trans (h.block i hi hn)⟩
theorem Wr.of_xt {S : Nat → Prop} {w w' : World} (h : Xt w w') : Wr S w w' := ⟨h.os, h.tape, h.output, h.size, fun b hb _ => h.block b hb⟩
theorem Wr.weak {S S' : Nat → Prop} {w w' : World} (h : Wr S w w') (hS : ∀ b, S b → S' b) : Wr S' w w' := ⟨h.os, h.tape, h.output, h.size, fun b hb hn => h.block b hb fun q => hn (hS b q)⟩
theorem Wr.xt {S : Nat → Prop} {w w' : World} {V : World} (h : Wr S w w') (hV : Xt V w) (hS : ∀ b, S b → V.heap.size ≤ b) : Xt V w' :=
 ⟨h.os.trans hV.os, h.tape.trans hV.tape, h.output.trans hV.output, Nat.le_trans hV.size h.size, fun b hb => (h.block b (Nat.lt_of_lt_of_le hb hV.size) fun q => absurd (hS b q) (by omega)).trans (hV.block b hb)⟩
theorem Wr.set {S : Nat → Prop} {w : World} {b o : Nat} (vs : List Value) (hb : S b) : Wr S w (w.setCells b o vs) := by
 obtain ⟨s1, s2, s3, s4⟩ := setCells_size b vs o w
 exact ⟨s2, s3, s4, by omega, fun j _ hn => setCells_far b _ _ w j (fun e => hn (e ▸ hb))⟩
theorem SepIn.elem {S : Nat → Prop} {w : World} {n i m cap : Nat} {a : Option Addr} {l : List NodeT} {t : NodeT} (h : SepIn S w n (.slice a m cap) l) (ht : l[i]? = some t) :
    ∃ n' b a' c' T, n = n' + 1 ∧ a = some ⟨b, 0, none⟩ ∧ S b ∧ b < w.heap.size ∧ (∀ c, T c → S c ∧ c ≠ b) ∧ NodeAt w b (i * 15) t a' t.args.length c' ∧ SepIn T w n' (.slice a' t.args.length c') t.args ∧
     (∀ w2, Wr T w w2 → w2.there b (i * 15) 15) ∧
     ∀ w2 (t' : NodeT) (av2 : Value), Wr T w w2 → SepIn T w2 n' av2 t'.args → SepIn S (w2.setCells b (i * 15) (nodeC t' av2)) n (.slice a m cap) (l.set i t') ∧ Wr S w (w2.setCells b (i * 15) (nodeC t' av2)) := by
 have hil := (List.getElem?_eq_some_iff.1 ht).1
 cases n with
 | zero => obtain ⟨rfl, _⟩ := h; simp at ht
 | succ n =>
  obtain ⟨_, _, e, h1, h2, h3⟩ := h
  cases e
  obtain ⟨b, cur, K, T, rfl, hb, hr, hK, hcK, hT, hD, hc⟩ := h3 (by omega)
  obtain ⟨av', q1, q2⟩ := hc i t ht
  obtain ⟨a', c', rfl, _⟩ := q2.own.shape
  have hlt : b < w.heap.size := (Array.getElem?_eq_some_iff.1 hr).1
  have hnb : ¬ T i b := fun e => (hT i b e).2 rfl
  refine ⟨n, b, a', c', T i, rfl, rfl, hb, hlt, fun c hc => hT i c hc, NodeAt.of q1, q2, fun w2 hw2 => row_thereN ((hw2.block b hlt hnb).trans hr) hK (by omega), fun w2 t' av2 hw2 hs2 => ?_⟩
  have hr2 := (hw2.block b hlt hnb).trans hr
  have ht2 := row_thereN hr2 hK (k := i) (by omega)
  obtain ⟨cur', hr3, hs3⟩ := setCells_rowC b (nodeC t' av2) (i * 15) w2 cur hr2
  refine ⟨⟨_, cap, by rw [List.length_set], by rw [List.length_set]; exact h1, h2, fun _ => ⟨b, cur', K, T, rfl, hb, hr3, hs3.trans hK, hcK, hT, hD, fun k u hu => ?_⟩⟩, (hw2.weak fun c hc => (hT i c hc).1).trans (Wr.set _ hb)⟩
  by_cases e : k = i
  · subst e
    rw [List.getElem?_set_self hil] at hu
    cases hu
    exact ⟨av2, World.rangeAt_setCells_same w2 b (k * 15) _ ht2, hs2.keep (fun c hc _ => setCells_far b _ _ w2 c (hT k c hc).2)⟩
  · rw [List.getElem?_set_ne (fun e' => e e'.symm)] at hu
    obtain ⟨av3, p1, p2⟩ := hc k u hu
    have p1' : ∀ i v, (nodeC u av3)[i]? = some v → w2.cell? ⟨b, k * 15 + i, none⟩ = some v := fun j v hv => (World.cell?_of_block (w := w) (a := ⟨b, k * 15 + j, none⟩) (hw2.block b hlt hnb)).trans (p1 j v hv)
    refine ⟨av3, fun j v hv => World.rangeAt_setCells_apart (b' := b) (o' := k * 15) (cs := nodeC u av3) p1' b (i * 15) _ ?_ j v hv, p2.keep (fun c hc hlc => (setCells_far b _ _ w2 c (hT k c hc).2).trans (hw2.block c hlc fun q => hD k i c e hc q))⟩
    right; rw [leaf_len, leaf_len]; omega
end Go.Proofs.YtdoeejhdenifpaaGreatDoor
/- write, plain: a formula whose nodes go through a function; a shifted reference. -/
namespace Go.Proofs.YtdoeejhdenifpaaGreatDoor
open Go.RowKit Go.Sort
mutual
def upT (h : NodeT → NodeT) : NodeT → NodeT
 | .mk k o x s b f r q l => h (.mk k o x s b f r q (upL h l))
def upL (h : NodeT → NodeT) : List NodeT → List NodeT
 | [] => []
 | t :: l => upT h t :: upL h l
end
theorem upL_map (h : NodeT → NodeT) : ∀ l : List NodeT, upL h l = l.map (upT h)
 | [] => rfl
 | t :: l => by rw [upL, upL_map h l]; rfl
theorem upL_len (h : NodeT → NodeT) (l : List NodeT) : (upL h l).length = l.length := by rw [upL_map]; simp
def shN (n by_ : Int) (fixed : Bool) : Int := if fixed = true then n else if 1048576 < by_ then -1 else if by_ < -1048576 then -1 else wrap64 (n + by_)
def shA (cc rr : Int) (x : RefT) : Ad := (shN x.a.1 cc x.cf, shN x.a.2 rr x.rf)
def shB (cc rr : Int) (x : RefT) : Bool := validB x.a.1 x.a.2 && validB (shA cc rr x).1 (shA cc rr x).2
def shR (cc rr : Int) (x : RefT) : RefT := if shB cc rr x = true then ⟨shA cc rr x, x.cf, x.rf⟩ else zR
def loR (p q : RefT) : RefT := ⟨(if q.a.1 < p.a.1 then q.a.1 else p.a.1, if q.a.2 < p.a.2 then q.a.2 else p.a.2), if q.a.1 < p.a.1 then q.cf else p.cf, if q.a.2 < p.a.2 then q.rf else p.rf⟩
def hiR (p q : RefT) : RefT := ⟨(if q.a.1 < p.a.1 then p.a.1 else q.a.1, if q.a.2 < p.a.2 then p.a.2 else q.a.2), if q.a.1 < p.a.1 then p.cf else q.cf, if q.a.2 < p.a.2 then p.rf else q.rf⟩
def shH (cc rr : Int) : NodeT → NodeT
 | .mk k o x s b f r q l =>
  if k = 5 then (if shB cc rr r = true then .mk k o x s b f (shR cc rr r) q l else lostT)
  else if k = 6 then (if shB cc rr r = true then (if shB cc rr q = true then .mk k o x s b f (loR (shR cc rr r) (shR cc rr q)) (hiR (shR cc rr r) (shR cc rr q)) l else lostT) else lostT)
  else .mk k o x s b f r q l
end Go.Proofs.YtdoeejhdenifpaaGreatDoor
/- move: the roads of lines, as two func values. -/
namespace Go.Proofs.YtdoeejhdenifpaaGreatDoor
open Go.RowKit Go.Sort
abbrev roadV (pc pl : Nat) : Value := .agg #[.func (.func 146) #[] #[.pointer (some ⟨pc, 0, none⟩), .pointer (some ⟨pl, 0, none⟩)], .func (.func 148) #[] #[.pointer (some ⟨pc, 0, none⟩), .pointer (some ⟨pl, 0, none⟩)]]
set_option maxRecDepth 100000 in
set_option maxHeartbeats 4000000 in
theorem road_any (cols : Bool) (l : LinT) (w : World) :
    Calls Tryz.prog 115 #[linV l, .bool cols] w fun e w' => ∃ pc pl, e = .returned (roadV pc pl) ∧ LinAt w' pc pl cols l ∧ Xt w w' := by
 go_enter Tryz.func115, Tryz.ntmps115
 go_wp2_with fail
 obtain ⟨w0, hw0⟩ : ∃ w0, w.alloc (.cells #[.int .i64 l.at_, .int .i64 l.n, .int .i64 l.many] 147) = w0 := ⟨_, rfl⟩
 rw [hw0]
 have hs0 : w0.heap.size = w.heap.size + 1 := by rw [← hw0]; simp
 obtain ⟨w1, hw1⟩ : ∃ w1, w0.alloc (.cells #[.bool cols] 4) = w1 := ⟨_, rfl⟩
 rw [hw1]
 have hs1 : w1.heap.size = w.heap.size + 1 + 1 := by rw [← hw1]; simp [hs0]
 have hr0 : w1.heap[w.heap.size]? = some (.cells #[.int .i64 l.at_, .int .i64 l.n, .int .i64 l.many] 147 (0, 0)) := by
  rw [← hw1]; exact (Below.heap_alloc w0 _ _ (by omega)).trans (by rw [← hw0]; exact (MapKept.heap_alloc w _).1)
 have hr1 : w1.heap[w.heap.size + 1]? = some (.cells #[.bool cols] 4 (0, 0)) := by rw [← hw1, ← hs0]; exact (MapKept.heap_alloc w0 _).1
 have hx1 : Xt w w1 := by rw [← hw1, ← hw0]; exact ((Xt.refl w).alloc _).alloc _
 have hL : LinAt w1 (w.heap.size + 1) w.heap.size cols l := ⟨by simp [World.cell?, hr1], by simp [World.cell?, hr0], by simp [World.cell?, hr0], by simp [World.cell?, hr0]⟩
 refine bodyPost_ret (results_cell_row rfl _ _ (w.heap.size + 1 + 1) _ _ _ _ rfl (by rw [← hs1]; exact (MapKept.heap_alloc w1 _).1) Tryz.underlying97 rfl (by kernel_rfl)) rfl ?_
 exact ⟨_, _, rfl, hL.xt ((Xt.refl w1).alloc _), hx1.alloc _⟩
end Go.Proofs.YtdoeejhdenifpaaGreatDoor
