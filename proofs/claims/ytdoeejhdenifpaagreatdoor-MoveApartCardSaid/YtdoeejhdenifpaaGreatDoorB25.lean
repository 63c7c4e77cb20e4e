import Derived.ProofKit
import Derived.Lib.SmallJoins
import Derived.Deep.Slices
import Derived.Test.YtdoeejhdenifpaaGreatDoorRows
import Derived.Test.YtdoeejhdenifpaaGreatDoorCards
import Derived.Test.YtdoeejhdenifpaaGreatDoorTie
import Derived.OpenShut
import Derived.Lib.LaidIn
import Derived.Lib.LaidU8T
import Derived.Deep.DeepHandedRow
import Derived.Deep.DeepWitnessRowRef
import Derived.SizedLaws
import Derived.SevenTiedAt
import Derived.Test.YtdoeejhdenifpaaGreatDoorB22
import Derived.Test.YtdoeejhdenifpaaGreatDoorB19
import Derived.Test.YtdoeejhdenifpaaGreatDoorB16
import Derived.StillTailTactics
import Derived.Deep.MidRow
set_option maxRecDepth 100000
set_option maxHeartbeats 16000000
namespace Go.Proofs.YtdoeejhdenifpaaGreatDoor
section
open Go.ChangeShapes Go.WideShapes Go.ChangeAt Go.RowKit Go.Joins Go.Deep
theorem Tryz.own' : ownKnob Tryz.prog.godebug = none := by kernel_rfl
theorem Tryz.laidOut' : laidOutB Tryz.prog = true := by kernel_rfl
theorem Tryz.cellsInt : Tryz.prog.cellsOf 3 = 1 := by kernel_rfl
theorem Tryz.cellsBool : Tryz.prog.cellsOf 4 = 1 := by kernel_rfl
theorem Tryz.cellsF64 : Tryz.prog.cellsOf 42 = 1 := by kernel_rfl
theorem Tryz.cellsStr : Tryz.prog.cellsOf 9 = 1 := by kernel_rfl
theorem Tryz.cellsAddr : Tryz.prog.cellsOf 24 = 2 := by kernel_rfl
theorem Tryz.cellsRef : Tryz.prog.cellsOf 46 = 4 := by kernel_rfl
theorem Tryz.cellsValue : Tryz.prog.cellsOf 44 = 5 := by kernel_rfl
theorem Tryz.cellsNode : Tryz.prog.cellsOf 49 = 15 := by kernel_rfl
theorem Tryz.cellsNodes : Tryz.prog.cellsOf 47 = 1 := by kernel_rfl
theorem Tryz.cellsContent : Tryz.prog.cellsOf 51 = 21 := by kernel_rfl
theorem ArgsIn.up {w : World} : ∀ {n : Nat} {av : Value} {l : List NodeT}, ArgsIn w n av l -> ArgsIn w (n + 1) av l
 | 0, _, _, h => by obtain ⟨rfl, a, cap, rfl, hc⟩ := h; exact ⟨a, cap, rfl, Nat.zero_le _, hc, fun h => absurd rfl h⟩
 | n + 1, _, _, h => by
  obtain ⟨a, cap, rfl, h1, h2, h3⟩ := h;refine ⟨a, cap, rfl, h1, h2, fun hne => ?_⟩;obtain ⟨b, off, rfl, hc⟩ := h3 hne;exact ⟨b, off, rfl, fun k t ht => let ⟨av', q1, q2⟩ := hc k t ht; ⟨av', q1, q2.up⟩⟩
theorem zbz {s : ByteArray} (h : s.data.toList.length <= reachBytes) : s.size < 4611686018427387904 := by
 have e : s.size = s.data.toList.length := (by rw [Array.length_toList]; rfl);unfold reachBytes at h;omega
section
variable {H : Type} {enc : TypeId × Value -> H} {W : World} {base : Nat} {spare : Nat -> Bool} {held : Bool}
theorem trod_fl {P : Program} {k : FloatKind} {ty : TypeId} {n : Nat} {cs : List Value} {x : DataW H × List MemPlace} (ht : P.underlying ty = some (.float k)) (h : DataW.trod enc P W base spare held n ty cs = some x) : ∃ v, cs = [.float k v] /\ (Lit.float k v).wf = true := by
 cases n with
 | zero => simp [DataW.trod] at h
 | succ n =>
  unfold DataW.trod at h;rw [ht] at h;split at h <;> simp_all
theorem zEx {n : Nat} {cs : List Value} {x : DataW H × List MemPlace} (h : DataW.trod enc Tryz.prog W base spare held n 42 cs = some x) : ∃ v, cs = [.float .f64 v] /\ v < 18446744073709551616 := by
 obtain ⟨v, h1, h2⟩ := trod_fl Tryz.underlying42 h;exact ⟨v, h1, by simpa [Lit.wf] using h2⟩
theorem zMx {n : Nat} {cs : List Value} {x : DataW H × List MemPlace} (h : DataW.trod enc Tryz.prog W base spare held n 24 cs = some x) : ∃ a : Ad, cs = adC a := by
 obtain ⟨y0, y1, m, hx, hl, h0, h1⟩ := trod_struct2 Tryz.underlying24 h;rw [Tryz.cellsAddr] at hl
 match cs, hl with
 | [c0, c1], _ =>
  have g0 : DataW.trod enc Tryz.prog W base spare held m 3 [c0] = some y0 := (by simpa [Tryz.cellsInt] using h0);have g1 : DataW.trod enc Tryz.prog W base spare held m 3 [c1] = some y1 := (by simpa [Tryz.cellsInt] using h1);obtain ⟨a, e0, _, _⟩ := DataW.trod_int Tryz.underlying3 g0;obtain ⟨b, e1, _, _⟩ := DataW.trod_int Tryz.underlying3 g1;simp at e0 e1;subst e0 e1;exact ⟨(a, b), rfl⟩
theorem jtF {n : Nat} {cs : List Value} {x : DataW H × List MemPlace} (h : DataW.trod enc Tryz.prog W base spare held n 46 cs = some x) : ∃ r : RefT, cs = [.int .i64 r.a.1, .int .i64 r.a.2, .bool r.cf, .bool r.rf] := by
 obtain ⟨xs, m, _, rfl, hl, hlen, hf⟩ := DataW.trod_struct Tryz.underlying46 h;rw [Tryz.cellsRef] at hl
 match xs, hlen with
 | [y0, y1, y2], _ =>
  match cs, hl with
  | [c0, c1, c2, c3], _ =>
   have g0 : DataW.trod enc Tryz.prog W base spare held m 24 [c0, c1] = some y0 := (by simpa [Tryz.cellsAddr] using hf 0 _ rfl);have g1 : DataW.trod enc Tryz.prog W base spare held m 4 [c2] = some y1 := (by simpa [Tryz.cellsBool] using hf 1 _ rfl);have g2 : DataW.trod enc Tryz.prog W base spare held m 4 [c3] = some y2 := (by simpa [Tryz.cellsBool] using hf 2 _ rfl);obtain ⟨a, ea⟩ := zMx g0;obtain ⟨b1, e1, _⟩ := DataW.trod_bool Tryz.underlying4 g1;obtain ⟨b2, e2, _⟩ := DataW.trod_bool Tryz.underlying4 g2;simp only [adC, List.cons.injEq, and_true] at ea e1 e2;obtain ⟨rfl, rfl⟩ := ea;subst e1 e2;exact ⟨⟨a, b1, b2⟩, rfl⟩
theorem jGp {α : Type} {p : Nat -> α -> Prop} : ∀ (n : Nat), (∀ i, i < n -> ∃ x, p i x) -> ∃ l : List α, l.length = n /\ ∀ i x, l[i]? = some x -> p i x
 | 0, _ => ⟨[], rfl, fun i x h => by simp at h⟩
 | n + 1, h => by
  obtain ⟨l, h1, h2⟩ := jGp n (fun i hi => h i (by omega));obtain ⟨x, hx⟩ := h n (by omega);refine ⟨l ++ [x], by simp [h1], fun i y hy => ?_⟩;rcases Nat.lt_or_ge i n with hi | hi
  . rw [List.getElem?_append_left (by omega)] at hy; exact h2 i y hy
  . have : i = n := by
     have := (List.getElem?_eq_some_iff.1 hy).1;simp [h1] at this; omega
    subst this;rw [List.getElem?_append_right (by omega), h1, Nat.sub_self] at hy;simp at hy; subst hy; exact hx
theorem yn7 {P : Program} {e : TypeId} : ∀ {l : List (DataW H)} {d : DataW H} {q : Nat}, d ∈ l -> q ∈ d.weights P e -> q ∈ DataW.weightsAll P e l
 | x :: r, d, q, hd, hq => by
  simp only [DataW.weightsAll, List.mem_append];rcases List.mem_cons.1 hd with rfl | hd
  . exact Or.inl hq
  . exact Or.inr (yn7 hd hq)
theorem okL_of : ∀ {l : List NodeT}, (∀ (i : Nat) (t : NodeT), l[i]? = some t -> t.ok) -> okL l
 | [], _ => by simp [okL]
 | t :: r, h => by simp only [okL]; exact ⟨h 0 t rfl, okL_of (fun i u hu => h (i + 1) u (by simpa using hu))⟩
theorem jf2 : ∀ {l : List NodeT}, (∀ (i : Nat) (t : NodeT), l[i]? = some t -> yQE t) -> joP l
 | [], _ => by simp [joP]
 | t :: r, h => by simp only [joP]; exact ⟨h 0 t rfl, jf2 (fun i u hu => h (i + 1) u (by simpa using hu))⟩
theorem zyL : ∀ (n : Nat) {cs : List Value} {x : DataW H × List MemPlace}, DataW.trod enc Tryz.prog W base spare held n 49 cs = some x -> (∀ q ∈ x.1.weights Tryz.prog 49, q <= reachBytes) -> ∃ (t : NodeT) (av : Value), cs = nodeC t av /\ ArgsIn W n av t.args /\ t.ok /\ yQE t := by
 intro n
 induction n using Nat.strongRecOn with
 | ind n ih =>
  intro cs x h hz;obtain ⟨xs, m, hm, rfl, hl, hlen, hf⟩ := DataW.trod_struct Tryz.underlying49 h;rw [Tryz.cellsNode] at hl
  match xs, hlen with
  | [y0, y1, y2, y3, y4, y5, y6, y7, y8], _ =>
   match cs, hl with
   | [c0, c1, c2, c3, c4, c5, c6, c7, c8, c9, c10, c11, c12, c13, c14], _ =>
    have g0 : DataW.trod enc Tryz.prog W base spare held m 3 [c0] = some y0 := (by simpa [Tryz.cellsInt] using hf 0 _ rfl);have g1 : DataW.trod enc Tryz.prog W base spare held m 3 [c1] = some y1 := (by simpa [Tryz.cellsInt] using hf 1 _ rfl);have g2 : DataW.trod enc Tryz.prog W base spare held m 42 [c2] = some y2 := (by simpa [Tryz.cellsF64] using hf 2 _ rfl);have g3 : DataW.trod enc Tryz.prog W base spare held m 9 [c3] = some y3 := (by simpa [Tryz.cellsStr] using hf 3 _ rfl);have g4 : DataW.trod enc Tryz.prog W base spare held m 4 [c4] = some y4 := by simpa [Tryz.cellsBool] using hf 4 _ rfl
    have g5 : DataW.trod enc Tryz.prog W base spare held m 3 [c5] = some y5 := (by simpa [Tryz.cellsInt] using hf 5 _ rfl);have g6 : DataW.trod enc Tryz.prog W base spare held m 46 [c6, c7, c8, c9] = some y6 := (by simpa [Tryz.cellsRef] using hf 6 _ rfl);have g7 : DataW.trod enc Tryz.prog W base spare held m 46 [c10, c11, c12, c13] = some y7 := (by simpa [Tryz.cellsRef] using hf 7 _ rfl);have g8 : DataW.trod enc Tryz.prog W base spare held m 47 [c14] = some y8 := (by simpa [Tryz.cellsNodes] using hf 8 _ rfl);obtain ⟨k, e0, _, _⟩ := DataW.trod_int Tryz.underlying3 g0;obtain ⟨op, e1, _, _⟩ := DataW.trod_int Tryz.underlying3 g1;obtain ⟨fx, e2, hfx⟩ := zEx g2
    have hz3 : ∀ q ∈ y3.1.weights Tryz.prog 9, q <= reachBytes := fun q hq => hz q (by simp [DataW.weights, Tryz.underlying49, DataW.weightsEach, hq]);have hz8 : ∀ q ∈ y8.1.weights Tryz.prog 47, q <= reachBytes := fun q hq => hz q (by simp [DataW.weights, Tryz.underlying49, DataW.weightsEach, hq]);obtain ⟨s, e3, es3, ws⟩ := DataW.trod_string Tryz.underlying9 g3;rw [es3] at hz3;obtain ⟨b, e4, _⟩ := DataW.trod_bool Tryz.underlying4 g4;obtain ⟨f, e5, _, _⟩ := DataW.trod_int Tryz.underlying3 g5;obtain ⟨r1, e6⟩ := jtF g6;obtain ⟨r2, e7⟩ := jtF g7;simp only [List.cons.injEq, and_true] at e0 e1 e2 e3 e4 e5 e6 e7;obtain ⟨rfl, rfl, rfl, rfl⟩ := e6;obtain ⟨rfl, rfl, rfl, rfl⟩ := e7
    subst e0 e1 e2 e3 e4 e5;have hs : s.size < 4611686018427387904 := zbz (hz3 s.data.toList.length (by simp [DataW.weights]));have harg : ∃ l : List NodeT, ArgsIn W n c14 l /\ okL l /\ l.length <= 1099511627744 /\ joP l := by
     rcases DataW.trod_slice Tryz.underlying47 g8 with ⟨h0, _⟩ | ⟨a, len, cap, elems, rest, q, hq, hcs, hx, hb, hlc, hcap, hle, hel, _, _⟩
     . cases h0;rw [hm];exact ⟨[], ⟨none, 0, rfl, by simp, by omega, fun h => absurd rfl h⟩, by simp [okL], by simp, by simp [joP]⟩
     . cases hcs;rw [Tryz.cellsNode] at hel;rw [hx] at hz8;have hlen128 : len <= 1099511627744 := by
        have h := hz8 ((elems.length + rest.length) * Tryz.prog.bytesOf 49) (by
         simp only [DataW.weights, Tryz.underlying47, List.length_map, List.mem_cons, true_or])
        rw [show Tryz.prog.bytesOf 49 = 128 by kernel_rfl] at h;unfold reachBytes at h;omega
       have each : ∀ i, i < len -> ∃ u : NodeT, ∃ av : Value, (∀ (j : Nat) (c : Value), (nodeC u av)[j]? = some c -> W.cell? (a.add (i * 15 + j)) = some c) /\ ArgsIn W q av u.args /\ u.ok /\ yQE u := by
        intro i hil;have hi := hel i hil;rw [j_ (by omega)] at hi;obtain ⟨cs', h1, h2⟩ := Option.bind_eq_some_iff.1 hi;obtain ⟨u, av, rfl, hin, hok, hsu⟩ := ih q (by omega) h2 (fun z hq => hz8 z (by
         simp only [DataW.weights, Tryz.underlying47, List.mem_cons, List.mem_append];exact Or.inr (Or.inl (yn7 (List.mem_map.2 ⟨_, List.getElem_mem (by omega), rfl⟩) hq))))
        obtain ⟨_, hlen, hcell⟩ := World.cells?_some h1;refine ⟨u, av, fun j c hj => ?_, hin, hok, hsu⟩;have hjs : j < 15 := (List.getElem?_eq_some_iff.1 hj).1;rw [<- add_add, hcell j hjs, hj]
       obtain ⟨l, hl1, hl2⟩ := jGp len each;refine ⟨l, ?_, okL_of fun i t ht => (let ⟨_, _, _, h, _⟩ := hl2 i t ht; h), by omega, jf2 fun i t ht => (let ⟨_, _, _, _, h⟩ := hl2 i t ht; h)⟩;rw [hm, hq];refine ⟨some a, cap, by rw [hl1], by omega, by unfold maxLen at hcap; omega, fun hne => ?_⟩;obtain ⟨bb, o, spot⟩ := a;obtain ⟨y, hy⟩ : ∃ y, l[0]? = some y := by
        cases l with
        | nil => exact absurd rfl hne
        | cons y _ => exact ⟨y, rfl⟩
       obtain ⟨av0, hc0, _⟩ := hl2 0 y hy;have hspot : spot = none := (by simpa [Addr.add] using World.cell?_spot (hc0 0 _ rfl));subst hspot;refine ⟨bb, o, rfl, fun k t ht => ?_⟩;obtain ⟨av, hcell, hin, _⟩ := hl2 k t ht;refine ⟨av, fun i u hu => ?_, hin.up⟩;have := hcell i u hu;rw [Addr.add_lit] at this
       rwa [<- Nat.add_assoc] at this
    obtain ⟨l, hin, hok, hln, hsl⟩ := harg;exact ⟨.mk k op fx s b f r1 r2 l, c14, rfl, hin, by simp only [NodeT.ok]; exact ⟨hs, hfx, hok⟩, by simp only [yQE]; exact ⟨hln, hsl⟩⟩
theorem zHw {n : Nat} {cs : List Value} {x : DataW H × List MemPlace} (h : DataW.trod enc Tryz.prog W base spare held n 51 cs = some x) (hz : ∀ q ∈ x.1.weights Tryz.prog 51, q <= reachBytes) : ∃ (c : ContT) (a : Option Addr) (cap d : Nat), Value.agg cs.toArray = jEC c a c.t.args.length cap /\ ArgsIn W d (.slice a c.t.args.length cap) c.t.args /\ c.ok /\ yQE c.t := by
 obtain ⟨xs, m, hm, rfl, hl, hlen, hf⟩ := DataW.trod_struct Tryz.underlying51 h;rw [Tryz.cellsContent] at hl
 match xs, hlen with
 | [y0, y1, y2], _ =>
  match cs, hl with
  | [c0, v0, v1, v2, v3, v4, n0, n1, n2, n3, n4, n5, n6, n7, n8, n9, n10, n11, n12, n13, n14], _ =>
   have g0 : DataW.trod enc Tryz.prog W base spare held m 3 [c0] = some y0 := (by simpa [Tryz.cellsInt] using hf 0 _ rfl);have g1 : DataW.trod enc Tryz.prog W base spare held m 44 [v0, v1, v2, v3, v4] = some y1 := (by simpa [Tryz.cellsValue] using hf 1 _ rfl);have g2 : DataW.trod enc Tryz.prog W base spare held m 49 [n0, n1, n2, n3, n4, n5, n6, n7, n8, n9, n10, n11, n12, n13, n14] = some y2 := (by simpa [Tryz.cellsNode] using hf 2 _ rfl);obtain ⟨k, e0, _, _⟩ := DataW.trod_int Tryz.underlying3 g0;have hz1 : ∀ q ∈ y1.1.weights Tryz.prog 44, q <= reachBytes := fun q hq => hz q (by simp [DataW.weights, Tryz.underlying51, DataW.weightsEach, hq])
   have hz2 : ∀ q ∈ y2.1.weights Tryz.prog 49, q <= reachBytes := fun q hq => hz q (by simp [DataW.weights, Tryz.underlying51, DataW.weightsEach, hq]);obtain ⟨zs, m2, _, rfl, hl2, hlen2, hf2⟩ := DataW.trod_struct Tryz.underlying44 g1;obtain ⟨t, av, et, hin, hok, hsm⟩ := zyL m g2 hz2
   match zs, hlen2 with
   | [z0, z1, z2, z3, z4], _ =>
    have p0 : DataW.trod enc Tryz.prog W base spare held m2 3 [v0] = some z0 := (by simpa [Tryz.cellsInt] using hf2 0 _ rfl);have p1 : DataW.trod enc Tryz.prog W base spare held m2 42 [v1] = some z1 := (by simpa [Tryz.cellsF64] using hf2 1 _ rfl);have p2 : DataW.trod enc Tryz.prog W base spare held m2 9 [v2] = some z2 := (by simpa [Tryz.cellsStr] using hf2 2 _ rfl);have p3 : DataW.trod enc Tryz.prog W base spare held m2 4 [v3] = some z3 := (by simpa [Tryz.cellsBool] using hf2 3 _ rfl);have p4 : DataW.trod enc Tryz.prog W base spare held m2 3 [v4] = some z4 := (by simpa [Tryz.cellsInt] using hf2 4 _ rfl);obtain ⟨vk, f0, _, _⟩ := DataW.trod_int Tryz.underlying3 p0
    obtain ⟨vx, f1, hvx⟩ := zEx p1;obtain ⟨vs, f2, es2, ws⟩ := DataW.trod_string Tryz.underlying9 p2;have hws : vs.size < 4611686018427387904 := zbz (hz1 vs.data.toList.length (by simp [DataW.weights, Tryz.underlying44, DataW.weightsEach, es2]));obtain ⟨vb, f3, _⟩ := DataW.trod_bool Tryz.underlying4 p3;obtain ⟨vf, f4, _, _⟩ := DataW.trod_int Tryz.underlying3 p4;obtain ⟨a, cap, rfl, _, _⟩ := hin.shape;simp only [nodeC, List.cons.injEq, and_true] at e0 f0 f1 f2 f3 f4 et;obtain ⟨rfl, rfl, rfl, rfl, rfl, rfl, rfl, rfl, rfl, rfl, rfl, rfl, rfl, rfl, rfl⟩ := et;subst e0 f0 f1 f2 f3 f4;exact ⟨⟨k, ⟨vk, vx, vs, vb, vf⟩, t⟩, a, cap, m, rfl, hin, ⟨hws, hok, hvx⟩, hsm⟩
end
end
section
open Go.ChangeShapes Go.WideShapes Go.ChangeAt Go.RowKit Go.Joins Go.Deep Go.Shelf
noncomputable def ybg (os : Os) : World :=
 let w0 := World.holding Tryz.prog os ⟨#[], #[], []⟩
 let put (h : Array Obj) (g : Nat) (cs : Array Value) : Array Obj := h.modify g fun
  | .cells _ t frozen => .cells cs t frozen
  | o => o
 let h1 := put w0.heap 1 (Lib.firstTab.map fun z => Value.int .u8 z).toArray
 let h2 := put h1 2 ((List.range 16).flatMap fun i => [Value.int .u8 (Lib.accLo i), Value.int .u8 (Lib.accHi i)]).toArray
 { w0 with heap := h2 }
theorem acc_is : (Rows.laid_unicode_utf8_acceptRanges : DataW Unit) = Lib.acceptData := by kernel_rfl
theorem fst_is : (Rows.laid_unicode_utf8_first : DataW Unit) = Lib.firstData := by kernel_rfl
abbrev ygn : List (String × DataW Unit) := [("unicode/utf8.acceptRanges", Rows.laid_unicode_utf8_acceptRanges), ("unicode/utf8.first", Rows.laid_unicode_utf8_first)]
theorem y0b (os : Os) (args : Array Value) : laidMet Tryz.prog ygn ((ybg os).forCall (fun _ _ => 0) ⟨#[], args, []⟩).memory :=
 (LaidIn.of_run (l := [("unicode/utf8.acceptRanges", Rows.laid_unicode_utf8_acceptRanges), ("unicode/utf8.first", Rows.laid_unicode_utf8_first)]) [2, 1] 8 (by kernel_rfl) (by kernel_rfl) (by kernel_rfl) (by kernel_rfl)).met
theorem tabs_of {W : World} (hL : laidMetH Tryz.prog ygn W) : Tabs W := by
 have h1 := Lib.laidMet.reads hL (.head _);have h2 := Lib.laidMet.reads hL (.tail _ (.head _));rw [acc_is] at h1;rw [fst_is] at h2;exact utf8Tabs_of_readsT (U8Types.of196 Tryz.valid8) ⟨by kernel_rfl, by kernel_rfl, by kernel_rfl, by kernel_rfl, by kernel_rfl, by kernel_rfl, by kernel_rfl⟩ h2 h1
theorem z2N (os : Os) (args : Array Value) : laidMetH Tryz.prog ygn ((ybg os).forCall (fun _ _ => 0) ⟨#[], args, []⟩).memory :=
 laidMetH_of_parts (y0b os args) (by kernel_rfl)
end
section
open Go.RowKit Go.Sort Go.MapKept Go.Maps Go.Shelf
structure PI where
 a : Ad
 c : ContT
 p : Option Addr
 cap : Nat
def inC1 (x : PI) : List Value := [.int .i64 x.a.1, .int .i64 x.a.2, .int .i64 x.c.kind, .int .i64 x.c.v.kind, .float .f64 x.c.v.x, .string x.c.v.s, .bool x.c.v.b, .int .i64 x.c.v.f, .int .i64 x.c.t.kind, .int .i64 x.c.t.op, .float .f64 x.c.t.x, .string x.c.t.s, .bool x.c.t.b, .int .i64 x.c.t.f, .int .i64 x.c.t.ref.a.1, .int .i64 x.c.t.ref.a.2, .bool x.c.t.ref.cf, .bool x.c.t.ref.rf, .int .i64 x.c.t.to.a.1, .int .i64 x.c.t.to.a.2, .bool x.c.t.to.cf, .bool x.c.t.to.rf, .slice x.p x.c.t.args.length x.cap]
structure PutsIn (w : World) (v : Value) (l : List PI) : Prop where
 sl : SlOf w inC1 23 v l
 args : ∀ x ∈ l, x.c.ok /\ ∃ n, ArgsIn w n (.slice x.p x.c.t.args.length x.cap) x.c.t.args
theorem SlOf.keptC {α : Type} {w w' : World} {enc : α -> List Value} {sz : Nat} {v : Value} {l : List α} (h : SlOf w enc sz v l) (hx : CellsIn w w') : SlOf w' enc sz v l := by
 obtain ⟨a, cap, rfl, h1, h2, h3⟩ := h;exact ⟨a, cap, rfl, h1, h2, fun hl => let ⟨b, off, e, hc⟩ := h3 hl; ⟨b, off, e, fun j x hx' i u hu => hx _ _ _ (hc j x hx' i u hu)⟩⟩
theorem PutsIn.kept {w w' : World} {v : Value} {l : List PI} (h : PutsIn w v l) (hx : CellsIn w w') : PutsIn w' v l :=
 ⟨h.sl.keptC hx, fun x hx' => let ⟨h1, n, hn⟩ := h.args x hx'; ⟨h1, n, hn.kept hx⟩⟩
theorem PutsIn.xt {w w' : World} {v : Value} {l : List PI} (h : PutsIn w v l) (hx : Xt w w') : PutsIn w' v l := h.kept hx.cellsIn
theorem PutsIn.at {w : World} {a : Option Addr} {m cap i : Nat} {l : List PI} {x : PI} (h : PutsIn w (.slice a m cap) l) (hx : l[i]? = some x) :
    ∃ b off, a = some ⟨b, off, none⟩ /\ c_ w b (off + i * 23) x.a.1 /\ c_ w b (off + i * 23 + 1) x.a.2 /\ w.rangeAt b (off + i * 23 + 2) ((inC1 x).drop 2) /\ x.c.ok /\ ∃ n, ArgsIn w n (.slice x.p x.c.t.args.length x.cap) x.c.t.args := by
 obtain ⟨a', cap', e, h1, h2, h3⟩ := h.sl;cases e;obtain ⟨b, off, rfl, hc⟩ := h3 (by intro e; subst e; simp at hx);refine ⟨b, off, rfl, hc i x hx 0 _ rfl, hc i x hx 1 _ rfl, fun j v hv => ?_, h.args x (m_ hx)⟩;rw [List.getElem?_drop] at hv;have := hc i x hx (2 + j) v hv;rw [<- Nat.add_assoc] at this;exact this
theorem PutsIn.shape {w : World} {v : Value} {l : List PI} (h : PutsIn w v l) : ∃ a cap, v = .slice a l.length cap /\ l.length <= cap /\ cap <= 9223372036854775807 := by
 obtain ⟨a, cap, e, h1, h2, _⟩ := h.sl;exact ⟨a, cap, e, h1, h2⟩
abbrev pis (l : List PI) : List (Ad × ContT) := l.map fun x => (x.a, x.c)
end
section
open Go.RowKit Go.Sort
def movG (cc rr : Int) (a : Ad) : Ad := (wrap64 (a.1 + cc), wrap64 (a.2 + rr))
theorem zM1 (a : Ad) (pc pr : Nat) (cc rr : Int) (w : World) (h1 : w.cell? ⟨pc, 0, none⟩ = some (.int .i64 cc)) (h2 : w.cell? ⟨pr, 0, none⟩ = some (.int .i64 rr)) :
    Calls Tryz.prog 43 #[.agg #[a.1, a.2], v_ pc, v_ pr] w fun e w' => e = .returned (.agg #[(movG cc rr a).1, (movG cc rr a).2]) /\ Xt w w' := by
 obtain ⟨B, hB⟩ := e_ w.heap.size;obtain ⟨w0, hw0⟩ := e_ (w.alloc (.cells #[a.1, a.2] 24));have hs0 : w0.heap.size = B + 1 := (by rw [<- hw0, <- hB]; simp);have hx0 : Xt w w0 := (by rw [<- hw0]; exact (Xt.refl w).alloc _);have c1 := hx0.cellsIn _ _ _ h1;have c2 := hx0.cellsIn _ _ _ h2;have l1 := b_ w0 _ c1;have l2 := b_ w0 _ c2;obtain ⟨b0, b1, _, _⟩ := zxi (w := w0) (b := B) (by rw [<- hw0, <- hB]; exact (a_ w _).1);have e1 : (w0.alloc (.cells #[.int .i64 0, .int .i64 0] 24)).cell? ⟨pc, 0, none⟩ = some (.int .i64 cc) := ((Xt.refl w0).alloc _).cellsIn _ _ _ c1
 have e2 : (w0.alloc (.cells #[.int .i64 0, .int .i64 0] 24)).cell? ⟨pr, 0, none⟩ = some (.int .i64 rr) := ((Xt.refl w0).alloc _).cellsIn _ _ _ c2;have d0 : (w0.alloc (.cells #[.int .i64 0, .int .i64 0] 24)).cell? ⟨B, 0, none⟩ = some (.int .i64 a.1) := ((Xt.refl w0).alloc _).cellsIn _ _ _ b0;have d1 : (w0.alloc (.cells #[.int .i64 0, .int .i64 0] 24)).cell? ⟨B, 1, none⟩ = some (.int .i64 a.2) := ((Xt.refl w0).alloc _).cellsIn _ _ _ b1;have HX := h_ hx0;have HB := h_ hs0;unfold movG;clear h1 h2 hx0 c1 c2 l1 l2 b0 b1;go_enter Tryz.func43, Tryz.ntmps43;go_wp2
 (try simp only [Exit.inBlock, Exit.then])
 refine p_ (t_ rfl _ _ (B + 1) _ _ _ _ rfl (by rw [<- HB.out]; exact (a_ w0 _).1) Tryz.underlying24 rfl (by kernel_rfl)) rfl ?_;exact ⟨rfl, HX.out.alloc _⟩
theorem zTQ (a b : Ad) (w : World) :
    Calls Tryz.prog 42 #[.agg #[a.1, a.2], .agg #[b.1, b.2]] w fun e w' => e = .returned (.tuple #[.int .i64 (wrap64 (b.1 - a.1)), .int .i64 (wrap64 (b.2 - a.2))]) /\ Gr w w' := by
 go_enter Tryz.func42, Tryz.ntmps42;go_wp2
 go_region
 go_wp2
 go_ret2
 exact ⟨rfl, by repeat (first | exact Gr.refl _ | refine Gr.alloc ?_ _ | refine Gr.drew ?_)⟩
def inA (x : ArT) (a : Ad) : Bool := inB x.a x.b x.c x.d a.1 a.2
def yLa (x y : ArT) : Bool := inA y (x.a, x.b) && inA y (x.c, x.d)
theorem j8O (x y : ArT) (w : World) :
    Calls Tryz.prog 46 #[arT x, arT y] w fun e w' => e = .returned (.bool (yLa x y)) /\ Xt w w' := by
 obtain ⟨B, hB⟩ := e_ w.heap.size;obtain ⟨w0, hw0⟩ := e_ (w.alloc (.cells #[x.a, x.b, x.c, x.d] 26));have hs0 : w0.heap.size = B + 1 := (by rw [<- hw0, <- hB]; simp);obtain ⟨w1, hw1⟩ := e_ (w0.alloc (.cells #[y.a, y.b, y.c, y.d] 26));have hx1 : Xt w w1 := (by rw [<- hw1, <- hw0]; exact ((Xt.refl w).alloc _).alloc _);have HR0 : Hid (r_ w1 B #[x.a, x.b, x.c, x.d] 26) := rowX (w := w0) (by rw [<- hw1]; exact (Xt.refl _).alloc _) (by rw [<- hw0, <- hB]; exact (a_ w _).1)
 have HR1 : Hid (r_ w1 (B + 1) #[y.a, y.b, y.c, y.d] 26) := (by unfold Hid; rw [<- hw1, <- hs0]; exact (a_ w0 _).1);have HX1 := h_ hx1;obtain ⟨⟨x0, x1, x2, x3⟩, _⟩ := jr0 HR0.out;obtain ⟨⟨y0, y1, y2, y3⟩, _⟩ := jr0 HR1.out;have HC1 := h_ (zkF y.a y.b y.c y.d x.a x.b w1);obtain ⟨v1, hv1⟩ := e_ (inA y (x.a, x.b));obtain ⟨v2, hv2⟩ := e_ (inA y (x.c, x.d));rw [show inB y.a y.b y.c y.d x.a x.b = v1 from hv1] at HC1;have HC2 := h_ (fun V => zkF y.a y.b y.c y.d x.c x.d V);rw [show inB y.a y.b y.c y.d x.c x.d = v2 from hv2] at HC2;unfold yLa;rw [hv1, hv2]
 have hm1 : True := trivial;clear hx1 hv1 hv2;cases v1
 . go_enter Tryz.func46, Tryz.ntmps46;go_wp2_with (first
    | (go_at_call 16; refine (HC1.out).mono ?_; rintro e w2 ⟨rfl, hg2⟩; have HX2 : Hid (Xt w w2) := HX1.out.trans hg2.xt; clear hg2))
   go_ret;exact ⟨rfl, HX2.out⟩
 . go_enter Tryz.func46, Tryz.ntmps46;go_wp2_with (first
    | (go_at_call 16; have hm0 := hm1; clear hm1 hm0; refine (HC1.out).mono ?_; rintro e w2 ⟨rfl, hg2⟩; have HX2 : Hid (Xt w w2) := HX1.out.trans hg2.xt; obtain ⟨⟨x0', x1', x2', x3'⟩, _⟩ := jr0 (rowX hg2.xt HR0.out); obtain ⟨⟨y0', y1', y2', y3'⟩, _⟩ := jr0 (rowX hg2.xt HR1.out); clear hg2)
    | (go_at_call 16; refine (HC2.out _).mono ?_; rintro e w3 ⟨rfl, hg3⟩; have HX3 : Hid (Xt w w3) := HX2.out.trans hg3.xt; clear hg3))
   go_ret;exact ⟨rfl, HX3.out⟩
end
section
open Go.RowKit Go.Sort Go.MapKept
attribute [local go_sem] Oper.semAt_some
structure MvAt (w : World) (pf pm pg pc pr : Nat) (f g : ArT) (cc rr : Int) : Prop where
 rf : w.heap[pf]? = some (.cells #[f.a, f.b, f.c, f.d] 26 (0, 0))
 rm : w.cell? ⟨pm, 0, none⟩ = some (.func (.func 43) #[] #[v_ pc, v_ pr])
 rg : w.heap[pg]? = some (.cells #[g.a, g.b, g.c, g.d] 26 (0, 0))
 rc : w.cell? ⟨pc, 0, none⟩ = some (.int .i64 cc)
 rr : w.cell? ⟨pr, 0, none⟩ = some (.int .i64 rr)
theorem MvAt.xt {w w' : World} {pf pm pg pc pr : Nat} {f g : ArT} {cc rr : Int} (h : MvAt w pf pm pg pc pr f g cc rr) (hx : Xt w w') : MvAt w' pf pm pg pc pr f g cc rr :=
 ⟨rowX hx h.rf, hx.cellsIn _ _ _ h.rm, rowX hx h.rg, hx.cellsIn _ _ _ h.rc, hx.cellsIn _ _ _ h.rr⟩
theorem MvAt.kept {w w' : World} {pf pm pg pc pr m : Nat} {f g : ArT} {cc rr : Int} (h : MvAt w pf pm pg pc pr f g cc rr) (hk : ∀ b, b < m -> w'.heap[b]? = w.heap[b]?) (hm : pf < m /\ pm < m /\ pg < m /\ pc < m /\ pr < m) : MvAt w' pf pm pg pc pr f g cc rr :=
 ⟨(hk _ hm.1).trans h.rf, (d_ (w := w) (a := ⟨pm, 0, none⟩) (hk _ hm.2.1)).trans h.rm, (hk _ hm.2.2.1).trans h.rg, (d_ (w := w) (a := ⟨pc, 0, none⟩) (hk _ hm.2.2.2.1)).trans h.rc, (d_ (w := w) (a := ⟨pr, 0, none⟩) (hk _ hm.2.2.2.2)).trans h.rr⟩
def mvC (f g : ArT) (cc rr : Int) (a : Ad) : Ad × Bool := if inA f a = true then (movG cc rr a, true) else (a, !inA g a)
def mvA (f g : ArT) (cc rr : Int) (x : ArT) : ArT × Bool := if yLa x f = true then (⟨(movG cc rr (x.a, x.b)).1, (movG cc rr (x.a, x.b)).2, (movG cc rr (x.c, x.d)).1, (movG cc rr (x.c, x.d)).2⟩, true) else (x, !yLa x g)
theorem ymy (a : Ad) (pf pm pg pc pr : Nat) (f g : ArT) (cc rr : Int) (w : World) (h : MvAt w pf pm pg pc pr f g cc rr) :
    Calls Tryz.prog 44 #[.agg #[a.1, a.2], v_ pf, v_ pm, v_ pg] w fun e w' => e = .returned (.tuple #[.agg #[.int .i64 (mvC f g cc rr a).1.1, .int .i64 (mvC f g cc rr a).1.2], (mvC f g cc rr a).2]) /\ Xt w w' := by
 obtain ⟨B, hB⟩ := e_ w.heap.size;obtain ⟨w0, hw0⟩ := e_ (w.alloc (.cells #[a.1, a.2] 24));have hs0 : w0.heap.size = B + 1 := (by rw [<- hw0, <- hB]; simp);obtain ⟨w1, hw1⟩ := e_ (w0.alloc (.cells #[.int .i64 0, .int .i64 0] 24));have hx1 : Xt w w1 := (by rw [<- hw1, <- hw0]; exact ((Xt.refl w).alloc _).alloc _);have HB : Hid (r_ w1 B #[a.1, a.2] 24) := by
  unfold Hid; rw [<- hw1]; exact (Below.heap_alloc w0 _ _ (by omega)).trans (by rw [<- hw0, <- hB]; exact (a_ w _).1)
 have HR : Hid (r_ w1 (B + 1) #[.int .i64 0, .int .i64 0] 24) := by
  unfold Hid; rw [<- hw1, <- hs0]; exact (a_ w0 _).1
 have HPG : Hid (pg ≠ B + 1) := h_ fun e => by
  have := (g_ h.rg).1;omega
 have HM := h_ (h.xt hx1);have HX1 := h_ hx1;have hBB := h_ hB;have HCF := h_ (zkF f.a f.b f.c f.d a.1 a.2 w1);obtain ⟨vf, hvf⟩ := e_ (inA f a);rw [show inB f.a f.b f.c f.d a.1 a.2 = vf from hvf] at HCF;obtain ⟨⟨x0, x1, x2, x3⟩, _⟩ := jr0 HM.out.rf;obtain ⟨b0, b1, _, _⟩ := zxi HB.out;unfold mvC;rw [hvf];clear hx1 h hvf;have hm1 : True := trivial;cases vf
 . simp only [Bool.false_eq_true, if_false];obtain ⟨vg, hvg⟩ := e_ (inA g a);rw [hvg];have HVG := h_ hvg;clear hvg;go_enter Tryz.func44, Tryz.ntmps44;go_wp2_with (first
    | (go_at_call 16; have hm0 := hm1; clear hm1 hm0; refine (HCF.out).mono ?_; rintro e w2 ⟨rfl, hg2⟩; have HX2 : Hid (Xt w1 w2) := hg2.xt; clear hg2))
   have HX2d : Hid (Xt w1 w2.drew) := HX2.out.drew;have HMS : Hid (∀ V, Xt w1 V -> c_ V B 0 a.1 /\ c_ V B 1 a.2 /\ c_ V pg 0 g.a /\ c_ V pg 1 g.b /\ c_ V pg 2 g.c /\ c_ V pg 3 g.d) := h_ fun V hV => by
    obtain ⟨b0, b1, _, _⟩ := zxi (rowX hV HB.out);obtain ⟨⟨x0, x1, x2, x3⟩, _⟩ := jr0 (HM.out.xt hV).rg;exact ⟨b0, b1, x0, x1, x2, x3⟩
   have hlg := HM.out.rg;have hpgB : pg < B + 1 \/ B + 1 < pg \/ pg = B + 1 := (by omega);have HCG := h_ (zkF g.a g.b g.c g.d a.1 a.2 w2.drew);rw [show inB g.a g.b g.c g.d a.1 a.2 = vg from HVG.out] at HCG
   have HMT : Hid (∀ V, Xt w1 V -> ((V.setCell ⟨B + 1, 0, none⟩ (.int .i64 a.1)).setCell ⟨B + 1, 1, none⟩ (.int .i64 a.2)).cell? ⟨B, 0, none⟩ = some (.int .i64 a.1) /\ ((V.setCell ⟨B + 1, 0, none⟩ (.int .i64 a.1)).setCell ⟨B + 1, 1, none⟩ (.int .i64 a.2)).cell? ⟨B, 1, none⟩ = some (.int .i64 a.2) /\ ((V.setCell ⟨B + 1, 0, none⟩ (.int .i64 a.1)).setCell ⟨B + 1, 1, none⟩ (.int .i64 a.2)).cell? ⟨pg, 0, none⟩ = some (.int .i64 g.a) /\ ((V.setCell ⟨B + 1, 0, none⟩ (.int .i64 a.1)).setCell ⟨B + 1, 1, none⟩ (.int .i64 a.2)).cell? ⟨pg, 1, none⟩ = some (.int .i64 g.b) /\ ((V.setCell ⟨B + 1, 0, none⟩ (.int .i64 a.1)).setCell ⟨B + 1, 1, none⟩ (.int .i64 a.2)).cell? ⟨pg, 2, none⟩ = some (.int .i64 g.c) /\ ((V.setCell ⟨B + 1, 0, none⟩ (.int .i64 a.1)).setCell ⟨B + 1, 1, none⟩ (.int .i64 a.2)).cell? ⟨pg, 3, none⟩ = some (.int .i64 g.d)) := h_ fun V hV => by
    obtain ⟨b0, b1, x0, x1, x2, x3⟩ := HMS.out V hV;have hk : ∀ b o u, b ≠ B + 1 -> V.cell? ⟨b, o, none⟩ = some u -> ((V.setCell ⟨B + 1, 0, none⟩ (.int .i64 a.1)).setCell ⟨B + 1, 1, none⟩ (.int .i64 a.2)).cell? ⟨b, o, none⟩ = some u := fun b o u hb hu => (o_ _ _ _ _ (by simp)).trans ((o_ _ _ _ _ (by simp)).trans hu);exact ⟨hk _ _ _ (by omega) b0, hk _ _ _ (by omega) b1, hk _ _ _ HPG.out x0, hk _ _ _ HPG.out x1, hk _ _ _ HPG.out x2, hk _ _ _ HPG.out x3⟩
   clear hlg hpgB;refine wp_region_held_drew (S := fun V => c_ V B 0 a.1 /\ c_ V B 1 a.2 /\ c_ V pg 0 g.a /\ c_ V pg 1 g.b /\ c_ V pg 2 g.c /\ c_ V pg 3 g.d) (by kernel_rfl) (HMS.out _ HX2d.out) (fun hHeld => ?_);refine tkS 0 ?_;refine tkS 1 ?_;refine tkS 2 ?_;refine rdH 3 (fun K hK => ?_);go_simp;refine (HCG.out).mono ?_;rintro e w3 ⟨rfl, hg3⟩;have HX3 : Hid (Xt w1 w3) := HX2d.out.trans hg3.xt;obtain ⟨e0', e1', g0', g1'⟩ := zxi (rowX HX3.out HR.out);refine ko hK (HMS.out _ HX3.out) fun hHeld2 => ?_
   clear hK K hg3;refine tkS 4 ?_;refine rdH 5 (fun K hK => ?_);go_simp;refine ko hK (HMT.out _ HX3.out) fun hHeld3 => ?_;clear hK K;refine tkS 6 ?_;refine z_ (by kernel_rfl) ?_ _;go_wp2_with fail;have hrow : ((w3.setCell ⟨B + 1, 0, none⟩ (.int .i64 a.1)).setCell ⟨B + 1, 1, none⟩ (.int .i64 a.2)).heap[B + 1]? = some (.cells #[a.1, a.2] 24 (0, 0)) := ysv (ysv (rowX HX3.out HR.out) 0 _) 1 _
   have hxe : Xt w ((w3.setCell ⟨B + 1, 0, none⟩ (.int .i64 a.1)).setCell ⟨B + 1, 1, none⟩ (.int .i64 a.2)) := (((HX1.out.trans HX3.out).grownB (yiv _ _ _ _) (fun q hq => by cases hq; rw [hBB.out]; omega))).grownB (yiv _ _ _ _) (fun q hq => by cases hq; rw [hBB.out]; omega)
   (try simp only [Exit.inBlock, Exit.then])
   refine p_ (v := .tuple #[.agg #[a.1, a.2], .bool (!vg)]) ?_ rfl ⟨rfl, hxe⟩;rw [results_cell_tmp rfl]
   show ((asAddr (v_ (B + 1))).run _ _).andThen _ = _
   simp only [asAddr, Sem.run_pure, Result.andThen_ok, l_ _ _ _ 24 _ _ _ hrow Tryz.underlying24 rfl (by kernel_rfl)];rfl
 . simp only [if_true];have hb2 : True := trivial;go_enter Tryz.func44, Tryz.ntmps44;go_wp2_with (first
    | (go_at_call 16; have hm0 := hm1; clear hm1 hm0; refine (HCF.out).mono ?_; rintro e w2 ⟨rfl, hg2⟩; have HX2 : Hid (Xt w1 w2) := hg2.xt; obtain ⟨b0', b1', _, _⟩ := zxi (rowX hg2.xt HB.out); obtain ⟨e0, e1, g0, g1⟩ := zxi (rowX hg2.xt HR.out); have HM2 := h_ (HM.out.xt hg2.xt); have hrm := HM2.out.rm; clear hg2)
    | (go_at_call 43; refine (zM1 a pc pr cc rr _ HM2.out.rc HM2.out.rr).mono ?_; rintro e w3 ⟨rfl, hx3⟩; have HX3 : Hid (Xt w1 w3) := HX2.out.trans hx3; obtain ⟨e0', e1', g0', g1'⟩ := zxi (rowX HX3.out HR.out); clear hx3))
   have hrow : ((w3.setCell ⟨B + 1, 0, none⟩ (.int .i64 (movG cc rr a).1)).setCell ⟨B + 1, 1, none⟩ (.int .i64 (movG cc rr a).2)).heap[B + 1]? = some (.cells #[(movG cc rr a).1, (movG cc rr a).2] 24 (0, 0)) := ysv (ysv (rowX HX3.out HR.out) 0 _) 1 _;have hxe : Xt w ((w3.setCell ⟨B + 1, 0, none⟩ (.int .i64 (movG cc rr a).1)).setCell ⟨B + 1, 1, none⟩ (.int .i64 (movG cc rr a).2)) := (((HX1.out.trans HX3.out).grownB (yiv _ _ _ _) (fun q hq => by cases hq; rw [hBB.out]; omega))).grownB (yiv _ _ _ _) (fun q hq => by cases hq; rw [hBB.out]; omega)
   (try simp only [Exit.inBlock, Exit.then])
   refine p_ (v := .tuple #[.agg #[(movG cc rr a).1, (movG cc rr a).2], .bool true]) ?_ rfl ⟨rfl, hxe⟩;rw [results_cell_tmp rfl]
   show ((asAddr (v_ (B + 1))).run _ _).andThen _ = _
   simp only [asAddr, Sem.run_pure, Result.andThen_ok, l_ _ _ _ 24 _ _ _ hrow Tryz.underlying24 rfl (by kernel_rfl)];rfl
theorem zGY (x : ArT) (pf pm pg pc pr : Nat) (f g : ArT) (cc rr : Int) (w : World) (h : MvAt w pf pm pg pc pr f g cc rr) :
    Calls Tryz.prog 45 #[arT x, v_ pf, v_ pm, v_ pg] w fun e w' => e = .returned (.tuple #[arT (mvA f g cc rr x).1, (mvA f g cc rr x).2]) /\ Xt w w' := by
 obtain ⟨B, hB⟩ := e_ w.heap.size;obtain ⟨w0, hw0⟩ := e_ (w.alloc (.cells #[x.a, x.b, x.c, x.d] 26));have hs0 : w0.heap.size = B + 1 := (by rw [<- hw0, <- hB]; simp);obtain ⟨w1, hw1⟩ := e_ (w0.alloc (.cells #[.int .i64 0, .int .i64 0, .int .i64 0, .int .i64 0] 26));have hx1 : Xt w w1 := (by rw [<- hw1, <- hw0]; exact ((Xt.refl w).alloc _).alloc _);have HB : Hid (r_ w1 B #[x.a, x.b, x.c, x.d] 26) := by
  unfold Hid; rw [<- hw1]; exact (Below.heap_alloc w0 _ _ (by omega)).trans (by rw [<- hw0, <- hB]; exact (a_ w _).1)
 have HR : Hid (r_ w1 (B + 1) #[.int .i64 0, .int .i64 0, .int .i64 0, .int .i64 0] 26) := by
  unfold Hid; rw [<- hw1, <- hs0]; exact (a_ w0 _).1
 have HPG : Hid (pg ≠ B + 1) := h_ fun e => by
  have := (g_ h.rg).1;omega
 have HPM : Hid (pm ≠ B + 1) := h_ fun e => by
  have := b_ w _ h.rm;simp only at this;omega
 have HM := h_ (h.xt hx1);have HX1 := h_ hx1;have hBB := h_ hB;have HCF := h_ (j8O x f w1);obtain ⟨vf, hvf⟩ := e_ (yLa x f);rw [hvf] at HCF;obtain ⟨⟨x0, x1, x2, x3⟩, _⟩ := jr0 HM.out.rf;obtain ⟨⟨b0, b1, b2, b3⟩, _⟩ := jr0 HB.out;unfold mvA;rw [hvf];clear hx1 h hvf;have hm1 : True := trivial;cases vf
 . simp only [Bool.false_eq_true, if_false];obtain ⟨vg, hvg⟩ := e_ (yLa x g);rw [hvg];have HVG := h_ hvg;clear hvg;go_enter Tryz.func45, Tryz.ntmps45;go_wp2_with (first
    | (go_at_call 46; have hm0 := hm1; clear hm1 hm0; refine (HCF.out).mono ?_; rintro e w2 ⟨rfl, hg2⟩; have HX2 : Hid (Xt w1 w2) := hg2; clear hg2))
   have HX2d : Hid (Xt w1 w2.drew) := HX2.out.drew;have HMS : Hid (∀ V, Xt w1 V -> c_ V B 0 x.a /\ c_ V B 1 x.b /\ c_ V B 2 x.c /\ c_ V B 3 x.d /\ c_ V pg 0 g.a /\ c_ V pg 1 g.b /\ c_ V pg 2 g.c /\ c_ V pg 3 g.d) := h_ fun V hV => by
    obtain ⟨⟨b0, b1, b2, b3⟩, _⟩ := jr0 (rowX hV HB.out);obtain ⟨⟨x0, x1, x2, x3⟩, _⟩ := jr0 (HM.out.xt hV).rg;exact ⟨b0, b1, b2, b3, x0, x1, x2, x3⟩
   have HCG := h_ (j8O x g w2.drew);rw [HVG.out] at HCG
   have HMT : Hid (∀ V, Xt w1 V -> ((((V.setCell ⟨B + 1, 0, none⟩ (.int .i64 x.a)).setCell ⟨B + 1, 1, none⟩ (.int .i64 x.b)).setCell ⟨B + 1, 2, none⟩ (.int .i64 x.c)).setCell ⟨B + 1, 3, none⟩ (.int .i64 x.d)).cell? ⟨B, 0, none⟩ = some (.int .i64 x.a) /\ ((((V.setCell ⟨B + 1, 0, none⟩ (.int .i64 x.a)).setCell ⟨B + 1, 1, none⟩ (.int .i64 x.b)).setCell ⟨B + 1, 2, none⟩ (.int .i64 x.c)).setCell ⟨B + 1, 3, none⟩ (.int .i64 x.d)).cell? ⟨B, 1, none⟩ = some (.int .i64 x.b) /\ ((((V.setCell ⟨B + 1, 0, none⟩ (.int .i64 x.a)).setCell ⟨B + 1, 1, none⟩ (.int .i64 x.b)).setCell ⟨B + 1, 2, none⟩ (.int .i64 x.c)).setCell ⟨B + 1, 3, none⟩ (.int .i64 x.d)).cell? ⟨B, 2, none⟩ = some (.int .i64 x.c) /\ ((((V.setCell ⟨B + 1, 0, none⟩ (.int .i64 x.a)).setCell ⟨B + 1, 1, none⟩ (.int .i64 x.b)).setCell ⟨B + 1, 2, none⟩ (.int .i64 x.c)).setCell ⟨B + 1, 3, none⟩ (.int .i64 x.d)).cell? ⟨B, 3, none⟩ = some (.int .i64 x.d) /\ ((((V.setCell ⟨B + 1, 0, none⟩ (.int .i64 x.a)).setCell ⟨B + 1, 1, none⟩ (.int .i64 x.b)).setCell ⟨B + 1, 2, none⟩ (.int .i64 x.c)).setCell ⟨B + 1, 3, none⟩ (.int .i64 x.d)).cell? ⟨pg, 0, none⟩ = some (.int .i64 g.a) /\ ((((V.setCell ⟨B + 1, 0, none⟩ (.int .i64 x.a)).setCell ⟨B + 1, 1, none⟩ (.int .i64 x.b)).setCell ⟨B + 1, 2, none⟩ (.int .i64 x.c)).setCell ⟨B + 1, 3, none⟩ (.int .i64 x.d)).cell? ⟨pg, 1, none⟩ = some (.int .i64 g.b) /\ ((((V.setCell ⟨B + 1, 0, none⟩ (.int .i64 x.a)).setCell ⟨B + 1, 1, none⟩ (.int .i64 x.b)).setCell ⟨B + 1, 2, none⟩ (.int .i64 x.c)).setCell ⟨B + 1, 3, none⟩ (.int .i64 x.d)).cell? ⟨pg, 2, none⟩ = some (.int .i64 g.c) /\ ((((V.setCell ⟨B + 1, 0, none⟩ (.int .i64 x.a)).setCell ⟨B + 1, 1, none⟩ (.int .i64 x.b)).setCell ⟨B + 1, 2, none⟩ (.int .i64 x.c)).setCell ⟨B + 1, 3, none⟩ (.int .i64 x.d)).cell? ⟨pg, 3, none⟩ = some (.int .i64 g.d)) := h_ fun V hV => by
    obtain ⟨k0, k1, k2, k3, k4, k5, k6, k7⟩ := HMS.out V hV;have hk : ∀ b o u, b ≠ B + 1 -> V.cell? ⟨b, o, none⟩ = some u -> ((((V.setCell ⟨B + 1, 0, none⟩ (.int .i64 x.a)).setCell ⟨B + 1, 1, none⟩ (.int .i64 x.b)).setCell ⟨B + 1, 2, none⟩ (.int .i64 x.c)).setCell ⟨B + 1, 3, none⟩ (.int .i64 x.d)).cell? ⟨b, o, none⟩ = some u := fun b o u hb hu => (o_ _ _ _ _ (by simp)).trans ((o_ _ _ _ _ (by simp)).trans ((o_ _ _ _ _ (by simp)).trans ((o_ _ _ _ _ (by simp)).trans hu)))
    exact ⟨hk _ _ _ (by omega) k0, hk _ _ _ (by omega) k1, hk _ _ _ (by omega) k2, hk _ _ _ (by omega) k3, hk _ _ _ HPG.out k4, hk _ _ _ HPG.out k5, hk _ _ _ HPG.out k6, hk _ _ _ HPG.out k7⟩
   refine wp_region_held_drew (S := fun V => c_ V B 0 x.a /\ c_ V B 1 x.b /\ c_ V B 2 x.c /\ c_ V B 3 x.d /\ c_ V pg 0 g.a /\ c_ V pg 1 g.b /\ c_ V pg 2 g.c /\ c_ V pg 3 g.d) (by kernel_rfl) (HMS.out _ HX2d.out) (fun hHeld => ?_);refine tkS 0 ?_;refine tkS 1 ?_;refine tkS 2 ?_;refine rdH 3 (fun K hK => ?_);go_simp;refine (HCG.out).mono ?_;rintro e w3 ⟨rfl, hg3⟩;have HX3 : Hid (Xt w1 w3) := HX2d.out.trans hg3
   obtain ⟨⟨e0, e1, e2, e3⟩, ⟨g0, g1, g2, g3⟩⟩ := jr0 (rowX HX3.out HR.out);refine ko hK (HMS.out _ HX3.out) fun hHeld2 => ?_;clear hK K hg3;refine tkS 4 ?_;refine rdH 5 (fun K hK => ?_);go_simp;refine ko hK (HMT.out _ HX3.out) fun hHeld3 => ?_;clear hK K;refine tkS 6 ?_;refine z_ (by kernel_rfl) ?_ _;go_wp2_with fail
   have hrow : ((((w3.setCell ⟨B + 1, 0, none⟩ (.int .i64 x.a)).setCell ⟨B + 1, 1, none⟩ (.int .i64 x.b)).setCell ⟨B + 1, 2, none⟩ (.int .i64 x.c)).setCell ⟨B + 1, 3, none⟩ (.int .i64 x.d)).heap[B + 1]? = some (.cells #[x.a, x.b, x.c, x.d] 26 (0, 0)) := ysv (ysv (ysv (ysv (rowX HX3.out HR.out) 0 _) 1 _) 2 _) 3 _;have hgr : ∀ {A C : World}, Xt w A -> C = A -> Xt w C := fun h e => e ▸ h;have hone : ∀ (A : World) (o : Nat) (u : Value), Xt w A -> Xt w (A.setCell ⟨B + 1, o, none⟩ u) := fun A o u h => h.grownB (yiv _ _ _ _) (fun q hq => by cases hq; rw [hBB.out]; omega)
   have hxe : Xt w ((((w3.setCell ⟨B + 1, 0, none⟩ (.int .i64 x.a)).setCell ⟨B + 1, 1, none⟩ (.int .i64 x.b)).setCell ⟨B + 1, 2, none⟩ (.int .i64 x.c)).setCell ⟨B + 1, 3, none⟩ (.int .i64 x.d)) := hone _ _ _ (hone _ _ _ (hone _ _ _ (hone _ _ _ (HX1.out.trans HX3.out))))
   (try simp only [Exit.inBlock, Exit.then])
   refine p_ (v := .tuple #[.agg #[x.a, x.b, x.c, x.d], .bool (!vg)]) ?_ rfl ⟨rfl, hxe⟩;rw [results_cell_tmp rfl]
   show ((asAddr (v_ (B + 1))).run _ _).andThen _ = _
   simp only [asAddr, Sem.run_pure, Result.andThen_ok, l_ _ _ _ 26 _ _ _ hrow Tryz.underlying26 rfl (by kernel_rfl)];rfl
 . simp only [if_true];go_enter Tryz.func45, Tryz.ntmps45;go_wp2_with (first
    | (go_at_call 46; have hm0 := hm1; clear hm1 hm0; refine (HCF.out).mono ?_; rintro e w2 ⟨rfl, hg2⟩; have HX2 : Hid (Xt w1 w2) := hg2; clear hg2))
   have HX2d : Hid (Xt w1 w2.drew) := HX2.out.drew;have HMS : Hid (∀ V, Xt w1 V -> c_ V B 0 x.a /\ c_ V B 1 x.b /\ c_ V B 2 x.c /\ c_ V B 3 x.d /\ c_ V pm 0 (.func (.func 43) #[] #[v_ pc, v_ pr])) := h_ fun V hV => by
    obtain ⟨⟨b0, b1, b2, b3⟩, _⟩ := jr0 (rowX hV HB.out);exact ⟨b0, b1, b2, b3, (HM.out.xt hV).rm⟩
   have HMT : Hid (∀ V, Xt w1 V -> ((((V.setCell ⟨B + 1, 0, none⟩ (.int .i64 (movG cc rr (x.a, x.b)).1)).setCell ⟨B + 1, 1, none⟩ (.int .i64 (movG cc rr (x.a, x.b)).2)).setCell ⟨B + 1, 2, none⟩ (.int .i64 (movG cc rr (x.c, x.d)).1)).setCell ⟨B + 1, 3, none⟩ (.int .i64 (movG cc rr (x.c, x.d)).2)).cell? ⟨B, 0, none⟩ = some (.int .i64 x.a) /\ ((((V.setCell ⟨B + 1, 0, none⟩ (.int .i64 (movG cc rr (x.a, x.b)).1)).setCell ⟨B + 1, 1, none⟩ (.int .i64 (movG cc rr (x.a, x.b)).2)).setCell ⟨B + 1, 2, none⟩ (.int .i64 (movG cc rr (x.c, x.d)).1)).setCell ⟨B + 1, 3, none⟩ (.int .i64 (movG cc rr (x.c, x.d)).2)).cell? ⟨B, 1, none⟩ = some (.int .i64 x.b) /\ ((((V.setCell ⟨B + 1, 0, none⟩ (.int .i64 (movG cc rr (x.a, x.b)).1)).setCell ⟨B + 1, 1, none⟩ (.int .i64 (movG cc rr (x.a, x.b)).2)).setCell ⟨B + 1, 2, none⟩ (.int .i64 (movG cc rr (x.c, x.d)).1)).setCell ⟨B + 1, 3, none⟩ (.int .i64 (movG cc rr (x.c, x.d)).2)).cell? ⟨B, 2, none⟩ = some (.int .i64 x.c) /\ ((((V.setCell ⟨B + 1, 0, none⟩ (.int .i64 (movG cc rr (x.a, x.b)).1)).setCell ⟨B + 1, 1, none⟩ (.int .i64 (movG cc rr (x.a, x.b)).2)).setCell ⟨B + 1, 2, none⟩ (.int .i64 (movG cc rr (x.c, x.d)).1)).setCell ⟨B + 1, 3, none⟩ (.int .i64 (movG cc rr (x.c, x.d)).2)).cell? ⟨B, 3, none⟩ = some (.int .i64 x.d) /\ ((((V.setCell ⟨B + 1, 0, none⟩ (.int .i64 (movG cc rr (x.a, x.b)).1)).setCell ⟨B + 1, 1, none⟩ (.int .i64 (movG cc rr (x.a, x.b)).2)).setCell ⟨B + 1, 2, none⟩ (.int .i64 (movG cc rr (x.c, x.d)).1)).setCell ⟨B + 1, 3, none⟩ (.int .i64 (movG cc rr (x.c, x.d)).2)).cell? ⟨pm, 0, none⟩ = some (.func (.func 43) #[] #[v_ pc, v_ pr])) := h_ fun V hV => by
    obtain ⟨k0, k1, k2, k3, k4⟩ := HMS.out V hV;have hk : ∀ b o u, b ≠ B + 1 -> V.cell? ⟨b, o, none⟩ = some u -> ((((V.setCell ⟨B + 1, 0, none⟩ (.int .i64 (movG cc rr (x.a, x.b)).1)).setCell ⟨B + 1, 1, none⟩ (.int .i64 (movG cc rr (x.a, x.b)).2)).setCell ⟨B + 1, 2, none⟩ (.int .i64 (movG cc rr (x.c, x.d)).1)).setCell ⟨B + 1, 3, none⟩ (.int .i64 (movG cc rr (x.c, x.d)).2)).cell? ⟨b, o, none⟩ = some u := fun b o u hb hu => (o_ _ _ _ _ (by simp)).trans ((o_ _ _ _ _ (by simp)).trans ((o_ _ _ _ _ (by simp)).trans ((o_ _ _ _ _ (by simp)).trans hu)))
    exact ⟨hk _ _ _ (by omega) k0, hk _ _ _ (by omega) k1, hk _ _ _ (by omega) k2, hk _ _ _ (by omega) k3, hk _ _ _ HPM.out k4⟩
   refine wp_region_held_drew (S := fun V => c_ V B 0 x.a /\ c_ V B 1 x.b /\ c_ V B 2 x.c /\ c_ V B 3 x.d /\ c_ V pm 0 (.func (.func 43) #[] #[v_ pc, v_ pr])) (by kernel_rfl) (HMS.out _ HX2d.out) (fun hHeld => ?_);refine tkS 0 ?_;refine tkS 1 ?_;refine tkS 2 ?_;refine tkS 4 ?_;refine tkS 5 ?_;refine tkS 6 ?_;refine rdH 3 (fun K hK => ?_);go_simp;refine (zM1 (x.a, x.b) pc pr cc rr _ (HM.out.xt HX2d.out).rc (HM.out.xt HX2d.out).rr).mono ?_;rintro e v3 ⟨rfl, hv3⟩
   have HV3 : Hid (Xt w1 v3) := HX2d.out.trans hv3;refine ko hK (HMS.out _ HV3.out) fun hHeldA => ?_;clear hK K hv3;refine rdH 7 (fun K hK => ?_);go_simp;refine (zM1 (x.c, x.d) pc pr cc rr _ (HM.out.xt HV3.out).rc (HM.out.xt HV3.out).rr).mono ?_;rintro e w3 ⟨rfl, hw3⟩;have HX3 : Hid (Xt w1 w3) := HV3.out.trans hw3;obtain ⟨⟨e0, e1, e2, e3⟩, ⟨g0, g1, g2, g3⟩⟩ := jr0 (rowX HX3.out HR.out);refine ko hK (HMS.out _ HX3.out) fun hHeldB => ?_;clear hK K hw3;refine tkS 8 ?_;refine rdH 9 (fun K hK => ?_);go_simp;refine ko hK (HMT.out _ HX3.out) fun hHeld3 => ?_;clear hK K;refine tkS 10 ?_;refine z_ (by kernel_rfl) ?_ _;go_wp2_with fail
   have hrow : ((((w3.setCell ⟨B + 1, 0, none⟩ (.int .i64 (movG cc rr (x.a, x.b)).1)).setCell ⟨B + 1, 1, none⟩ (.int .i64 (movG cc rr (x.a, x.b)).2)).setCell ⟨B + 1, 2, none⟩ (.int .i64 (movG cc rr (x.c, x.d)).1)).setCell ⟨B + 1, 3, none⟩ (.int .i64 (movG cc rr (x.c, x.d)).2)).heap[B + 1]? = some (.cells #[.int .i64 (movG cc rr (x.a, x.b)).1, .int .i64 (movG cc rr (x.a, x.b)).2, .int .i64 (movG cc rr (x.c, x.d)).1, .int .i64 (movG cc rr (x.c, x.d)).2] 26 (0, 0)) := ysv (ysv (ysv (ysv (rowX HX3.out HR.out) 0 _) 1 _) 2 _) 3 _;have hgr : ∀ {A C : World}, Xt w A -> C = A -> Xt w C := fun h e => e ▸ h
   have hone : ∀ (A : World) (o : Nat) (u : Value), Xt w A -> Xt w (A.setCell ⟨B + 1, o, none⟩ u) := fun A o u h => h.grownB (yiv _ _ _ _) (fun q hq => by cases hq; rw [hBB.out]; omega);have hxe : Xt w ((((w3.setCell ⟨B + 1, 0, none⟩ (.int .i64 (movG cc rr (x.a, x.b)).1)).setCell ⟨B + 1, 1, none⟩ (.int .i64 (movG cc rr (x.a, x.b)).2)).setCell ⟨B + 1, 2, none⟩ (.int .i64 (movG cc rr (x.c, x.d)).1)).setCell ⟨B + 1, 3, none⟩ (.int .i64 (movG cc rr (x.c, x.d)).2)) := hone _ _ _ (hone _ _ _ (hone _ _ _ (hone _ _ _ (HX1.out.trans HX3.out))))
   (try simp only [Exit.inBlock, Exit.then])
   refine p_ (v := .tuple #[.agg #[.int .i64 (movG cc rr (x.a, x.b)).1, .int .i64 (movG cc rr (x.a, x.b)).2, .int .i64 (movG cc rr (x.c, x.d)).1, .int .i64 (movG cc rr (x.c, x.d)).2], .bool true]) ?_ rfl ⟨rfl, hxe⟩;rw [results_cell_tmp rfl]
   show ((asAddr (v_ (B + 1))).run _ _).andThen _ = _
   simp only [asAddr, Sem.run_pure, Result.andThen_ok, l_ _ _ _ 26 _ _ _ hrow Tryz.underlying26 rfl (by kernel_rfl)];rfl
end
section
open Go.RowKit Go.Sort
theorem ymr (c : ContT) : z0G c c = true := (zbH _ _).2 rfl
end
section
open Go.RowKit Go.Sort Go.Maps Go.Shelf
attribute [local go_sem] Oper.semAt_some
end
section
open Go.RowKit Go.Sort Go.Maps Go.Shelf
theorem gin_in (n : Nat) (hn : 2 <= n) (p : Option Addr) (x : Ar) (w : World) :
    CallsIn Fence.wide n Tryz.prog 69 #[.pointer p, .agg #[x.1.1, x.1.2, x.2.1, x.2.2]] w fun e w' => e = .returned (.func (.func 116) #[] #[v_ (w.heap.size + 1), v_ (w.heap.size + 2)]) /\
     w' = ((w.alloc (.cells #[x.1.1, x.1.2, x.2.1, x.2.2] 26)).alloc (.cells #[.pointer p] 29)).alloc (.cells #[.func (.func 111) #[] #[v_ w.heap.size]] 99) := by
 have h1 : 1 <= n := (by omega);have hf : Fence.wide.fn 74 := trivial;refine callsIn_of_wp Tryz.func69 rfl trivial ?_ rfl;simp only [Tryz.ntmps69, List.size_toArray, List.length_cons, List.length_nil, Nat.reduceAdd, Nat.reduceSub, Array.replicate_succ, Array.replicate_zero, List.push_toArray, List.append_toArray, List.nil_append, List.cons_append]
 gi_wp2_with (gi_at_call 74; refine (jip (n - 1) p _ ⟨_, _, rfl⟩ _).mono ?_; rintro e w' ⟨rfl, rfl⟩)
 go_ret;exact ⟨by simp, by simp⟩
end
section
open Go.RowKit Go.Sort Go.Maps Go.Shelf Go.MapKept
def putR (a : Ad) (c : ContT) (av : Value) : Array Value := #[.int .i64 a.1, .int .i64 a.2, .int .i64 c.kind, .int .i64 c.v.kind, .float .f64 c.v.x, .string c.v.s, .bool c.v.b, .int .i64 c.v.f, .int .i64 c.t.kind, .int .i64 c.t.op, .float .f64 c.t.x, .string c.t.s, .bool c.t.b, .int .i64 c.t.f, .int .i64 c.t.ref.a.1, .int .i64 c.t.ref.a.2, .bool c.t.ref.cf, .bool c.t.ref.rf, .int .i64 c.t.to.a.1, .int .i64 c.t.to.a.2, .bool c.t.to.cf, .bool c.t.to.rf, av]
def yQx (c : ContT) (av : Value) : List Value := [.int .i64 c.kind, .int .i64 c.v.kind, .float .f64 c.v.x, .string c.v.s, .bool c.v.b, .int .i64 c.v.f, .int .i64 c.t.kind, .int .i64 c.t.op, .float .f64 c.t.x, .string c.t.s, .bool c.t.b, .int .i64 c.t.f, .int .i64 c.t.ref.a.1, .int .i64 c.t.ref.a.2, .bool c.t.ref.cf, .bool c.t.ref.rf, .int .i64 c.t.to.a.1, .int .i64 c.t.to.a.2, .bool c.t.to.cf, .bool c.t.to.rf, av]
theorem yG9 (a : Ad) (c : ContT) (av : Value) (h : av.oneCell' = true) : (putR a c av).all (·.oneCell') = true := by
 simp only [putR, List.all_toArray, List.all_cons, List.all_nil, h, Bool.and_true]; rfl
structure PBox (W : World) (X : Nat) (a : Ad) (c : ContT) (av : Value) : Prop where
 row : W.heap[X]? = some (.cells (putR a c av) 70 (0, 0))
section
variable {W W' : World} {X : Nat} {a : Ad} {c : ContT} {av : Value}
theorem PBox.xt (h : PBox W X a c av) (hx : Xt W W') : PBox W' X a c av := ⟨rowX hx h.row⟩
theorem PBox.lt (h : PBox W X a c av) : X < W.heap.size := (g_ h.row).1
theorem PBox.cells (h : PBox W X a c av) : c_ W X 0 a.1 /\ c_ W X 1 a.2 /\ c_ W X 2 c.kind /\ W.frozen? ⟨X, 0, none⟩ = false /\ W.frozen? ⟨X, 1, none⟩ = false := by
 have := h.row;refine ⟨?_, ?_, ?_, ?_, ?_⟩ <;> simp [World.cell?, World.frozen?, this, putR]
theorem PBox.rng (h : PBox W X a c av) : W.rangeAt X 0 (putR a c av).toList := fun j v hv => by
 simp only [World.cell?, h.row, Nat.zero_add];simpa using hv
theorem PBox.rngC (h : PBox W X a c av) : W.rangeAt X 2 (yQx c av) := fun j v hv => by
 have h1 : (putR a c av).toList[2 + j]? = some v := by
  rw [Nat.add_comm];exact hv
 have := h.rng (2 + j) v h1
 rwa [Nat.zero_add] at this
theorem PBox.rngF (h : PBox W X a c av) : W.rangeAt X 8 (nodeC c.t av) := fun j v hv => by
 have h1 : (putR a c av).toList[8 + j]? = some v := by
  rw [Nat.add_comm];exact hv
 have := h.rng (8 + j) v h1
 rwa [Nat.zero_add] at this
theorem PBox.there (h : PBox W X a c av) (i m : Nat) (hm : i + m <= 23) : W.there X i m := y7R h.row i m hm
theorem PBox.out {Y : Nat} (h : PBox W X a c av) (hg : W.grownBy W' (some Y)) (hne : X ≠ Y) : PBox W' X a c av := ⟨(hg.block X h.lt (fun e => by cases e; exact hne rfl)).trans h.row⟩
theorem PBox.set0 (h : PBox W X a c av) (v : Int) : PBox (W.setCell ⟨X, 0, none⟩ (.int .i64 v)) X (v, a.2) c av := ⟨ysv h.row 0 _⟩
theorem PBox.set1 (h : PBox W X a c av) (v : Int) : PBox (W.setCell ⟨X, 1, none⟩ (.int .i64 v)) X (a.1, v) c av := ⟨ysv h.row 1 _⟩
theorem z6o {w : World} {b : Nat} {v0 v1 v2 v3 v4 v5 v6 v7 v8 v9 v10 v11 v12 v13 v14 v15 v16 v17 v18 v19 v20 v21 v22 u0 u1 u2 u3 u4 u5 u6 u7 u8 u9 u10 u11 u12 u13 u14 : Value} {T : TypeId} (h : w.heap[b]? = some (.cells #[v0, v1, v2, v3, v4, v5, v6, v7, v8, v9, v10, v11, v12, v13, v14, v15, v16, v17, v18, v19, v20, v21, v22] T (0, 0))) : (w.setCells b 8 [u0, u1, u2, u3, u4, u5, u6, u7, u8, u9, u10, u11, u12, u13, u14]).heap[b]? = some (.cells #[v0, v1, v2, v3, v4, v5, v6, v7, u0, u1, u2, u3, u4, u5, u6, u7, u8, u9, u10, u11, u12, u13, u14] T (0, 0)) := by
 have := (ysv (ysv (ysv (ysv (ysv (ysv (ysv (ysv (ysv (ysv (ysv (ysv (ysv (ysv (ysv h 8 u0) 9 u1) 10 u2) 11 u3) 12 u4) 13 u5) 14 u6) 15 u7) 16 u8) 17 u9) 18 u10) 19 u11) 20 u12) 21 u13) 22 u14);simp only [List.setIfInBounds_toArray, List.set_cons_zero, List.set_cons_succ] at this;exact this
theorem PBox.form (h : PBox W X a c av) (t : NodeT) (av' : Value) : PBox (W.setCells X 8 (nodeC t av')) X a ⟨c.kind, c.v, t⟩ av' := ⟨z6o h.row⟩
end
theorem boxP (w : World) (a : Ad) (c : ContT) (av : Value) : ∃ wZ wR, w.alloc (.cells #[.int .i64 0, .int .i64 0, .int .i64 0, .int .i64 0, .float .f64 0, .string ⟨#[]⟩, .bool false, .int .i64 0, .int .i64 0, .int .i64 0, .float .f64 0, .string ⟨#[]⟩, .bool false, .int .i64 0, .int .i64 0, .int .i64 0, .bool false, .bool false, .int .i64 0, .int .i64 0, .bool false, .bool false, .slice none 0 0] 70) = wZ /\ wZ.setRow w.heap.size (putR a c av) = wR /\ r_ wZ w.heap.size #[.int .i64 0, .int .i64 0, .int .i64 0, .int .i64 0, .float .f64 0, .string ⟨#[]⟩, .bool false, .int .i64 0, .int .i64 0, .int .i64 0, .float .f64 0, .string ⟨#[]⟩, .bool false, .int .i64 0, .int .i64 0, .int .i64 0, .bool false, .bool false, .int .i64 0, .int .i64 0, .bool false, .bool false, .slice none 0 0] 70 /\ PBox wR w.heap.size a c av /\ Xt w wR /\ wR.heap.size = w.heap.size + 1 := by
 have h1 := (a_ w (.cells #[.int .i64 0, .int .i64 0, .int .i64 0, .int .i64 0, .float .f64 0, .string ⟨#[]⟩, .bool false, .int .i64 0, .int .i64 0, .int .i64 0, .float .f64 0, .string ⟨#[]⟩, .bool false, .int .i64 0, .int .i64 0, .int .i64 0, .bool false, .bool false, .int .i64 0, .int .i64 0, .bool false, .bool false, .slice none 0 0] 70)).1;refine ⟨_, _, rfl, rfl, h1, ⟨setRow_heap _ _ _ _ _ _ h1⟩, ((Xt.refl w).alloc _).grownB (jGX _ _ _) (fun m hm => by cases hm; exact Nat.le_refl _), by simp⟩
theorem PutsIn.row {w : World} {a : Option Addr} {m cap i : Nat} {l : List PI} {x : PI} (h : PutsIn w (.slice a m cap) l) (hx : l[i]? = some x) : ∃ b off, a = some ⟨b, off, none⟩ /\ w.rangeAt b (off + i * 23) (putR x.a x.c (.slice x.p x.c.t.args.length x.cap)).toList := by
 obtain ⟨a', cap', e, h1, h2, h3⟩ := h.sl;cases e;obtain ⟨b, off, rfl, hc⟩ := h3 (by intro e; subst e; simp at hx);exact ⟨b, off, rfl, fun j v hv => hc i x hx j v hv⟩
theorem jdA {w w' : World} (hx : Xt w w') {b o : Nat} {cs : List Value} (h : w.rangeAt b o cs) : w'.rangeAt b o cs := fun j v hv => hx.cellsIn _ _ _ (h j v hv)
end
section
open Go.ChangeShapes Go.WideShapes Go.ChangeAt Go.RowKit Go.Joins Go.Deep Go.Shelf
section
variable {H : Type} {enc : TypeId × Value -> H} {W : World} {base : Nat} {spare : Nat -> Bool} {held : Bool}
theorem yqS {α : Type} {p : α -> Prop} {encA : α -> List Value} {sz : Nat} {t e : TypeId} {n : Nat} {v : Value} {x : DataW H × List MemPlace} (ht : Tryz.prog.underlying t = some (.slice e)) (hc : Tryz.prog.cellsOf e = sz) (hpos : 0 < sz) (hk : ∀ x, (encA x).length = sz)
    (he : ∀ m cs y, DataW.trod enc Tryz.prog W base spare held m e cs = some y -> ∃ a : α, cs = encA a /\ p a) (h : DataW.trod enc Tryz.prog W base spare held n t [v] = some x) : ∃ l, SlOf W encA sz v l /\ ∀ x ∈ l, p x := by
 rcases open_slice ht h with ⟨h0, _⟩ | ⟨a, len, cap, m, k, D, Pl, hcs, hb, hl, hm, hmm, hx, hi⟩
 . cases h0;exact ⟨[], SlOf.nil _ _ _ _ _ (by omega), fun x hx => by cases hx⟩
 . cases hcs;rw [hc] at hi;have each : ∀ i, i < len -> ∃ u : α, (∀ (j : Nat) (c : Value), (encA u)[j]? = some c -> W.cell? (a.add (i * sz + j)) = some c) /\ p u := by
    intro i hil;have him : i < m := (by rw [hmm]; split <;> omega);obtain ⟨cs', h1, h2⟩ := hi i him;obtain ⟨u, rfl, hp⟩ := he _ _ _ h2;obtain ⟨_, hlen, hcell⟩ := World.cells?_some h1;refine ⟨u, fun j c hj => ?_, hp⟩;have hjs : j < sz := (by have := (List.getElem?_eq_some_iff.1 hj).1; rw [hk] at this; exact this);rw [<- add_add, hcell j hjs, hj]
   obtain ⟨l, hl1, hl2⟩ := jGp len each;refine ⟨l, ⟨some a, cap, by rw [hl1], by omega, by unfold maxLen at hm; omega, fun hne => ?_⟩, fun x hx => ?_⟩
   . obtain ⟨b, o, spot⟩ := a;obtain ⟨y, hy⟩ : ∃ y, l[0]? = some y := by
      cases l with
      | nil => exact absurd rfl hne
      | cons y _ => exact ⟨y, rfl⟩
     have hy0 : ∃ c, (encA y)[0]? = some c := ⟨(encA y)[0]'(by rw [hk]; exact hpos), j_ (by rw [hk]; exact hpos)⟩;obtain ⟨c, hc0⟩ := hy0;have hspot : spot = none := (by simpa [Addr.add] using World.cell?_spot ((hl2 0 y hy).1 0 c hc0));subst hspot;refine ⟨b, o, rfl, fun k x hx i u hu => ?_⟩;have := (hl2 k x hx).1 i u hu;rw [Addr.add_lit] at this
     rwa [<- Nat.add_assoc] at this
   . obtain ⟨i, hi⟩ := List.getElem?_of_mem hx;exact (hl2 i x hi).2
theorem zZ0 {α : Type} {p : α -> Prop} {encA : α -> List Value} {sz : Nat} {t e : TypeId} {n : Nat} {v : Value} {x : DataW H × List MemPlace} (ht : Tryz.prog.underlying t = some (.slice e)) (hc : Tryz.prog.cellsOf e = sz) (hpos : 0 < sz) (hk : ∀ x, (encA x).length = sz)
    (he : ∀ m cs y, DataW.trod enc Tryz.prog W base spare held m e cs = some y -> (∀ q ∈ y.1.weights Tryz.prog e, q <= reachBytes) -> ∃ a : α, cs = encA a /\ p a) (h : DataW.trod enc Tryz.prog W base spare held n t [v] = some x) (hz : ∀ q ∈ x.1.weights Tryz.prog t, q <= reachBytes) : ∃ l, SlOf W encA sz v l /\ ∀ x ∈ l, p x := by
 rcases DataW.trod_slice ht h with ⟨h0, _⟩ | ⟨a, len, cap, elems, rest, m, hq, hcs, hx, hb, hlc, hcap, hle, hel, _, _⟩
 . cases h0;exact ⟨[], SlOf.nil _ _ _ _ _ (by omega), fun x hx => by cases hx⟩
 . cases hcs;rw [hc] at hel;rw [hx] at hz;have each : ∀ i, i < len -> ∃ u : α, (∀ (j : Nat) (c : Value), (encA u)[j]? = some c -> W.cell? (a.add (i * sz + j)) = some c) /\ p u := by
    intro i hil;have hi := hel i hil;rw [j_ (by omega)] at hi;obtain ⟨cs', h1, h2⟩ := Option.bind_eq_some_iff.1 hi;obtain ⟨u, rfl, hp⟩ := he _ _ _ h2 (fun z hq => hz z (by
     simp only [DataW.weights, ht, List.mem_cons, List.mem_append];exact Or.inr (Or.inl (yn7 (List.mem_map.2 ⟨_, List.getElem_mem (by omega), rfl⟩) hq))))
    obtain ⟨_, hlen, hcell⟩ := World.cells?_some h1;refine ⟨u, fun j c hj => ?_, hp⟩;have hjs : j < sz := (by have := (List.getElem?_eq_some_iff.1 hj).1; rw [hk] at this; exact this);rw [<- add_add, hcell j hjs, hj]
   obtain ⟨l, hl1, hl2⟩ := jGp len each;refine ⟨l, ⟨some a, cap, by rw [hl1], by omega, by unfold maxLen at hcap; omega, fun hne => ?_⟩, fun x hx => ?_⟩
   . obtain ⟨b, o, spot⟩ := a;obtain ⟨y, hy⟩ : ∃ y, l[0]? = some y := by
      cases l with
      | nil => exact absurd rfl hne
      | cons y _ => exact ⟨y, rfl⟩
     have hy0 : ∃ c, (encA y)[0]? = some c := ⟨(encA y)[0]'(by rw [hk]; exact hpos), j_ (by rw [hk]; exact hpos)⟩;obtain ⟨c, hc0⟩ := hy0;have hspot : spot = none := (by simpa [Addr.add] using World.cell?_spot ((hl2 0 y hy).1 0 c hc0));subst hspot;refine ⟨b, o, rfl, fun k x hx i u hu => ?_⟩;have := (hl2 k x hx).1 i u hu;rw [Addr.add_lit] at this
     rwa [<- Nat.add_assoc] at this
   . obtain ⟨i, hi⟩ := List.getElem?_of_mem hx;exact (hl2 i x hi).2
theorem jk0 : Tryz.prog.cellsOf 70 = 23 := by kernel_rfl
theorem ydH {n : Nat} {cs : List Value} {x : DataW H × List MemPlace} (h : DataW.trod enc Tryz.prog W base spare held n 70 cs = some x) (hz : ∀ q ∈ x.1.weights Tryz.prog 70, q <= reachBytes) : ∃ y : PI, cs = inC1 y /\ (y.c.ok /\ ∃ n, ArgsIn W n (.slice y.p y.c.t.args.length y.cap) y.c.t.args) /\ yQE y.c.t := by
 obtain ⟨y0, y1, m, hx, hl, h0, h1⟩ := trod_struct2 Tryz.underlying70 h;rw [jk0] at hl
 match cs, hl with
 | c0 :: c1 :: r, hl =>
  have g0 : DataW.trod enc Tryz.prog W base spare held m 24 [c0, c1] = some y0 := (by simpa [Tryz.cellsAddr] using h0);obtain ⟨a, ea⟩ := zMx g0;have hr : r.length = 21 := (by simpa using hl);have g1 : DataW.trod enc Tryz.prog W base spare held m 51 r = some y1 := by
   have := h1;simp only [Tryz.cellsContent, List.drop_succ_cons, List.drop_zero] at this
   rwa [List.take_of_length_le (by omega)] at this
  have hz1 : ∀ q ∈ y1.1.weights Tryz.prog 51, q <= reachBytes := fun q hq => hz q (by rw [hx]; simp [DataW.weights, Tryz.underlying70, DataW.weightsEach, hq]);obtain ⟨c, p, cap, n, e, q1, q2, q3⟩ := zHw g1 hz1;simp only [adC, List.cons.injEq, and_true] at ea;obtain ⟨rfl, rfl⟩ := ea;have e2 : r = (jEC c p c.t.args.length cap).cells.toList := (by rw [<- e]; simp [Value.cells]);refine ⟨⟨a, c, p, cap⟩, ?_, ⟨q2, n, q1⟩, q3⟩;rw [e2]; rfl
theorem jc0 {n : Nat} {v : Value} {x : DataW H × List MemPlace} (h : DataW.trod enc Tryz.prog W base spare held n 22 [v] = some x) (hz : ∀ q ∈ x.1.weights Tryz.prog 22, q <= reachBytes) : ∃ l, PutsIn W v l /\ ∀ x ∈ l, yQE x.c.t := by
 obtain ⟨l, h1, h2⟩ := zZ0 (p := fun y : PI => (y.c.ok /\ ∃ n, ArgsIn W n (.slice y.p y.c.t.args.length y.cap) y.c.t.args) /\ yQE y.c.t) Tryz.underlying22 jk0 (by omega) (fun _ => rfl) (fun m cs y h hz => ydH h hz) h hz;exact ⟨l, ⟨h1, fun x hx => (h2 x hx).1⟩, fun x hx => (h2 x hx).2⟩
end
end
end Go.Proofs.YtdoeejhdenifpaaGreatDoor
