import Derived.Test.YtideclfpbpjebaaGreatDoorB13
import Derived.ProofKit
import Derived.Lib.SmallJoins
import Derived.Deep.Slices
import Derived.Test.YtideclfpbpjebaaGreatDoorB21
import Derived.Deep.Cut
namespace Go.Proofs.YtideclfpbpjebaaGreatDoor
section
open Go.ChangeShapes Go.WideShapes Go.ChangeAt Go.RowKit Go.Joins Go.Deep

theorem Tryz.own' : ownKnob Tryz.prog.godebug = none := by kernel_rfl
theorem Tryz.laidOut' : laidOutB Tryz.prog = true := by kernel_rfl
theorem Tryz.cellsInt : Tryz.prog.cellsOf 3 = 1 := by kernel_rfl
theorem Tryz.cellsBool : Tryz.prog.cellsOf 4 = 1 := by kernel_rfl
theorem Tryz.cellsF64 : Tryz.prog.cellsOf 37 = 1 := by kernel_rfl
theorem Tryz.cellsStr : Tryz.prog.cellsOf 9 = 1 := by kernel_rfl
theorem Tryz.cellsAddr : Tryz.prog.cellsOf 36 = 2 := by kernel_rfl
theorem Tryz.cellsRef : Tryz.prog.cellsOf 41 = 4 := by kernel_rfl
theorem Tryz.cellsValue : Tryz.prog.cellsOf 39 = 5 := by kernel_rfl
theorem Tryz.cellsNode : Tryz.prog.cellsOf 44 = 15 := by kernel_rfl
theorem Tryz.cellsNodes : Tryz.prog.cellsOf 42 = 1 := by kernel_rfl
theorem Tryz.cellsContent : Tryz.prog.cellsOf 46 = 21 := by kernel_rfl
theorem ArgsIn.up {w : World} : ∀ {n : Nat} {av : Value} {l : List NodeT}, ArgsIn w n av l → ArgsIn w (n + 1) av l
  | 0, _, _, h => by obtain ⟨rfl, a, cap, rfl, hc⟩ := h; exact ⟨a, cap, rfl, Nat.zero_le _, hc, fun h => absurd rfl h⟩
  | n + 1, _, _, h => by
    obtain ⟨a, cap, rfl, h1, h2, h3⟩ := h
    refine ⟨a, cap, rfl, h1, h2, fun hne => ?_⟩
    obtain ⟨b, off, rfl, hc⟩ := h3 hne
    exact ⟨b, off, rfl, fun k t ht => let ⟨av', q1, q2⟩ := hc k t ht; ⟨av', q1, q2.up⟩⟩
/-! ### what came in, opened -/
theorem size_reach {s : ByteArray} (h : s.data.toList.length ≤ reachBytes) : s.size < 4611686018427387904 := by
  have e : s.size = s.data.toList.length := by rw [Array.length_toList]; rfl
  unfold reachBytes at h
  omega
section
variable {H : Type} {enc : TypeId × Value → H} {W : World} {base : Nat} {spare : Nat → Bool} {held : Bool}
theorem trod_fl {P : Program} {k : FloatKind} {ty : TypeId} {n : Nat} {cs : List Value} {x : DataW H × List MemPlace} (ht : P.underlying ty = some (.float k)) (h : DataW.trod enc P W base spare held n ty cs = some x) : ∃ v, cs = [.float k v] ∧ (Lit.float k v).wf = true := by
  cases n with
  | zero => simp [DataW.trod] at h
  | succ n =>
    unfold DataW.trod at h
    rw [ht] at h
    split at h <;> simp_all
theorem open_f64 {n : Nat} {cs : List Value} {x : DataW H × List MemPlace} (h : DataW.trod enc Tryz.prog W base spare held n 37 cs = some x) : ∃ v, cs = [.float .f64 v] ∧ v < 18446744073709551616 := by
  obtain ⟨v, h1, h2⟩ := trod_fl Tryz.underlying37 h
  exact ⟨v, h1, by simpa [Lit.wf] using h2⟩
set_option maxRecDepth 100000 in
theorem open_ad {n : Nat} {cs : List Value} {x : DataW H × List MemPlace} (h : DataW.trod enc Tryz.prog W base spare held n 36 cs = some x) : ∃ a : Ad, cs = adC a := by
  obtain ⟨y0, y1, m, hx, hl, h0, h1⟩ := trod_struct2 Tryz.underlying36 h
  rw [Tryz.cellsAddr] at hl
  match cs, hl with
  | [c0, c1], _ =>
    have g0 : DataW.trod enc Tryz.prog W base spare held m 3 [c0] = some y0 := by simpa [Tryz.cellsInt] using h0
    have g1 : DataW.trod enc Tryz.prog W base spare held m 3 [c1] = some y1 := by simpa [Tryz.cellsInt] using h1
    obtain ⟨a, e0, _, _⟩ := DataW.trod_int Tryz.underlying3 g0
    obtain ⟨b, e1, _, _⟩ := DataW.trod_int Tryz.underlying3 g1
    simp at e0 e1
    subst e0 e1
    exact ⟨(a, b), rfl⟩
set_option maxRecDepth 100000 in
theorem open_ref {n : Nat} {cs : List Value} {x : DataW H × List MemPlace} (h : DataW.trod enc Tryz.prog W base spare held n 41 cs = some x) : ∃ r : RefT, cs = [.int .i64 r.a.1, .int .i64 r.a.2, .bool r.cf, .bool r.rf] := by
  obtain ⟨xs, m, _, rfl, hl, hlen, hf⟩ := DataW.trod_struct Tryz.underlying41 h
  rw [Tryz.cellsRef] at hl
  match xs, hlen with
  | [y0, y1, y2], _ =>
    match cs, hl with
    | [c0, c1, c2, c3], _ =>
      have g0 : DataW.trod enc Tryz.prog W base spare held m 36 [c0, c1] = some y0 := by simpa [Tryz.cellsAddr] using hf 0 _ rfl
      have g1 : DataW.trod enc Tryz.prog W base spare held m 4 [c2] = some y1 := by simpa [Tryz.cellsBool] using hf 1 _ rfl
      have g2 : DataW.trod enc Tryz.prog W base spare held m 4 [c3] = some y2 := by simpa [Tryz.cellsBool] using hf 2 _ rfl
      obtain ⟨a, ea⟩ := open_ad g0
      obtain ⟨b1, e1, _⟩ := DataW.trod_bool Tryz.underlying4 g1
      obtain ⟨b2, e2, _⟩ := DataW.trod_bool Tryz.underlying4 g2
      simp only [adC, List.cons.injEq, and_true] at ea e1 e2
      obtain ⟨rfl, rfl⟩ := ea
      subst e1 e2
      exact ⟨⟨a, b1, b2⟩, rfl⟩
theorem list_of {α : Type} {p : Nat → α → Prop} : ∀ (n : Nat), (∀ i, i < n → ∃ x, p i x) → ∃ l : List α, l.length = n ∧ ∀ i x, l[i]? = some x → p i x
  | 0, _ => ⟨[], rfl, fun i x h => by simp at h⟩
  | n + 1, h => by
    obtain ⟨l, h1, h2⟩ := list_of n (fun i hi => h i (by omega))
    obtain ⟨x, hx⟩ := h n (by omega)
    refine ⟨l ++ [x], by simp [h1], fun i y hy => ?_⟩
    rcases Nat.lt_or_ge i n with hi | hi
    · rw [List.getElem?_append_left (by omega)] at hy; exact h2 i y hy
    · have : i = n := by
        have := (List.getElem?_eq_some_iff.1 hy).1
        simp [h1] at this; omega
      subst this
      rw [List.getElem?_append_right (by omega), h1, Nat.sub_self] at hy
      simp at hy; subst hy; exact hx
theorem weights_all_mem {P : Program} {e : TypeId} : ∀ {l : List (DataW H)} {d : DataW H} {q : Nat}, d ∈ l → q ∈ d.weights P e → q ∈ DataW.weightsAll P e l
  | x :: r, d, q, hd, hq => by
    simp only [DataW.weightsAll, List.mem_append]
    rcases List.mem_cons.1 hd with rfl | hd
    · exact Or.inl hq
    · exact Or.inr (weights_all_mem hd hq)
theorem okL_of : ∀ {l : List NodeT}, (∀ (i : Nat) (t : NodeT), l[i]? = some t → t.ok) → okL l
  | [], _ => by simp [okL]
  | t :: r, h => by simp only [okL]; exact ⟨h 0 t rfl, okL_of (fun i u hu => h (i + 1) u (by simpa using hu))⟩
theorem smallL_of : ∀ {l : List NodeT}, (∀ (i : Nat) (t : NodeT), l[i]? = some t → smallT t) → smallL l
  | [], _ => by simp [smallL]
  | t :: r, h => by simp only [smallL]; exact ⟨h 0 t rfl, smallL_of (fun i u hu => h (i + 1) u (by simpa using hu))⟩
set_option maxRecDepth 100000 in
set_option maxHeartbeats 1000000 in
theorem open_node : ∀ (n : Nat) {cs : List Value} {x : DataW H × List MemPlace}, DataW.trod enc Tryz.prog W base spare held n 44 cs = some x → (∀ q ∈ x.1.weights Tryz.prog 44, q ≤ reachBytes) → ∃ (t : NodeT) (av : Value), cs = nodeC t av ∧ ArgsIn W n av t.args ∧ t.ok ∧ smallT t := by
  intro n
  induction n using Nat.strongRecOn with
  | ind n ih =>
    intro cs x h hz
    obtain ⟨xs, m, hm, rfl, hl, hlen, hf⟩ := DataW.trod_struct Tryz.underlying44 h
    rw [Tryz.cellsNode] at hl
    match xs, hlen with
    | [y0, y1, y2, y3, y4, y5, y6, y7, y8], _ =>
      match cs, hl with
      | [c0, c1, c2, c3, c4, c5, c6, c7, c8, c9, c10, c11, c12, c13, c14], _ =>
        have g0 : DataW.trod enc Tryz.prog W base spare held m 3 [c0] = some y0 := by simpa [Tryz.cellsInt] using hf 0 _ rfl
        have g1 : DataW.trod enc Tryz.prog W base spare held m 3 [c1] = some y1 := by simpa [Tryz.cellsInt] using hf 1 _ rfl
        have g2 : DataW.trod enc Tryz.prog W base spare held m 37 [c2] = some y2 := by simpa [Tryz.cellsF64] using hf 2 _ rfl
        have g3 : DataW.trod enc Tryz.prog W base spare held m 9 [c3] = some y3 := by simpa [Tryz.cellsStr] using hf 3 _ rfl
        have g4 : DataW.trod enc Tryz.prog W base spare held m 4 [c4] = some y4 := by simpa [Tryz.cellsBool] using hf 4 _ rfl
        have g5 : DataW.trod enc Tryz.prog W base spare held m 3 [c5] = some y5 := by simpa [Tryz.cellsInt] using hf 5 _ rfl
        have g6 : DataW.trod enc Tryz.prog W base spare held m 41 [c6, c7, c8, c9] = some y6 := by simpa [Tryz.cellsRef] using hf 6 _ rfl
        have g7 : DataW.trod enc Tryz.prog W base spare held m 41 [c10, c11, c12, c13] = some y7 := by simpa [Tryz.cellsRef] using hf 7 _ rfl
        have g8 : DataW.trod enc Tryz.prog W base spare held m 42 [c14] = some y8 := by simpa [Tryz.cellsNodes] using hf 8 _ rfl
        obtain ⟨k, e0, _, _⟩ := DataW.trod_int Tryz.underlying3 g0
        obtain ⟨op, e1, _, _⟩ := DataW.trod_int Tryz.underlying3 g1
        obtain ⟨fx, e2, hfx⟩ := open_f64 g2
        have hz3 : ∀ q ∈ y3.1.weights Tryz.prog 9, q ≤ reachBytes := fun q hq => hz q (by simp [DataW.weights, Tryz.underlying44, DataW.weightsEach, hq])
        have hz8 : ∀ q ∈ y8.1.weights Tryz.prog 42, q ≤ reachBytes := fun q hq => hz q (by simp [DataW.weights, Tryz.underlying44, DataW.weightsEach, hq])
        obtain ⟨s, e3, es3, ws⟩ := DataW.trod_string Tryz.underlying9 g3
        rw [es3] at hz3
        obtain ⟨b, e4, _⟩ := DataW.trod_bool Tryz.underlying4 g4
        obtain ⟨f, e5, _, _⟩ := DataW.trod_int Tryz.underlying3 g5
        obtain ⟨r1, e6⟩ := open_ref g6
        obtain ⟨r2, e7⟩ := open_ref g7
        simp only [List.cons.injEq, and_true] at e0 e1 e2 e3 e4 e5 e6 e7
        obtain ⟨rfl, rfl, rfl, rfl⟩ := e6
        obtain ⟨rfl, rfl, rfl, rfl⟩ := e7
        subst e0 e1 e2 e3 e4 e5
        have hs : s.size < 4611686018427387904 := size_reach (hz3 s.data.toList.length (by simp [DataW.weights]))
        have harg : ∃ l : List NodeT, ArgsIn W n c14 l ∧ okL l ∧ l.length ≤ 1099511627744 ∧ smallL l := by
          rcases DataW.trod_slice Tryz.underlying42 g8 with ⟨h0, _⟩ | ⟨a, len, cap, elems, rest, q, hq, hcs, hx, hb, hlc, hcap, hle, hel, _, _⟩
          · cases h0
            rw [hm]
            exact ⟨[], ⟨none, 0, rfl, by simp, by omega, fun h => absurd rfl h⟩, by simp [okL], by simp, by simp [smallL]⟩
          · cases hcs
            rw [Tryz.cellsNode] at hel
            rw [hx] at hz8
            have hlen128 : len ≤ 1099511627744 := by
              have h := hz8 ((elems.length + rest.length) * Tryz.prog.bytesOf 44) (by
                simp only [DataW.weights, Tryz.underlying42, List.length_map, List.mem_cons, true_or])
              rw [show Tryz.prog.bytesOf 44 = 128 by kernel_rfl] at h
              unfold reachBytes at h
              omega
            have each : ∀ i, i < len → ∃ u : NodeT, ∃ av : Value, (∀ (j : Nat) (c : Value), (nodeC u av)[j]? = some c → W.cell? (a.add (i * 15 + j)) = some c) ∧ ArgsIn W q av u.args ∧ u.ok ∧ smallT u := by
              intro i hil
              have hi := hel i hil
              rw [List.getElem?_eq_getElem (by omega)] at hi
              obtain ⟨cs', h1, h2⟩ := Option.bind_eq_some_iff.1 hi
              obtain ⟨u, av, rfl, hin, hok, hsu⟩ := ih q (by omega) h2 (fun z hq => hz8 z (by
                simp only [DataW.weights, Tryz.underlying42, List.mem_cons, List.mem_append]
                exact Or.inr (Or.inl (weights_all_mem (List.mem_map.2 ⟨_, List.getElem_mem (by omega), rfl⟩) hq))))
              obtain ⟨_, hlen, hcell⟩ := World.cells?_some h1
              refine ⟨u, av, fun j c hj => ?_, hin, hok, hsu⟩
              have hjs : j < 15 := (List.getElem?_eq_some_iff.1 hj).1
              rw [← add_add, hcell j hjs, hj]
            obtain ⟨l, hl1, hl2⟩ := list_of len each
            refine ⟨l, ?_, okL_of fun i t ht => (let ⟨_, _, _, h, _⟩ := hl2 i t ht; h), by omega, smallL_of fun i t ht => (let ⟨_, _, _, _, h⟩ := hl2 i t ht; h)⟩
            rw [hm, hq]
            refine ⟨some a, cap, by rw [hl1], by omega, by unfold maxLen at hcap; omega, fun hne => ?_⟩
            obtain ⟨bb, o, spot⟩ := a
            obtain ⟨y, hy⟩ : ∃ y, l[0]? = some y := by
              cases l with
              | nil => exact absurd rfl hne
              | cons y _ => exact ⟨y, rfl⟩
            obtain ⟨av0, hc0, _⟩ := hl2 0 y hy
            have hspot : spot = none := by simpa [Addr.add] using World.cell?_spot (hc0 0 _ rfl)
            subst hspot
            refine ⟨bb, o, rfl, fun k t ht => ?_⟩
            obtain ⟨av, hcell, hin, _⟩ := hl2 k t ht
            refine ⟨av, fun i u hu => ?_, hin.up⟩
            have := hcell i u hu
            rw [Addr.add_lit] at this
            rwa [← Nat.add_assoc] at this
        obtain ⟨l, hin, hok, hln, hsl⟩ := harg
        exact ⟨.mk k op fx s b f r1 r2 l, c14, rfl, hin, by simp only [NodeT.ok]; exact ⟨hs, hfx, hok⟩, by simp only [smallT]; exact ⟨hln, hsl⟩⟩
set_option maxRecDepth 100000 in
theorem open_content {n : Nat} {cs : List Value} {x : DataW H × List MemPlace} (h : DataW.trod enc Tryz.prog W base spare held n 46 cs = some x) (hz : ∀ q ∈ x.1.weights Tryz.prog 46, q ≤ reachBytes) : ∃ (c : ContT) (a : Option Addr) (cap d : Nat), Value.agg cs.toArray = contV c a c.t.args.length cap ∧ ArgsIn W d (.slice a c.t.args.length cap) c.t.args ∧ c.ok ∧ smallT c.t := by
  obtain ⟨xs, m, hm, rfl, hl, hlen, hf⟩ := DataW.trod_struct Tryz.underlying46 h
  rw [Tryz.cellsContent] at hl
  match xs, hlen with
  | [y0, y1, y2], _ =>
    match cs, hl with
    | [c0, v0, v1, v2, v3, v4, n0, n1, n2, n3, n4, n5, n6, n7, n8, n9, n10, n11, n12, n13, n14], _ =>
      have g0 : DataW.trod enc Tryz.prog W base spare held m 3 [c0] = some y0 := by simpa [Tryz.cellsInt] using hf 0 _ rfl
      have g1 : DataW.trod enc Tryz.prog W base spare held m 39 [v0, v1, v2, v3, v4] = some y1 := by simpa [Tryz.cellsValue] using hf 1 _ rfl
      have g2 : DataW.trod enc Tryz.prog W base spare held m 44 [n0, n1, n2, n3, n4, n5, n6, n7, n8, n9, n10, n11, n12, n13, n14] = some y2 := by simpa [Tryz.cellsNode] using hf 2 _ rfl
      obtain ⟨k, e0, _, _⟩ := DataW.trod_int Tryz.underlying3 g0
      have hz1 : ∀ q ∈ y1.1.weights Tryz.prog 39, q ≤ reachBytes := fun q hq => hz q (by simp [DataW.weights, Tryz.underlying46, DataW.weightsEach, hq])
      have hz2 : ∀ q ∈ y2.1.weights Tryz.prog 44, q ≤ reachBytes := fun q hq => hz q (by simp [DataW.weights, Tryz.underlying46, DataW.weightsEach, hq])
      obtain ⟨zs, m2, _, rfl, hl2, hlen2, hf2⟩ := DataW.trod_struct Tryz.underlying39 g1
      obtain ⟨t, av, et, hin, hok, hsm⟩ := open_node m g2 hz2
      match zs, hlen2 with
      | [z0, z1, z2, z3, z4], _ =>
        have p0 : DataW.trod enc Tryz.prog W base spare held m2 3 [v0] = some z0 := by simpa [Tryz.cellsInt] using hf2 0 _ rfl
        have p1 : DataW.trod enc Tryz.prog W base spare held m2 37 [v1] = some z1 := by simpa [Tryz.cellsF64] using hf2 1 _ rfl
        have p2 : DataW.trod enc Tryz.prog W base spare held m2 9 [v2] = some z2 := by simpa [Tryz.cellsStr] using hf2 2 _ rfl
        have p3 : DataW.trod enc Tryz.prog W base spare held m2 4 [v3] = some z3 := by simpa [Tryz.cellsBool] using hf2 3 _ rfl
        have p4 : DataW.trod enc Tryz.prog W base spare held m2 3 [v4] = some z4 := by simpa [Tryz.cellsInt] using hf2 4 _ rfl
        obtain ⟨vk, f0, _, _⟩ := DataW.trod_int Tryz.underlying3 p0
        obtain ⟨vx, f1, hvx⟩ := open_f64 p1
        obtain ⟨vs, f2, es2, ws⟩ := DataW.trod_string Tryz.underlying9 p2
        have hws : vs.size < 4611686018427387904 := size_reach (hz1 vs.data.toList.length (by simp [DataW.weights, Tryz.underlying39, DataW.weightsEach, es2]))
        obtain ⟨vb, f3, _⟩ := DataW.trod_bool Tryz.underlying4 p3
        obtain ⟨vf, f4, _, _⟩ := DataW.trod_int Tryz.underlying3 p4
        obtain ⟨a, cap, rfl, _, _⟩ := hin.shape
        simp only [nodeC, List.cons.injEq, and_true] at e0 f0 f1 f2 f3 f4 et
        obtain ⟨rfl, rfl, rfl, rfl, rfl, rfl, rfl, rfl, rfl, rfl, rfl, rfl, rfl, rfl, rfl⟩ := et
        subst e0 f0 f1 f2 f3 f4
        exact ⟨⟨k, ⟨vk, vx, vs, vb, vf⟩, t⟩, a, cap, m, rfl, hin, ⟨hws, hok, hvx⟩, hsm⟩
end
end
section
open Go.RowKit Go.Sort

theorem ofNumber14_any (x : Nat) (w : World) : Calls Tryz.prog 71 #[.float .f64 x] w fun e w' => e = .returned (.agg #[.int .i64 1, .float .f64 (oneX x), .string ⟨#[]⟩, .bool false, .int .i64 0]) ∧ Gr w w' := by
  have H1 := Lib.hid (bits14_any x)
  have H2 := Lib.hid (number14_any (oneX x))
  generalize oneX x = ox at H1 H2 ⊢
  go_enter Tryz.func71, Tryz.ntmps71
  go_wp2_with (first | (refine (H1.out _).mono ?_; clear H1; rintro e w' ⟨rfl, rfl⟩) | (refine (H2.out _).mono ?_; rintro e w' ⟨rfl, rfl⟩))
  refine bodyPost_ret (results_cell_row rfl _ _ w.heap.size _ _ _ _ rfl (MapKept.heap_alloc w _).1 Tryz.underlying39 rfl (by kernel_rfl)) rfl ⟨rfl, (Gr.refl _).alloc _⟩
set_option maxRecDepth 100000 in
set_option maxHeartbeats 4000000 in
theorem gown_any (n : Nat) (c : ContT) (a : Option Addr) (cap : Nat) (w : World) (hsm : smallT c.t) (hin : ArgsIn w n (.slice a c.t.args.length cap) c.t.args) :
    Calls Tryz.prog 18 #[contV c a c.t.args.length cap] w fun e w' => ∃ a' c', e = .returned (contV c a' c.t.args.length c') ∧ OwnIn (fun b => w.heap.size ≤ b) w' n (.slice a' c.t.args.length c') c.t.args ∧ Xt w w' := by
  have HSM := Lib.hid hsm
  have HIN := Lib.hid hin
  have HF := Lib.hid (ownNode_any n)
  obtain ⟨B, hB⟩ : ∃ B, w.heap.size = B := ⟨_, rfl⟩
  obtain ⟨w0, hw0⟩ : ∃ w0, w.alloc (.cells #[.int .i64 c.kind, .int .i64 c.v.kind, .float .f64 c.v.x, .string c.v.s, .bool c.v.b, .int .i64 c.v.f, .int .i64 c.t.kind, .int .i64 c.t.op, .float .f64 c.t.x, .string c.t.s, .bool c.t.b, .int .i64 c.t.f, .int .i64 c.t.ref.a.1, .int .i64 c.t.ref.a.2, .bool c.t.ref.cf, .bool c.t.ref.rf, .int .i64 c.t.to.a.1, .int .i64 c.t.to.a.2, .bool c.t.to.cf, .bool c.t.to.rf, .slice a c.t.args.length cap] 46) = w0 := ⟨_, rfl⟩
  have hs0 : w0.heap.size = B + 1 := by rw [← hw0, ← hB]; simp
  have hb0 : w0.heap[B]? = some (.cells #[.int .i64 c.kind, .int .i64 c.v.kind, .float .f64 c.v.x, .string c.v.s, .bool c.v.b, .int .i64 c.v.f, .int .i64 c.t.kind, .int .i64 c.t.op, .float .f64 c.t.x, .string c.t.s, .bool c.t.b, .int .i64 c.t.f, .int .i64 c.t.ref.a.1, .int .i64 c.t.ref.a.2, .bool c.t.ref.cf, .bool c.t.ref.rf, .int .i64 c.t.to.a.1, .int .i64 c.t.to.a.2, .bool c.t.to.cf, .bool c.t.to.rf, .slice a c.t.args.length cap] 46 (0, 0)) := by rw [← hw0, ← hB]; exact (MapKept.heap_alloc w _).1
  have hx0 : Xt w w0 := by rw [← hw0]; exact (Xt.refl w).alloc _
  obtain ⟨wS, hwS⟩ : ∃ wS, w0.alloc (.cells #[.int .i64 0, .int .i64 0, .float .f64 0, .string ⟨#[]⟩, .bool false, .int .i64 0, .int .i64 0, .int .i64 0, .float .f64 0, .string ⟨#[]⟩, .bool false, .int .i64 0, .int .i64 0, .int .i64 0, .bool false, .bool false, .int .i64 0, .int .i64 0, .bool false, .bool false, .slice none 0 0] 46) = wS := ⟨_, rfl⟩
  have hxS : Xt w wS := by rw [← hwS]; exact hx0.alloc _
  have hbS : wS.heap[B]? = some (.cells #[.int .i64 c.kind, .int .i64 c.v.kind, .float .f64 c.v.x, .string c.v.s, .bool c.v.b, .int .i64 c.v.f, .int .i64 c.t.kind, .int .i64 c.t.op, .float .f64 c.t.x, .string c.t.s, .bool c.t.b, .int .i64 c.t.f, .int .i64 c.t.ref.a.1, .int .i64 c.t.ref.a.2, .bool c.t.ref.cf, .bool c.t.ref.rf, .int .i64 c.t.to.a.1, .int .i64 c.t.to.a.2, .bool c.t.to.cf, .bool c.t.to.rf, .slice a c.t.args.length cap] 46 (0, 0)) := by rw [← hwS]; exact (Below.heap_alloc w0 _ B (by omega)).trans hb0
  have hrS : wS.heap[B + 1]? = some (.cells #[.int .i64 0, .int .i64 0, .float .f64 0, .string ⟨#[]⟩, .bool false, .int .i64 0, .int .i64 0, .int .i64 0, .float .f64 0, .string ⟨#[]⟩, .bool false, .int .i64 0, .int .i64 0, .int .i64 0, .bool false, .bool false, .int .i64 0, .int .i64 0, .bool false, .bool false, .slice none 0 0] 46 (0, 0)) := by rw [← hwS, ← hs0]; exact (MapKept.heap_alloc w0 _).1
  have hs2 : B + 1 < wS.heap.size := (Array.getElem?_eq_some_iff.1 hrS).1
  have HB := Lib.hid hB
  have HBS := Lib.hid hbS
  have HRS := Lib.hid hrS
  obtain ⟨c0, c1, c2, c3, c4, c5, c6, c7, c8, c9, c10, c11, c12, c13, c14, c15, c16, c17, c18, c19, c20⟩ := cells21 hbS
  have HXS := Lib.hid hxS
  clear hsm hin hbS hrS hx0 hb0 hxS
  go_enter Tryz.func18, Tryz.ntmps18
  have hHs : w.heap.size = B := hB
  go_wp2_with fail
  refine (HF.out c.t a cap wS HSM.out (HIN.out.xt HXS.out)).mono ?_
  rintro e w3 ⟨a', c', rfl, hA, hx3⟩
  have hb3 := (hx3.block B (by omega)).trans HBS.out
  have hr3 := (hx3.block (B + 1) hs2).trans HRS.out
  have HX3 := Lib.hid hx3
  have HA := Lib.hid hA
  obtain ⟨w4, hw4⟩ : ∃ w4, w3.setCells B 6 [.int .i64 c.t.kind, .int .i64 c.t.op, .float .f64 c.t.x, .string c.t.s, .bool c.t.b, .int .i64 c.t.f, .int .i64 c.t.ref.a.1, .int .i64 c.t.ref.a.2, .bool c.t.ref.cf, .bool c.t.ref.rf, .int .i64 c.t.to.a.1, .int .i64 c.t.to.a.2, .bool c.t.to.cf, .bool c.t.to.rf, .slice a' c.t.args.length c'] = w4 := ⟨_, rfl⟩
  have hg4 : w3.grownBy w4 (some B) := by rw [← hw4]; exact setCells_grown B _ 6 w3
  have hb4 := fill15at6 (u0 := .int .i64 c.t.kind) (u1 := .int .i64 c.t.op) (u2 := .float .f64 c.t.x) (u3 := .string c.t.s) (u4 := .bool c.t.b) (u5 := .int .i64 c.t.f) (u6 := .int .i64 c.t.ref.a.1) (u7 := .int .i64 c.t.ref.a.2) (u8 := .bool c.t.ref.cf) (u9 := .bool c.t.ref.rf) (u10 := .int .i64 c.t.to.a.1) (u11 := .int .i64 c.t.to.a.2) (u12 := .bool c.t.to.cf) (u13 := .bool c.t.to.rf) (u14 := .slice a' c.t.args.length c') hb3
  rw [hw4] at hb4
  have hr4 := (hg4.block (B + 1) (Array.getElem?_eq_some_iff.1 hr3).1 (by simp)).trans hr3
  obtain ⟨w5, hw5⟩ : ∃ w5, w4.setRow (B + 1) #[.int .i64 c.kind, .int .i64 c.v.kind, .float .f64 c.v.x, .string c.v.s, .bool c.v.b, .int .i64 c.v.f, .int .i64 c.t.kind, .int .i64 c.t.op, .float .f64 c.t.x, .string c.t.s, .bool c.t.b, .int .i64 c.t.f, .int .i64 c.t.ref.a.1, .int .i64 c.t.ref.a.2, .bool c.t.ref.cf, .bool c.t.ref.rf, .int .i64 c.t.to.a.1, .int .i64 c.t.to.a.2, .bool c.t.to.cf, .bool c.t.to.rf, .slice a' c.t.args.length c'] = w5 := ⟨_, rfl⟩
  have hg5 : w4.grownBy w5 (some (B + 1)) := by rw [← hw5]; exact setRow_grown _ _ _
  have hr5 : w5.heap[B + 1]? = some (.cells #[.int .i64 c.kind, .int .i64 c.v.kind, .float .f64 c.v.x, .string c.v.s, .bool c.v.b, .int .i64 c.v.f, .int .i64 c.t.kind, .int .i64 c.t.op, .float .f64 c.t.x, .string c.t.s, .bool c.t.b, .int .i64 c.t.f, .int .i64 c.t.ref.a.1, .int .i64 c.t.ref.a.2, .bool c.t.ref.cf, .bool c.t.ref.rf, .int .i64 c.t.to.a.1, .int .i64 c.t.to.a.2, .bool c.t.to.cf, .bool c.t.to.rf, .slice a' c.t.args.length c'] 46 (0, 0)) := by rw [← hw5]; exact setRow_heap w4 _ _ _ _ _ hr4
  have HG4 := Lib.hid hg4
  have HG5 := Lib.hid hg5
  have HR5 := Lib.hid hr5
  have hs3 : B + 1 < w3.heap.size := (Array.getElem?_eq_some_iff.1 hr3).1
  have hth := Lib.hid (there_row hb3 6 15 (by simp))
  have HW4 := Lib.hid hw4
  have HW5 := Lib.hid hw5
  have HB4 := Lib.hid hb4
  have HR4 := Lib.hid hr4
  clear hb3 hr3 hx3 hA hw4 hb4 hr4 hw5 hg4 hg5 hr5 c0 c1 c2 c3 c4 c5 c6 c7 c8 c9 c10 c11 c12 c13 c14 c15 c16 c17 c18 c19 c20
  go_wp2_with (first
    | (refine wpList_store_mid (P := Tryz.prog) rfl 44 _ _ rfl B 6 #[.int .i64 c.t.kind, .int .i64 c.t.op, .float .f64 c.t.x, .string c.t.s, .bool c.t.b, .int .i64 c.t.f, .int .i64 c.t.ref.a.1, .int .i64 c.t.ref.a.2, .bool c.t.ref.cf, .bool c.t.ref.rf, .int .i64 c.t.to.a.1, .int .i64 c.t.to.a.2, .bool c.t.to.cf, .bool c.t.to.rf, .slice a' c.t.args.length c'] rfl rfl hth.out (by kernel_rfl) (by simp [Value.oneCell']) ?_; rw [HW4.out])
    | (refine wpList_load_row (P := Tryz.prog) rfl 46 _ rfl (B) rfl 46 _ (0, 0) _ HB4.out Tryz.underlying46 rfl (by kernel_rfl) ?_)
    | (refine wpList_store_row (P := Tryz.prog) rfl 46 _ _ rfl (B + 1) #[.int .i64 c.kind, .int .i64 c.v.kind, .float .f64 c.v.x, .string c.v.s, .bool c.v.b, .int .i64 c.v.f, .int .i64 c.t.kind, .int .i64 c.t.op, .float .f64 c.t.x, .string c.t.s, .bool c.t.b, .int .i64 c.t.f, .int .i64 c.t.ref.a.1, .int .i64 c.t.ref.a.2, .bool c.t.ref.cf, .bool c.t.ref.rf, .int .i64 c.t.to.a.1, .int .i64 c.t.to.a.2, .bool c.t.to.cf, .bool c.t.to.rf, .slice a' c.t.args.length c'] rfl rfl 46 _ HR4.out (by kernel_rfl) rfl (by simp [Value.oneCell']) ?_; rw [HW5.out]))
  (try simp only [Exit.inBlock, Exit.then])
  refine bodyPost_ret (results_cell_row rfl _ _ (B + 1) _ _ _ _ rfl HR5.out Tryz.underlying46 rfl (by kernel_rfl)) rfl ?_
  refine ⟨a', c', rfl, HA.out.keep (fun b hb hlt => ?_) (fun b hb hlt => ?_), ?_⟩
  · have := HXS.out.sz; omega
  · have : B + 1 < b := by omega
    exact (HG5.out.block b (by have := HG4.out.size; omega) (fun e => by cases e; omega)).trans (HG4.out.block b hlt (fun e => by cases e; omega))
  · exact ((HXS.out.trans HX3.out).grownB HG4.out (fun m hm => by cases hm; omega)).grownB HG5.out (fun m hm => by cases hm; omega)
theorem copy12_val (n : Nat) (t : NodeT) (a : Option Addr) (cap : Nat) (w : World) (hsm : smallT t) (hin : ArgsIn w n (.slice a t.args.length cap) t.args) :
    Calls Tryz.prog 72 #[nodeV t a t.args.length cap] w fun e w' => ∃ a' c', e = .returned (.agg #[.int .i64 t.kind, .int .i64 t.op, .float .f64 (oneX t.x), .string t.s, .bool t.b, .int .i64 t.f, .int .i64 t.ref.a.1, .int .i64 t.ref.a.2, .bool t.ref.cf, .bool t.ref.rf, .int .i64 t.to.a.1, .int .i64 t.to.a.2, .bool t.to.cf, .bool t.to.rf, .slice a' t.args.length c']) ∧ OwnIn (fun b => w.heap.size ≤ b) w' n (.slice a' t.args.length c') (copyL t.args) ∧ Xt w w' := by
  refine (copy12_any n t a cap w hsm hin).mono ?_
  rintro e w' ⟨a', c', rfl, hA, hx⟩
  refine ⟨a', c', ?_, ?_, hx⟩
  · obtain ⟨k, op, x, s, bb, f, r, q, args⟩ := t
    simp only [copyT, NodeT.kind, NodeT.op, NodeT.x, NodeT.s, NodeT.b, NodeT.f, NodeT.ref, NodeT.to, NodeT.args, copyL_map, List.length_map]
    rfl
  · obtain ⟨k, op, x, s, bb, f, r, q, args⟩ := t
    simpa only [copyT, NodeT.args, copyL_map, List.length_map] using hA
set_option maxRecDepth 100000 in
set_option maxHeartbeats 8000000 in
theorem gcopy17_any (n : Nat) (c : ContT) (a : Option Addr) (cap : Nat) (w : World) (hsm : smallT c.t) (hin : ArgsIn w n (.slice a c.t.args.length cap) c.t.args) :
    Calls Tryz.prog 45 #[contV c a c.t.args.length cap] w fun e w' => ∃ a' c', e = .returned (contV (copyC c) a' c.t.args.length c') ∧ OwnIn (fun b => w.heap.size ≤ b) w' n (.slice a' c.t.args.length c') (copyL c.t.args) ∧ Xt w w' := by
  have HSM := Lib.hid hsm
  have HIN := Lib.hid hin
  have HO := Lib.hid (gown_any n c a cap)
  have HF := Lib.hid (copy12_val n)
  obtain ⟨B, hB⟩ : ∃ B, w.heap.size = B := ⟨_, rfl⟩
  obtain ⟨w0, hw0⟩ : ∃ w0, w.alloc (.cells #[.int .i64 c.kind, .int .i64 c.v.kind, .float .f64 c.v.x, .string c.v.s, .bool c.v.b, .int .i64 c.v.f, .int .i64 c.t.kind, .int .i64 c.t.op, .float .f64 c.t.x, .string c.t.s, .bool c.t.b, .int .i64 c.t.f, .int .i64 c.t.ref.a.1, .int .i64 c.t.ref.a.2, .bool c.t.ref.cf, .bool c.t.ref.rf, .int .i64 c.t.to.a.1, .int .i64 c.t.to.a.2, .bool c.t.to.cf, .bool c.t.to.rf, .slice a c.t.args.length cap] 46) = w0 := ⟨_, rfl⟩
  have hs0 : w0.heap.size = B + 1 := by rw [← hw0, ← hB]; simp
  have hb0 : w0.heap[B]? = some (.cells #[.int .i64 c.kind, .int .i64 c.v.kind, .float .f64 c.v.x, .string c.v.s, .bool c.v.b, .int .i64 c.v.f, .int .i64 c.t.kind, .int .i64 c.t.op, .float .f64 c.t.x, .string c.t.s, .bool c.t.b, .int .i64 c.t.f, .int .i64 c.t.ref.a.1, .int .i64 c.t.ref.a.2, .bool c.t.ref.cf, .bool c.t.ref.rf, .int .i64 c.t.to.a.1, .int .i64 c.t.to.a.2, .bool c.t.to.cf, .bool c.t.to.rf, .slice a c.t.args.length cap] 46 (0, 0)) := by rw [← hw0, ← hB]; exact (MapKept.heap_alloc w _).1
  have hx0 : Xt w w0 := by rw [← hw0]; exact (Xt.refl w).alloc _
  obtain ⟨wS, hwS⟩ : ∃ wS, w0.alloc (.cells #[.int .i64 0, .int .i64 0, .float .f64 0, .string ⟨#[]⟩, .bool false, .int .i64 0, .int .i64 0, .int .i64 0, .float .f64 0, .string ⟨#[]⟩, .bool false, .int .i64 0, .int .i64 0, .int .i64 0, .bool false, .bool false, .int .i64 0, .int .i64 0, .bool false, .bool false, .slice none 0 0] 46) = wS := ⟨_, rfl⟩
  have hxS : Xt w wS := by rw [← hwS]; exact hx0.alloc _
  have hbS : wS.heap[B]? = some (.cells #[.int .i64 c.kind, .int .i64 c.v.kind, .float .f64 c.v.x, .string c.v.s, .bool c.v.b, .int .i64 c.v.f, .int .i64 c.t.kind, .int .i64 c.t.op, .float .f64 c.t.x, .string c.t.s, .bool c.t.b, .int .i64 c.t.f, .int .i64 c.t.ref.a.1, .int .i64 c.t.ref.a.2, .bool c.t.ref.cf, .bool c.t.ref.rf, .int .i64 c.t.to.a.1, .int .i64 c.t.to.a.2, .bool c.t.to.cf, .bool c.t.to.rf, .slice a c.t.args.length cap] 46 (0, 0)) := by rw [← hwS]; exact (Below.heap_alloc w0 _ B (by omega)).trans hb0
  have hrS : wS.heap[B + 1]? = some (.cells #[.int .i64 0, .int .i64 0, .float .f64 0, .string ⟨#[]⟩, .bool false, .int .i64 0, .int .i64 0, .int .i64 0, .float .f64 0, .string ⟨#[]⟩, .bool false, .int .i64 0, .int .i64 0, .int .i64 0, .bool false, .bool false, .int .i64 0, .int .i64 0, .bool false, .bool false, .slice none 0 0] 46 (0, 0)) := by rw [← hwS, ← hs0]; exact (MapKept.heap_alloc w0 _).1
  have hs2 : B + 1 < wS.heap.size := (Array.getElem?_eq_some_iff.1 hrS).1
  have HB := Lib.hid hB
  have HBS := Lib.hid hbS
  have HRS := Lib.hid hrS
  have HXS := Lib.hid hxS
  clear hsm hin hbS hrS hx0 hb0 hxS
  go_enter Tryz.func45, Tryz.ntmps45
  have hHs : w.heap.size = B := hB
  go_wp2_with (first
    | (refine wpList_load_row (P := Tryz.prog) rfl 46 _ rfl (B) rfl 46 _ (0, 0) _ HBS.out Tryz.underlying46 rfl (by kernel_rfl) ?_))
  refine (HO.out wS HSM.out (HIN.out.xt HXS.out)).mono ?_
  rintro e w1 ⟨a1, k1, rfl, _, hx1⟩
  obtain ⟨X, hX⟩ : ∃ X, w1.heap.size = X := ⟨_, rfl⟩
  have hXB : B + 1 < X := by have := hx1.sz; omega
  obtain ⟨w2, hw2⟩ : ∃ w2, w1.alloc (.cells #[.int .i64 0, .int .i64 0, .float .f64 0, .string ⟨#[]⟩, .bool false, .int .i64 0, .int .i64 0, .int .i64 0, .float .f64 0, .string ⟨#[]⟩, .bool false, .int .i64 0, .int .i64 0, .int .i64 0, .bool false, .bool false, .int .i64 0, .int .i64 0, .bool false, .bool false, .slice none 0 0] 46) = w2 := ⟨_, rfl⟩
  have hX2 : w2.heap[X]? = some (.cells #[.int .i64 0, .int .i64 0, .float .f64 0, .string ⟨#[]⟩, .bool false, .int .i64 0, .int .i64 0, .int .i64 0, .float .f64 0, .string ⟨#[]⟩, .bool false, .int .i64 0, .int .i64 0, .int .i64 0, .bool false, .bool false, .int .i64 0, .int .i64 0, .bool false, .bool false, .slice none 0 0] 46 (0, 0)) := by rw [← hw2, ← hX]; exact (MapKept.heap_alloc w1 _).1
  obtain ⟨w3, hw3⟩ : ∃ w3, w2.setRow X #[.int .i64 c.kind, .int .i64 c.v.kind, .float .f64 c.v.x, .string c.v.s, .bool c.v.b, .int .i64 c.v.f, .int .i64 c.t.kind, .int .i64 c.t.op, .float .f64 c.t.x, .string c.t.s, .bool c.t.b, .int .i64 c.t.f, .int .i64 c.t.ref.a.1, .int .i64 c.t.ref.a.2, .bool c.t.ref.cf, .bool c.t.ref.rf, .int .i64 c.t.to.a.1, .int .i64 c.t.to.a.2, .bool c.t.to.cf, .bool c.t.to.rf, .slice a1 c.t.args.length k1] = w3 := ⟨_, rfl⟩
  have hg3 : w2.grownBy w3 (some X) := by rw [← hw3]; exact setRow_grown _ _ _
  have hx3 : Xt w1 w3 := by
    have : Xt w1 w2 := by rw [← hw2]; exact (Xt.refl w1).alloc _
    exact this.grownB hg3 (fun m hm => by cases hm; omega)
  have hX3 : w3.heap[X]? = some (.cells #[.int .i64 c.kind, .int .i64 c.v.kind, .float .f64 c.v.x, .string c.v.s, .bool c.v.b, .int .i64 c.v.f, .int .i64 c.t.kind, .int .i64 c.t.op, .float .f64 c.t.x, .string c.t.s, .bool c.t.b, .int .i64 c.t.f, .int .i64 c.t.ref.a.1, .int .i64 c.t.ref.a.2, .bool c.t.ref.cf, .bool c.t.ref.rf, .int .i64 c.t.to.a.1, .int .i64 c.t.to.a.2, .bool c.t.to.cf, .bool c.t.to.rf, .slice a1 c.t.args.length k1] 46 (0, 0)) := by rw [← hw3]; exact setRow_heap w2 _ _ _ _ _ hX2
  have HX2 := Lib.hid hX2
  have HW3 := Lib.hid hw3
  dsimp only
  refine ‹∀ (a : Act) (w : World), _ → _› _ _ ?_
  refine wpList_step (fun K hK => ?_)
  go_simp
  refine hK _ _ ?_
  clear hK K
  try rw [hX]
  try rw [hw2]
  (refine wpList_store_row (P := Tryz.prog) rfl 46 _ _ rfl (X) #[.int .i64 c.kind, .int .i64 c.v.kind, .float .f64 c.v.x, .string c.v.s, .bool c.v.b, .int .i64 c.v.f, .int .i64 c.t.kind, .int .i64 c.t.op, .float .f64 c.t.x, .string c.t.s, .bool c.t.b, .int .i64 c.t.f, .int .i64 c.t.ref.a.1, .int .i64 c.t.ref.a.2, .bool c.t.ref.cf, .bool c.t.ref.rf, .int .i64 c.t.to.a.1, .int .i64 c.t.to.a.2, .bool c.t.to.cf, .bool c.t.to.rf, .slice a1 c.t.args.length k1] rfl rfl 46 _ HX2.out (by kernel_rfl) rfl (by simp [Value.oneCell']) ?_; rw [HW3.out])
  have hb3 : w3.heap[B]? = some (.cells #[.int .i64 c.kind, .int .i64 c.v.kind, .float .f64 c.v.x, .string c.v.s, .bool c.v.b, .int .i64 c.v.f, .int .i64 c.t.kind, .int .i64 c.t.op, .float .f64 c.t.x, .string c.t.s, .bool c.t.b, .int .i64 c.t.f, .int .i64 c.t.ref.a.1, .int .i64 c.t.ref.a.2, .bool c.t.ref.cf, .bool c.t.ref.rf, .int .i64 c.t.to.a.1, .int .i64 c.t.to.a.2, .bool c.t.to.cf, .bool c.t.to.rf, .slice a c.t.args.length cap] 46 (0, 0)) := (hx3.block B (by omega)).trans ((hx1.block B (by omega)).trans HBS.out)
  have hr3 : w3.heap[B + 1]? = some (.cells #[.int .i64 0, .int .i64 0, .float .f64 0, .string ⟨#[]⟩, .bool false, .int .i64 0, .int .i64 0, .int .i64 0, .float .f64 0, .string ⟨#[]⟩, .bool false, .int .i64 0, .int .i64 0, .int .i64 0, .bool false, .bool false, .int .i64 0, .int .i64 0, .bool false, .bool false, .slice none 0 0] 46 (0, 0)) := (hx3.block (B + 1) (by omega)).trans ((hx1.block (B + 1) hs2).trans HRS.out)
  have hxw3 : Xt w w3 := (HXS.out.trans hx1).trans hx3
  have HX3 := Lib.hid hX3
  have HR3 := Lib.hid hr3
  have HB3 := Lib.hid hb3
  have HXW3 := Lib.hid hxw3
  have hs3 : X < w3.heap.size := (Array.getElem?_eq_some_iff.1 hX3).1
  obtain ⟨c0, c1, c2, c3, c4, c5, c6, c7, c8, c9, c10, c11, c12, c13, c14, c15, c16, c17, c18, c19, c20⟩ := cells21 hb3
  obtain ⟨f0, f1, f2, f3, f4, f5, f6, f7, f8, f9, f10, f11, f12, f13, f14, f15, f16, f17, f18, f19, f20⟩ := frozen21 hX3
  clear hX3 hb3 hr3 hxw3 hx1 hx3 hX2 hw2 hg3 hw3
  go_upto_region 2 with fail
  go_wp2_with fail
  refine (ofNumber14_any _ _).mono ?_
  rintro e w4 ⟨rfl, hg4⟩
  have HG4 := Lib.hid hg4
  clear hg4 c0 c1 c2 c3 c4 c5 c6 c7 c8 c9 c10 c11 c12 c13 c14 c15 c16 c17 c18 c19 c20 f0 f1 f2 f3 f4 f5 f6 f7 f8 f9 f10 f11 f12 f13 f14 f15 f16 f17 f18 f19 f20
  go_upto_region 3 with fail
  obtain ⟨w5, hw5⟩ : ∃ w5, w4.alloc (.cells #[.int .i64 1, .float .f64 (oneX c.v.x), .string ⟨#[]⟩, .bool false, .int .i64 0] 39) = w5 := ⟨_, rfl⟩
  rw [hw5]
  have hx5 : Xt w3 w5 := by rw [← hw5]; exact HG4.out.xt.alloc _
  have hX5 : w5.heap[X]? = some (.cells #[.int .i64 c.kind, .int .i64 c.v.kind, .float .f64 c.v.x, .string c.v.s, .bool c.v.b, .int .i64 c.v.f, .int .i64 c.t.kind, .int .i64 c.t.op, .float .f64 c.t.x, .string c.t.s, .bool c.t.b, .int .i64 c.t.f, .int .i64 c.t.ref.a.1, .int .i64 c.t.ref.a.2, .bool c.t.ref.cf, .bool c.t.ref.rf, .int .i64 c.t.to.a.1, .int .i64 c.t.to.a.2, .bool c.t.to.cf, .bool c.t.to.rf, .slice a1 c.t.args.length k1] 46 (0, 0)) := (hx5.block X hs3).trans HX3.out
  have hY5 : w5.cell? ⟨w4.heap.size, 1, none⟩ = some (.float .f64 (oneX c.v.x)) := by rw [← hw5, World.cell?_alloc_new]; rfl
  obtain ⟨d0, d1, d2, d3, d4, d5, d6, d7, d8, d9, d10, d11, d12, d13, d14, d15, d16, d17, d18, d19, d20⟩ := cells21 hX5
  obtain ⟨g0, g1, g2, g3, g4, g5, g6, g7, g8, g9, g10, g11, g12, g13, g14, g15, g16, g17, g18, g19, g20⟩ := frozen21 hX5
  clear hw5
  obtain ⟨w6, hw6⟩ : ∃ w6, w5.setCell ⟨X, 2, none⟩ (.float .f64 (oneX c.v.x)) = w6 := ⟨_, rfl⟩
  have hg6 : w5.grownBy w6 (some X) := by rw [← hw6]; exact setCell_grown _ _ _ _
  have hX6 : w6.heap[X]? = some (.cells #[.int .i64 c.kind, .int .i64 c.v.kind, .float .f64 (oneX c.v.x), .string c.v.s, .bool c.v.b, .int .i64 c.v.f, .int .i64 c.t.kind, .int .i64 c.t.op, .float .f64 c.t.x, .string c.t.s, .bool c.t.b, .int .i64 c.t.f, .int .i64 c.t.ref.a.1, .int .i64 c.t.ref.a.2, .bool c.t.ref.cf, .bool c.t.ref.rf, .int .i64 c.t.to.a.1, .int .i64 c.t.to.a.2, .bool c.t.to.cf, .bool c.t.to.rf, .slice a1 c.t.args.length k1] 46 (0, 0)) := by rw [← hw6]; exact setCell_row hX5 2 _
  have hs5 : X < w5.heap.size := (Array.getElem?_eq_some_iff.1 hX5).1
  have hb6 : w6.heap[B]? = some (.cells #[.int .i64 c.kind, .int .i64 c.v.kind, .float .f64 c.v.x, .string c.v.s, .bool c.v.b, .int .i64 c.v.f, .int .i64 c.t.kind, .int .i64 c.t.op, .float .f64 c.t.x, .string c.t.s, .bool c.t.b, .int .i64 c.t.f, .int .i64 c.t.ref.a.1, .int .i64 c.t.ref.a.2, .bool c.t.ref.cf, .bool c.t.ref.rf, .int .i64 c.t.to.a.1, .int .i64 c.t.to.a.2, .bool c.t.to.cf, .bool c.t.to.rf, .slice a c.t.args.length cap] 46 (0, 0)) := (hg6.block B (by omega) (by simp; omega)).trans ((hx5.block B (by omega)).trans HB3.out)
  have hr6 : w6.heap[B + 1]? = some (.cells #[.int .i64 0, .int .i64 0, .float .f64 0, .string ⟨#[]⟩, .bool false, .int .i64 0, .int .i64 0, .int .i64 0, .float .f64 0, .string ⟨#[]⟩, .bool false, .int .i64 0, .int .i64 0, .int .i64 0, .bool false, .bool false, .int .i64 0, .int .i64 0, .bool false, .bool false, .slice none 0 0] 46 (0, 0)) := (hg6.block (B + 1) (by omega) (by simp; omega)).trans ((hx5.block (B + 1) (by omega)).trans HR3.out)
  have hxw6 : Xt w w6 := (HXW3.out.trans hx5).grownB hg6 (fun m hm => by cases hm; omega)
  have HX6 := Lib.hid hX6
  have HB6 := Lib.hid hb6
  have HR6 := Lib.hid hr6
  have HXW6 := Lib.hid hxw6
  have hs6 : X < w6.heap.size := (Array.getElem?_eq_some_iff.1 hX6).1
  clear hX5
  go_upto_region 4 with fail
  try rw [hw6]
  clear hw6 d0 d1 d2 d3 d4 d5 d6 d7 d8 d9 d10 d11 d12 d13 d14 d15 d16 d17 d18 d19 d20 g0 g1 g2 g3 g4 g5 g6 g7 g8 g9 g10 g11 g12 g13 g14 g15 g16 g17 g18 g19 g20
  obtain ⟨e0, e1, e2, e3, e4, e5, e6, e7, e8, e9, e10, e11, e12, e13, e14, e15, e16, e17, e18, e19, e20⟩ := cells21 hb6
  clear hX6 hb6 hr6 hg6 hx5 hxw6
  go_wp2_with fail
  refine (HF.out c.t a cap w6 HSM.out (HIN.out.xt HXW6.out)).mono ?_
  rintro e w7 ⟨a', c', rfl, hA, hx7⟩
  have hX7 := (hx7.block X hs6).trans HX6.out
  have hr7 := (hx7.block (B + 1) (by omega)).trans HR6.out
  have HX7 := Lib.hid hx7
  have HA := Lib.hid hA
  obtain ⟨w8, hw8⟩ : ∃ w8, w7.setCells X 6 [.int .i64 c.t.kind, .int .i64 c.t.op, .float .f64 (oneX c.t.x), .string c.t.s, .bool c.t.b, .int .i64 c.t.f, .int .i64 c.t.ref.a.1, .int .i64 c.t.ref.a.2, .bool c.t.ref.cf, .bool c.t.ref.rf, .int .i64 c.t.to.a.1, .int .i64 c.t.to.a.2, .bool c.t.to.cf, .bool c.t.to.rf, .slice a' c.t.args.length c'] = w8 := ⟨_, rfl⟩
  have hg8 : w7.grownBy w8 (some X) := by rw [← hw8]; exact setCells_grown X _ 6 w7
  have hX8 := fill15at6 (u0 := .int .i64 c.t.kind) (u1 := .int .i64 c.t.op) (u2 := .float .f64 (oneX c.t.x)) (u3 := .string c.t.s) (u4 := .bool c.t.b) (u5 := .int .i64 c.t.f) (u6 := .int .i64 c.t.ref.a.1) (u7 := .int .i64 c.t.ref.a.2) (u8 := .bool c.t.ref.cf) (u9 := .bool c.t.ref.rf) (u10 := .int .i64 c.t.to.a.1) (u11 := .int .i64 c.t.to.a.2) (u12 := .bool c.t.to.cf) (u13 := .bool c.t.to.rf) (u14 := .slice a' c.t.args.length c') hX7
  rw [hw8] at hX8
  have hr8 := (hg8.block (B + 1) (Array.getElem?_eq_some_iff.1 hr7).1 (by simp; omega)).trans hr7
  obtain ⟨w9, hw9⟩ : ∃ w9, w8.setRow (B + 1) #[.int .i64 c.kind, .int .i64 c.v.kind, .float .f64 (oneX c.v.x), .string c.v.s, .bool c.v.b, .int .i64 c.v.f, .int .i64 c.t.kind, .int .i64 c.t.op, .float .f64 (oneX c.t.x), .string c.t.s, .bool c.t.b, .int .i64 c.t.f, .int .i64 c.t.ref.a.1, .int .i64 c.t.ref.a.2, .bool c.t.ref.cf, .bool c.t.ref.rf, .int .i64 c.t.to.a.1, .int .i64 c.t.to.a.2, .bool c.t.to.cf, .bool c.t.to.rf, .slice a' c.t.args.length c'] = w9 := ⟨_, rfl⟩
  have hg9 : w8.grownBy w9 (some (B + 1)) := by rw [← hw9]; exact setRow_grown _ _ _
  have hr9 : w9.heap[B + 1]? = some (.cells #[.int .i64 c.kind, .int .i64 c.v.kind, .float .f64 (oneX c.v.x), .string c.v.s, .bool c.v.b, .int .i64 c.v.f, .int .i64 c.t.kind, .int .i64 c.t.op, .float .f64 (oneX c.t.x), .string c.t.s, .bool c.t.b, .int .i64 c.t.f, .int .i64 c.t.ref.a.1, .int .i64 c.t.ref.a.2, .bool c.t.ref.cf, .bool c.t.ref.rf, .int .i64 c.t.to.a.1, .int .i64 c.t.to.a.2, .bool c.t.to.cf, .bool c.t.to.rf, .slice a' c.t.args.length c'] 46 (0, 0)) := by rw [← hw9]; exact setRow_heap w8 _ _ _ _ _ hr8
  have HG8 := Lib.hid hg8
  have HG9 := Lib.hid hg9
  have HR9 := Lib.hid hr9
  have hth := Lib.hid (there_row hX7 6 15 (by simp))
  have HW8 := Lib.hid hw8
  have HW9 := Lib.hid hw9
  have HX8 := Lib.hid hX8
  have HR8 := Lib.hid hr8
  have hs7 : X < w7.heap.size := (Array.getElem?_eq_some_iff.1 hX7).1
  clear hX7 hr7 hx7 hA hw8 hX8 hr8 hw9 hg8 hg9 hr9 e0 e1 e2 e3 e4 e5 e6 e7 e8 e9 e10 e11 e12 e13 e14 e15 e16 e17 e18 e19 e20
  go_wp2_with (first
    | (refine wpList_store_mid (P := Tryz.prog) rfl 44 _ _ rfl X 6 #[.int .i64 c.t.kind, .int .i64 c.t.op, .float .f64 (oneX c.t.x), .string c.t.s, .bool c.t.b, .int .i64 c.t.f, .int .i64 c.t.ref.a.1, .int .i64 c.t.ref.a.2, .bool c.t.ref.cf, .bool c.t.ref.rf, .int .i64 c.t.to.a.1, .int .i64 c.t.to.a.2, .bool c.t.to.cf, .bool c.t.to.rf, .slice a' c.t.args.length c'] rfl rfl hth.out (by kernel_rfl) (by simp [Value.oneCell']) ?_; rw [HW8.out])
    | (refine wpList_load_row (P := Tryz.prog) rfl 46 _ rfl (X) rfl 46 _ (0, 0) _ HX8.out Tryz.underlying46 rfl (by kernel_rfl) ?_)
    | (refine wpList_store_row (P := Tryz.prog) rfl 46 _ _ rfl (B + 1) #[.int .i64 c.kind, .int .i64 c.v.kind, .float .f64 (oneX c.v.x), .string c.v.s, .bool c.v.b, .int .i64 c.v.f, .int .i64 c.t.kind, .int .i64 c.t.op, .float .f64 (oneX c.t.x), .string c.t.s, .bool c.t.b, .int .i64 c.t.f, .int .i64 c.t.ref.a.1, .int .i64 c.t.ref.a.2, .bool c.t.ref.cf, .bool c.t.ref.rf, .int .i64 c.t.to.a.1, .int .i64 c.t.to.a.2, .bool c.t.to.cf, .bool c.t.to.rf, .slice a' c.t.args.length c'] rfl rfl 46 _ HR8.out (by kernel_rfl) rfl (by simp [Value.oneCell']) ?_; rw [HW9.out]))
  (try simp only [Exit.inBlock, Exit.then])
  refine bodyPost_ret (results_cell_row rfl _ _ (B + 1) _ _ _ _ rfl HR9.out Tryz.underlying46 rfl (by kernel_rfl)) rfl ?_
  refine ⟨a', c', ?_, ?_, ?_⟩
  · have e1 : (copyT c.t).kind = c.t.kind ∧ (copyT c.t).op = c.t.op ∧ (copyT c.t).x = oneX c.t.x ∧ (copyT c.t).s = c.t.s ∧ (copyT c.t).b = c.t.b ∧ (copyT c.t).f = c.t.f ∧ (copyT c.t).ref = c.t.ref ∧ (copyT c.t).to = c.t.to := by cases c.t; simp [copyT, NodeT.kind, NodeT.op, NodeT.x, NodeT.s, NodeT.b, NodeT.f, NodeT.ref, NodeT.to]
    obtain ⟨k0, k1', k2, k3, k4, k5, k6, k7⟩ := e1
    show Ending.returned (Value.agg _) = Ending.returned (Value.agg _)
    simp only [copyC, k0, k1', k2, k3, k4, k5, k6, k7]
  · refine HA.out.keep (fun b hb hlt => by have := HXW6.out.sz; omega) (fun b hb hlt => ?_)
    exact (HG9.out.block b (by have := HG8.out.size; omega) (fun e => by cases e; omega)).trans (HG8.out.block b hlt (fun e => by cases e; omega))
  · exact ((HXW6.out.trans HX7.out).grownB HG8.out (fun m hm => by cases hm; omega)).grownB HG9.out (fun m hm => by cases hm; omega)

theorem sameV_no {a b : ValT} (h : (a.kind == b.kind) = false) : sameVB a b = false := by
  cases hs : sameVB a b
  · rfl
  · have := congrArg Prod.fst ((sameVB_iff _ _).1 hs)
    simp only [keyV] at this
    rw [this] at h; simp at h
theorem sameV_1 {a b : ValT} (h : (a.kind == b.kind) = true) (h1 : (a.kind == 1) = true) (ha : a.x < 18446744073709551616) (hb : b.x < 18446744073709551616) : sameVB a b = (((oneX a.x : Nat) : Int) == ((oneX b.x : Nat) : Int)) := by
  have e := eq_of_beq h
  rw [Bool.eq_iff_iff, sameVB_iff]
  unfold keyV
  rw [← e]
  simp only [h1, if_true, Prod.mk.injEq, true_and, KeyV.n.injEq, beq_iff_eq]
  rw [place_one ha hb]; omega
theorem sameV_2 {a b : ValT} (h : (a.kind == b.kind) = true) (h1 : (a.kind == 1) = false) (h2 : (a.kind == 2) = true) : sameVB a b = (a.s.toList == b.s.toList) := by
  have e := eq_of_beq h
  rw [Bool.eq_iff_iff, sameVB_iff]
  unfold keyV
  rw [← e]
  simp only [h1, h2, if_true, Bool.false_eq_true, if_false, Prod.mk.injEq, true_and, KeyV.s.injEq, beq_iff_eq]
  rw [toList_eq]
  obtain ⟨_, _, ⟨⟨x⟩⟩, _, _⟩ := a
  obtain ⟨_, _, ⟨⟨y⟩⟩, _, _⟩ := b
  simp
theorem sameV_3 {a b : ValT} (h : (a.kind == b.kind) = true) (h1 : (a.kind == 1) = false) (h2 : (a.kind == 2) = false) (h3 : (a.kind == 3) = true) : sameVB a b = (a.b == b.b) := by
  have e := eq_of_beq h
  rw [Bool.eq_iff_iff, sameVB_iff]
  unfold keyV
  rw [← e]
  simp only [h1, h2, h3, if_true, Bool.false_eq_true, if_false, Prod.mk.injEq, true_and, KeyV.b.injEq, beq_iff_eq]
theorem sameV_4 {a b : ValT} (h : (a.kind == b.kind) = true) (h1 : (a.kind == 1) = false) (h2 : (a.kind == 2) = false) (h3 : (a.kind == 3) = false) (h4 : (a.kind == 4) = true) : sameVB a b = (a.f == b.f) := by
  have e := eq_of_beq h
  rw [Bool.eq_iff_iff, sameVB_iff]
  unfold keyV
  rw [← e]
  simp only [h1, h2, h3, h4, if_true, Bool.false_eq_true, if_false, Prod.mk.injEq, true_and, KeyV.f.injEq, beq_iff_eq]
theorem sameV_o {a b : ValT} (h : (a.kind == b.kind) = true) (h1 : (a.kind == 1) = false) (h2 : (a.kind == 2) = false) (h3 : (a.kind == 3) = false) (h4 : (a.kind == 4) = false) : sameVB a b = true := by
  have e := eq_of_beq h
  rw [sameVB_iff]
  unfold keyV
  rw [← e]
  simp only [h1, h2, h3, h4, Bool.false_eq_true, if_false]
set_option maxRecDepth 100000 in
set_option maxHeartbeats 4000000 in
theorem same14_any (a b : ValT) (w : World) (ha : a.x < 18446744073709551616) (hb : b.x < 18446744073709551616) : Calls Tryz.prog 84 #[valV a, valV b] w fun e w' => e = .returned (.bool (sameVB a b)) ∧ Gr w w' := by
  obtain ⟨w0, hw0, hg0, hs0, c0, c1, c2, c3, c4⟩ := boxV w a 39
  obtain ⟨w1, hw1, hg1, hs1, d0, d1, d2, d3, d4⟩ := boxV w0 b 39
  rw [hs0] at d0 d1 d2 d3 d4
  have cc := fun o => (hg1.xt.cells).1 w.heap.size o (by omega)
  have k0 := (cc 0).trans c0
  have k1 := (cc 1).trans c1
  have k2 := (cc 2).trans c2
  have k3 := (cc 3).trans c3
  have k4 := (cc 4).trans c4
  clear c0 c1 c2 c3 c4 cc hs1
  have HG := Lib.hid (hg0.trans hg1)
  have HA := Lib.hid (bits14_any a.x)
  have HB := Lib.hid (bits14_any b.x)
  clear hg0 hg1
  cases h : (a.kind == b.kind)
  · have hn : (a.kind != b.kind) = true := by unfold bne; rw [h]; rfl
    have HS := Lib.hid (sameV_no h)
    go_enter Tryz.func84, Tryz.ntmps84
    go_wp2_with fail
    go_ret
    exact ⟨by rw [HS.out]; rfl, HG.out⟩
  have hn : (a.kind != b.kind) = false := by unfold bne; rw [h]; rfl
  cases h1 : (a.kind == 1)
  rotate_left
  · have HS := Lib.hid (sameV_1 h h1 ha hb)
    go_enter Tryz.func84, Tryz.ntmps84
    go_wp2_with fail
    go_quiet (first | ((go_at_call 96; exact Calls.quiet_of_same ((HA.out _).mono fun _ _ h => ⟨h.1, h.2.symm⟩))) | ((go_at_call 96; exact Calls.quiet_of_same ((HB.out _).mono fun _ _ h => ⟨h.1, h.2.symm⟩))))
    go_wp2_with fail
    go_ret
    exact ⟨by rw [HS.out]; rfl, by first | exact HG.out.drewN _ | exact (((Gr.refl _).alloc _).alloc _).drewN _⟩
  cases h2 : (a.kind == 2)
  rotate_left
  · have HS := Lib.hid (sameV_2 h h1 h2)
    go_enter Tryz.func84, Tryz.ntmps84
    go_wp2_with fail
    go_ret
    exact ⟨by rw [HS.out]; rfl, HG.out⟩
  cases h3 : (a.kind == 3)
  rotate_left
  · have HS := Lib.hid (sameV_3 h h1 h2 h3)
    go_enter Tryz.func84, Tryz.ntmps84
    go_wp2_with fail
    go_ret
    exact ⟨by rw [HS.out]; rfl, HG.out⟩
  cases h4 : (a.kind == 4)
  rotate_left
  · have HS := Lib.hid (sameV_4 h h1 h2 h3 h4)
    go_enter Tryz.func84, Tryz.ntmps84
    go_wp2_with fail
    go_ret
    exact ⟨by rw [HS.out]; rfl, HG.out⟩
  · have HS := Lib.hid (sameV_o h h1 h2 h3 h4)
    go_enter Tryz.func84, Tryz.ntmps84
    go_wp2_with fail
    go_ret
    exact ⟨by rw [HS.out]; rfl, HG.out⟩
/-! ### contents -/
set_option maxRecDepth 100000 in
set_option maxHeartbeats 4000000 in
theorem same17_any (n : Nat) (a b : ContT) (aa ba : Option Addr) (ac bc : Nat) (w : World) (hoa : a.ok) (hob : b.ok) (ha : ArgsIn w n (.slice aa a.t.args.length ac) a.t.args) (hb : ArgsIn w n (.slice ba b.t.args.length bc) b.t.args) :
    Calls Tryz.prog 58 #[contV a aa a.t.args.length ac, contV b ba b.t.args.length bc] w fun e w' => e = .returned (.bool (sameCB a b)) ∧ Gr w w' := by
  obtain ⟨w0, hw0, hg0, hs0, hN⟩ := boxC w a aa a.t.args.length ac 46
  obtain ⟨w1, hw1, hg1, hs1, hM⟩ := boxC w0 b ba b.t.args.length bc 46
  rw [hs0] at hM
  have hN := hN.xt hg1.xt
  obtain ⟨k0, k1, k2, k3, k4, k5, k6, k7, k8, k9, k10, k11, k12, k13, k14, k15, k16, k17, k18, k19, k20⟩ := hN
  simp only [Nat.zero_add] at k0 k1 k2 k3 k4 k5 k6 k7 k8 k9 k10 k11 k12 k13 k14 k15 k16 k17 k18 k19 k20
  obtain ⟨m0, m1, m2, m3, m4, m5, m6, m7, m8, m9, m10, m11, m12, m13, m14, m15, m16, m17, m18, m19, m20⟩ := hM
  simp only [Nat.zero_add] at m0 m1 m2 m3 m4 m5 m6 m7 m8 m9 m10 m11 m12 m13 m14 m15 m16 m17 m18 m19 m20
  have HG := Lib.hid (hg0.trans hg1)
  have HV := Lib.hid (same14_any a.v b.v w1 hoa.2.2 hob.2.2)
  have HT := Lib.hid (same12_any n a.t b.t aa ba ac bc w1 (ha.xt (hg0.trans hg1).xt) (hb.xt (hg0.trans hg1).xt))
  clear ha hb hg0 hg1 hoa hob
  cases hk : (a.kind == b.kind)
  · have hn : (a.kind != b.kind) = true := by unfold bne; rw [hk]; rfl
    have HS := Lib.hid (sameCB_kind hk)
    clear k1 k2 k3 k4 k5 k6 k7 k8 k9 k10 k11 k12 k13 k14 k15 k16 k17 k18 k19 k20 m1 m2 m3 m4 m5 m6 m7 m8 m9 m10 m11 m12 m13 m14 m15 m16 m17 m18 m19 m20
    go_enter Tryz.func58, Tryz.ntmps58
    go_wp2_with fail
    go_ret
    exact ⟨by rw [HS.out]; rfl, HG.out⟩
  have hn : (a.kind != b.kind) = false := by unfold bne; rw [hk]; rfl
  cases h1 : (a.kind == 1)
  rotate_left
  · have HS := Lib.hid (sameCB_1 hk h1)
    clear k6 k7 k8 k9 k10 k11 k12 k13 k14 k15 k16 k17 k18 k19 k20 m6 m7 m8 m9 m10 m11 m12 m13 m14 m15 m16 m17 m18 m19 m20
    go_enter Tryz.func58, Tryz.ntmps58
    go_wp2_with (refine (HV.out).mono ?_; rintro e w2 ⟨rfl, hg2⟩; have HG2 := Lib.hid hg2; clear hg2)
    go_ret
    exact ⟨by rw [HS.out]; rfl, HG.out.trans HG2.out⟩
  cases h2 : (a.kind == 2)
  · have HS := Lib.hid (sameCB_o hk h1 h2)
    clear k1 k2 k3 k4 k5 k6 k7 k8 k9 k10 k11 k12 k13 k14 k15 k16 k17 k18 k19 k20 m1 m2 m3 m4 m5 m6 m7 m8 m9 m10 m11 m12 m13 m14 m15 m16 m17 m18 m19 m20
    go_enter Tryz.func58, Tryz.ntmps58
    go_wp2_with fail
    go_ret
    exact ⟨by rw [HS.out]; rfl, HG.out⟩
  · have HS := Lib.hid (sameCB_2 hk h1 h2)
    clear k1 k2 k3 k4 k5 m1 m2 m3 m4 m5
    go_enter Tryz.func58, Tryz.ntmps58
    go_wp2_with (refine (HT.out).mono ?_; rintro e w2 ⟨rfl, hg2⟩; have HG2 := Lib.hid hg2; clear hg2)
    go_ret
    exact ⟨by rw [HS.out]; rfl, HG.out.trans HG2.out⟩
/-! ### just this content -/
noncomputable def eqCB (a b : ContT) : Bool := @decide (a = b) (Classical.propDecidable _)

set_option maxHeartbeats 400000 in
theorem in10_any (a b c d x y : Int) (w : World) :
    Calls Tryz.prog 46 #[.agg #[.int .i64 a, .int .i64 b, .int .i64 c, .int .i64 d], .agg #[.int .i64 x, .int .i64 y]] w fun e w' => e = .returned (.bool (inB a b c d x y)) ∧ Gr w w' := by
  unfold inB
  cases h1 : validA a b c d
  all_goals
    go_enter Tryz.func46, Tryz.ntmps46
    go_wp2_with (go_at_call 73; refine (validArea10_any _ _ _ _ _).mono ?_; rintro e w' ⟨rfl, hg⟩; obtain ⟨hgc, hgf⟩ := hg.xt.cells; have hgz := hg.xt.sz)
    all_goals (go_ret; refine ⟨by congr 2; try (simp [*]; try omega), Gr.trans (((Gr.refl _).alloc _).alloc _) (by assumption)⟩)

theorem sameCB_refl (c : ContT) : sameCB c c = true := (sameCB_iff _ _).2 rfl
end
end Go.Proofs.YtideclfpbpjebaaGreatDoor
