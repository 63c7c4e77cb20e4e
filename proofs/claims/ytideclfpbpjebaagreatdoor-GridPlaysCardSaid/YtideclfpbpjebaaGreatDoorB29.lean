import Derived.Test.YtideclfpbpjebaaGreatDoorB24
import Derived.Deep.MidRow
import Derived.ArgAppend
import Derived.Test.YtideclfpbpjebaaGreatDoorB16
namespace Go.Proofs.YtideclfpbpjebaaGreatDoor
section
open Go.RowKit Go.Sort

theorem copyC_len (c : ContT) : (copyC c).t.args = copyL c.t.args ∧ (copyC c).t.args.length = c.t.args.length := by
  obtain ⟨k, v, t⟩ := c
  obtain ⟨kk, op, x, s, bb, f, r, q, args⟩ := t
  constructor
  · rfl
  · show (copyL args).length = args.length
    rw [copyL_map]; simp
theorem dcopyD (n : Nat) (c : ContT) (a : Option Addr) (cap : Nat) (w : World) (hsm : smallT c.t) (hin : ArgsIn w n (.slice a c.t.args.length cap) c.t.args) :
    Calls Tryz.prog 45 #[contV c a c.t.args.length cap] w fun e w' => ∃ a' k', e = .returned (contV (copyC c) a' (copyC c).t.args.length k') ∧ OwnIn (fun b => w.heap.size ≤ b) w' n (.slice a' (copyC c).t.args.length k') (copyC c).t.args ∧ Xt w w' := by
  refine (gcopy17_any n c a cap w hsm hin).mono ?_
  rintro e w' ⟨a', k', rfl, hA, hx⟩
  rw [(copyC_len c).2]
  refine ⟨a', k', rfl, ?_, hx⟩
  rw [(copyC_len c).1]; exact hA

/-- A slice of nodes in whole rows of nodes with a property, whatever the nodes are, so deep. -/
def Ov (S : Nat → Prop) (w : World) : Nat → Value → Prop
  | 0, av => ∃ a, av = .slice a 0 0
  | n + 1, av => ∃ a m cap, av = .slice a m cap ∧ m ≤ cap ∧ m ≤ 1099511627744 ∧ cap ≤ 9223372036854775807 ∧ (0 < cap → ∃ b cur K, a = some ⟨b, 0, none⟩ ∧ S b ∧ w.heap[b]? = some (.cells cur 44 (0, 0)) ∧ cur.size = K * 15 ∧ cap ≤ K ∧
      ∀ k, k < m → ∃ u av', (∀ i v, (nodeC u av')[i]? = some v → w.cell? ⟨b, k * 15 + i, none⟩ = some v) ∧ Ov S w n av')
theorem Ov.nil {S : Nat → Prop} {w : World} {a : Option Addr} : ∀ n, Ov S w n (.slice a 0 0)
  | 0 => ⟨a, rfl⟩
  | _ + 1 => ⟨a, 0, 0, rfl, Nat.le_refl _, by omega, by omega, fun h => absurd h (Nat.lt_irrefl _)⟩
theorem OwnIn.ov {S : Nat → Prop} {w : World} : ∀ {n : Nat} {av : Value} {l : List NodeT}, (l.length ≤ 1099511627744 ∧ smallL l) → OwnIn S w n av l → Ov S w n av
  | 0, _, _, _, h => by obtain ⟨rfl, a, rfl⟩ := h; exact ⟨a, rfl⟩
  | n + 1, _, l, hs, h => by
    obtain ⟨a, cap, rfl, h1, h2, h3⟩ := h
    refine ⟨a, l.length, cap, rfl, h1, hs.1, h2, fun hpos => ?_⟩
    obtain ⟨b, cur, K, rfl, hb, hr, hK, hcK, hc⟩ := h3 hpos
    refine ⟨b, cur, K, rfl, hb, hr, hK, hcK, fun k hk => ?_⟩
    obtain ⟨t, ht⟩ : ∃ t, l[k]? = some t := ⟨l[k], by simp [hk]⟩
    obtain ⟨av', q1, q2⟩ := hc k t ht
    exact ⟨t, av', q1, q2.ov (smallT_args (smallL_at hs.2 ht))⟩
theorem Ov.shape {S : Nat → Prop} {w : World} {n : Nat} {av : Value} (h : Ov S w n av) : ∃ a m cap, av = .slice a m cap ∧ m ≤ cap ∧ m ≤ 1099511627744 ∧ cap ≤ 9223372036854775807 := by
  cases n with
  | zero => obtain ⟨a, rfl⟩ := h; exact ⟨a, 0, 0, rfl, Nat.le_refl _, by omega, by omega⟩
  | succ n => obtain ⟨a, m, cap, rfl, h1, h2, h3, _⟩ := h; exact ⟨a, m, cap, rfl, h1, h2, h3⟩
/-- What an owner's writing turns: rows with the property alone, and these stay such lists. -/
structure OvW (S : Nat → Prop) (w w' : World) : Prop where
  os : w'.os = w.os
  tape : w'.tape = w.tape
  output : w'.output = w.output
  size : w.heap.size ≤ w'.heap.size
  block : ∀ b, b < w.heap.size → ¬ S b → w'.heap[b]? = w.heap[b]?
  keep : ∀ n av, Ov S w n av → Ov S w' n av
theorem OvW.trans {S : Nat → Prop} {a b c : World} (h : OvW S a b) (k : OvW S b c) : OvW S a c :=
  ⟨k.os.trans h.os, k.tape.trans h.tape, k.output.trans h.output, Nat.le_trans h.size k.size, fun i hi hn => (k.block i (Nat.lt_of_lt_of_le hi h.size) hn).trans (h.block i hi hn), fun n av q => k.keep n av (h.keep n av q)⟩
theorem Ov.of_heap {S : Nat → Prop} {w w' : World} (hk : ∀ b, S b → b < w.heap.size → w'.heap[b]? = w.heap[b]?) : ∀ {n : Nat} {av : Value}, Ov S w n av → Ov S w' n av
  | 0, _, h => h
  | n + 1, _, h => by
    obtain ⟨a, m, cap, rfl, h1, h2, h4, h3⟩ := h
    refine ⟨a, m, cap, rfl, h1, h2, h4, fun hpos => ?_⟩
    obtain ⟨b, cur, K, rfl, hb, hr, hK, hcK, hc⟩ := h3 hpos
    have hlt : b < w.heap.size := (Array.getElem?_eq_some_iff.1 hr).1
    exact ⟨b, cur, K, rfl, hb, (hk b hb hlt).trans hr, hK, hcK, fun k hkm => let ⟨u, av', q1, q2⟩ := hc k hkm; ⟨u, av', fun i v hv => (World.cell?_of_block (w := w) (a := ⟨b, k * 15 + i, none⟩) (hk b hb hlt)).trans (q1 i v hv), Ov.of_heap hk q2⟩⟩
theorem OvW.of_xt {S : Nat → Prop} {w w' : World} (h : Xt w w') : OvW S w w' :=
  ⟨h.os, h.tape, h.output, h.size, fun b hb _ => h.block b hb, fun _ _ q => q.of_heap (fun b _ hb => h.block b hb)⟩
theorem setCells_rowC {T : TypeId} (b : Nat) : ∀ (vs : List Value) (o : Nat) (w : World) (cur : Array Value), w.heap[b]? = some (.cells cur T (0, 0)) → ∃ cur', (w.setCells b o vs).heap[b]? = some (.cells cur' T (0, 0)) ∧ cur'.size = cur.size
  | [], _, _, cur, h => ⟨cur, h, rfl⟩
  | v :: r, o, w, cur, h => by
    rw [World.setCells]
    obtain ⟨cur', h1, h2⟩ := setCells_rowC b r (o + 1) _ _ (heap_setCell_same w b o cur T v h)
    exact ⟨cur', h1, by simpa using h2⟩
theorem setCells_far (b : Nat) : ∀ (vs : List Value) (o : Nat) (w : World) (k : Nat), k ≠ b → (w.setCells b o vs).heap[k]? = w.heap[k]?
  | [], _, _, _, _ => rfl
  | v :: r, o, w, k, h => by
    rw [World.setCells]
    exact (setCells_far b r (o + 1) _ k h).trans (Below.heap_setCell _ _ _ _ h)
theorem setCells_size (b : Nat) : ∀ (vs : List Value) (o : Nat) (w : World), (w.setCells b o vs).heap.size = w.heap.size ∧ (w.setCells b o vs).os = w.os ∧ (w.setCells b o vs).tape = w.tape ∧ (w.setCells b o vs).output = w.output
  | [], _, _ => ⟨rfl, rfl, rfl, rfl⟩
  | v :: r, o, w => by
    rw [World.setCells]
    obtain ⟨h1, h2, h3, h4⟩ := setCells_size b r (o + 1) (w.setCell ⟨b, o, none⟩ v)
    exact ⟨h1.trans (by simp), h2, h3, h4⟩
/-- A node without args. -/
def leafT (k : Int) (s : ByteArray) : NodeT := .mk k 0 0 s false 0 zR zR []
/-- An element's node is written: those that are such lists are such lists. -/
theorem Ov.written {S : Nat → Prop} {w : World} {b k : Nat} {u : NodeT} {av0 : Value} {w' : World} (hav : ∀ n, Ov S w n (.slice none 0 0))
    (hfar : ∀ j, j ≠ b → w'.heap[j]? = w.heap[j]?) (hrow : ∀ cur, w.heap[b]? = some (.cells cur 44 (0, 0)) → ∃ cur', w'.heap[b]? = some (.cells cur' 44 (0, 0)) ∧ cur'.size = cur.size)
    (hel : ∀ (k' : Nat) (u' : NodeT) (av' : Value), (∀ i v, (nodeC u' av')[i]? = some v → w.cell? ⟨b, k' * 15 + i, none⟩ = some v) → ∃ u2, (∀ i v, (nodeC u2 av')[i]? = some v → w'.cell? ⟨b, k' * 15 + i, none⟩ = some v) ∨ (∀ i v, (nodeC u2 (.slice none 0 0))[i]? = some v → w'.cell? ⟨b, k' * 15 + i, none⟩ = some v)) : ∀ {n : Nat} {av : Value}, Ov S w n av → Ov S w' n av
  | 0, _, h => h
  | n + 1, _, h => by
    obtain ⟨a, m, cap, rfl, h1, h2, h4, h3⟩ := h
    refine ⟨a, m, cap, rfl, h1, h2, h4, fun hpos => ?_⟩
    obtain ⟨b', cur, K, rfl, hb, hr, hK, hcK, hc⟩ := h3 hpos
    by_cases e : b' = b
    · subst e
      obtain ⟨cur', hr', hs'⟩ := hrow cur hr
      refine ⟨b', cur', K, rfl, hb, hr', hs'.trans hK, hcK, fun k' hk' => ?_⟩
      obtain ⟨u', av', q1, q2⟩ := hc k' hk'
      obtain ⟨u2, q | q⟩ := hel k' u' av' q1
      · exact ⟨u2, av', q, Ov.written (k := k) (u := u) (av0 := av0) hav hfar hrow hel q2⟩
      · exact ⟨u2, _, q, Ov.nil n⟩
    · exact ⟨b', cur, K, rfl, hb, (hfar b' e).trans hr, hK, hcK, fun k' hk' => let ⟨u', av', q1, q2⟩ := hc k' hk'; ⟨u', av', fun i v hv => (World.cell?_of_block (w := w) (a := ⟨b', k' * 15 + i, none⟩) (hfar b' e)).trans (q1 i v hv), Ov.written (k := k) (u := u) (av0 := av0) hav hfar hrow hel q2⟩⟩
theorem row_thereN {w : World} {b k K : Nat} {cur : Array Value} {T : TypeId} (hr : w.heap[b]? = some (.cells cur T (0, 0))) (hK : cur.size = K * 15) (hk : k < K) : w.there b (k * 15) 15 := fun j hj => by
  have hlt : k * 15 + j < cur.size := by omega
  constructor
  · have : w.cell? ⟨b, k * 15 + j, none⟩ = cur[k * 15 + j]? := by simp [World.cell?, hr]
    rw [this, Array.getElem?_eq_getElem hlt]; rfl
  · simp [World.frozen?, hr]
theorem leaf_len (u : NodeT) (av : Value) : (nodeC u av).length = 15 := rfl
theorem OvW.store {S : Nat → Prop} {w : World} {b k K : Nat} {cur : Array Value} (hS : S b) (hr : w.heap[b]? = some (.cells cur 44 (0, 0))) (hK : cur.size = K * 15) (hk : k < K) (u : NodeT) : OvW S w (w.setCells b (k * 15) (nodeC u (.slice none 0 0))) := by
  obtain ⟨s1, s2, s3, s4⟩ := setCells_size b (nodeC u (.slice none 0 0)) (k * 15) w
  have ht := row_thereN hr hK hk
  refine ⟨s2, s3, s4, by omega, fun j _ hn => setCells_far b _ _ w j (fun e => hn (e ▸ hS)), fun n av h => Ov.written (k := k) (u := u) (av0 := .slice none 0 0) (fun _ => Ov.nil _) (fun j hj => setCells_far b _ _ w j hj) (fun cur h => setCells_rowC b _ _ w cur h) (fun k' u' av' q => ?_) h⟩
  by_cases e : k' = k
  · subst e
    exact ⟨u, Or.inr (World.rangeAt_setCells_same w b (k' * 15) _ ht)⟩
  · refine ⟨u', Or.inl (fun i v hv => World.rangeAt_setCells_apart (b' := b) (o' := k' * 15) (cs := nodeC u' av') q b (k * 15) _ ?_ i v hv)⟩
    right; rw [leaf_len, leaf_len]; omega
theorem OvW.kind {S : Nat → Prop} {w : World} {b k K : Nat} {cur : Array Value} (hS : S b) (hr : w.heap[b]? = some (.cells cur 44 (0, 0))) (hK : cur.size = K * 15) (hk : k < K) (z : Int) : OvW S w (w.setCell ⟨b, k * 15, none⟩ (.int .i64 z)) := by
  have ht := row_thereN hr hK hk
  refine ⟨rfl, rfl, rfl, by simp, fun j _ hn => Below.heap_setCell _ _ _ _ (fun e => hn (e ▸ hS)), fun n av h => Ov.written (k := k) (u := leafT 0 ⟨#[]⟩) (av0 := .slice none 0 0) (fun _ => Ov.nil _) (fun j hj => Below.heap_setCell _ _ _ _ hj) (fun cur h => ⟨_, heap_setCell_same w b (k * 15) cur _ _ h, by simp⟩) (fun k' u' av' q => ?_) h⟩
  by_cases e : k' = k
  · subst e
    obtain ⟨kk, o, x, s, bb, f, r, g, l⟩ := u'
    refine ⟨.mk z o x s bb f r g l, Or.inl (fun i v hv => ?_)⟩
    by_cases h0 : i = 0
    · subst h0
      obtain ⟨y, hy⟩ := Option.isSome_iff_exists.1 (ht 0 (by omega)).1
      have : v = .int .i64 z := by simpa [nodeC, NodeT.kind] using hv.symm
      rw [this]
      exact World.cell?_setCell_same w _ _ hy
    · rw [World.cell?_setCell_other w _ _ _ (fun e => by have := congrArg Addr.off e; simp at this; omega)]
      refine q i v ?_
      rw [← hv]
      obtain ⟨j, rfl⟩ : ∃ j, i = j + 1 := ⟨i - 1, by omega⟩
      rfl
  · refine ⟨u', Or.inl (fun i v hv => ?_)⟩
    have hi : i < 15 := (List.getElem?_eq_some_iff.1 hv).1
    rw [World.cell?_setCell_other w _ _ _ (fun e2 => by have := congrArg Addr.off e2; simp at this; omega)]
    exact q i v hv
theorem ArgsIn.upQ {w : World} {n m : Nat} {av : Value} {l : List NodeT} (hm : n ≤ m) (h : ArgsIn w n av l) : ArgsIn w m av l := by
  obtain ⟨k, rfl⟩ := Nat.exists_eq_add_of_le hm
  clear hm
  induction k with
  | zero => exact h
  | succ k ih => exact ih.up
end
end Go.Proofs.YtideclfpbpjebaaGreatDoor
