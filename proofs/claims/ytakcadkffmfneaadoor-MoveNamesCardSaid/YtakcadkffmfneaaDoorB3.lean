import Derived.Test.YtakcadkffmfneaaDoorB2
import Derived.Test.YtakcadkffmfneaaDoorD7
import Derived.Test.YtakcadkffmfneaaDoorA3
import Derived.Deep.MidRow
import Derived.ArgAppend
import Derived.Test.YtakcadkffmfneaaDoorB1
/- Lists that their owner writes over. -/
namespace Go.Proofs.YtakcadkffmfneaaDoor
open Go.RowKit Go.Sort

/-- A slice of nodes in whole rows of nodes with a property, whatever the nodes are, so deep. -/
def Ov (S : Nat → Prop) (w : World) : Nat → Value → Prop
  | 0, av => ∃ a, av = .slice a 0 0
  | n + 1, av => ∃ a m cap, av = .slice a m cap ∧ m ≤ cap ∧ m ≤ 1099511627000 ∧ cap ≤ 9223372036854775807 ∧ (0 < cap → ∃ b cur K, a = some ⟨b, 0, none⟩ ∧ S b ∧ w.heap[b]? = some (.cells cur 37 (0, 0)) ∧ cur.size = K * 15 ∧ cap ≤ K ∧
      ∀ k, k < m → ∃ u av', (∀ i v, (nodeC u av')[i]? = some v → w.cell? ⟨b, k * 15 + i, none⟩ = some v) ∧ Ov S w n av')
theorem Ov.nil {S : Nat → Prop} {w : World} {a : Option Addr} : ∀ n, Ov S w n (.slice a 0 0)
  | 0 => ⟨a, rfl⟩
  | _ + 1 => ⟨a, 0, 0, rfl, Nat.le_refl _, by omega, by omega, fun h => absurd h (Nat.lt_irrefl _)⟩
theorem OwnIn.ov {S : Nat → Prop} {w : World} : ∀ {n : Nat} {av : Value} {l : List NodeT}, (l.length ≤ 1099511627000 ∧ smallL l) → OwnIn S w n av l → Ov S w n av
  | 0, _, _, _, h => by obtain ⟨rfl, a, rfl⟩ := h; exact ⟨a, rfl⟩
  | n + 1, _, l, hs, h => by
    obtain ⟨a, cap, rfl, h1, h2, h3⟩ := h
    refine ⟨a, l.length, cap, rfl, h1, hs.1, h2, fun hpos => ?_⟩
    obtain ⟨b, cur, K, rfl, hb, hr, hK, hcK, hc⟩ := h3 hpos
    refine ⟨b, cur, K, rfl, hb, hr, hK, hcK, fun k hk => ?_⟩
    obtain ⟨t, ht⟩ : ∃ t, l[k]? = some t := ⟨l[k], by simp [hk]⟩
    obtain ⟨av', q1, q2⟩ := hc k t ht
    exact ⟨t, av', q1, q2.ov (smallT_args (smallL_at hs.2 ht))⟩
theorem Ov.shape {S : Nat → Prop} {w : World} {n : Nat} {av : Value} (h : Ov S w n av) : ∃ a m cap, av = .slice a m cap ∧ m ≤ cap ∧ m ≤ 1099511627000 ∧ cap ≤ 9223372036854775807 := by
  cases n with
  | zero => obtain ⟨a, rfl⟩ := h; exact ⟨a, 0, 0, rfl, Nat.le_refl _, by omega, by omega⟩
  | succ n => obtain ⟨a, m, cap, rfl, h1, h2, h3, _⟩ := h; exact ⟨a, m, cap, rfl, h1, h2, h3⟩
/-- What an owner's writing turns: rows with the property alone, and these stay such lists. -/
structure OvW (S : Nat → Prop) (w w' : World) : Prop where
  os : w'.os = w.os
  tape : w'.tape = w.tape
  output : w'.output = w.output
  size : w.heap.size ≤ w'.heap.size
  block : ∀ b, b < w.heap.size → ¬ S b → w'.heap[b]? = w.heap[b]?
  keep : ∀ n av, Ov S w n av → Ov S w' n av
theorem OvW.trans {S : Nat → Prop} {a b c : World} (h : OvW S a b) (k : OvW S b c) : OvW S a c :=
  ⟨k.os.trans h.os, k.tape.trans h.tape, k.output.trans h.output, Nat.le_trans h.size k.size, fun i hi hn => (k.block i (Nat.lt_of_lt_of_le hi h.size) hn).trans (h.block i hi hn), fun n av q => k.keep n av (h.keep n av q)⟩
theorem Ov.of_heap {S : Nat → Prop} {w w' : World} (hk : ∀ b, S b → b < w.heap.size → w'.heap[b]? = w.heap[b]?) : ∀ {n : Nat} {av : Value}, Ov S w n av → Ov S w' n av
  | 0, _, h => h
  | n + 1, _, h => by
    obtain ⟨a, m, cap, rfl, h1, h2, h4, h3⟩ := h
    refine ⟨a, m, cap, rfl, h1, h2, h4, fun hpos => ?_⟩
    obtain ⟨b, cur, K, rfl, hb, hr, hK, hcK, hc⟩ := h3 hpos
    have hlt : b < w.heap.size := (Array.getElem?_eq_some_iff.1 hr).1
    exact ⟨b, cur, K, rfl, hb, (hk b hb hlt).trans hr, hK, hcK, fun k hkm => let ⟨u, av', q1, q2⟩ := hc k hkm; ⟨u, av', fun i v hv => (World.cell?_of_block (w := w) (a := ⟨b, k * 15 + i, none⟩) (hk b hb hlt)).trans (q1 i v hv), Ov.of_heap hk q2⟩⟩
theorem OvW.of_xt {S : Nat → Prop} {w w' : World} (h : Xt w w') : OvW S w w' :=
  ⟨h.os, h.tape, h.output, h.size, fun b hb _ => h.block b hb, fun _ _ q => q.of_heap (fun b _ hb => h.block b hb)⟩
theorem setCells_rowC {T : TypeId} (b : Nat) : ∀ (vs : List Value) (o : Nat) (w : World) (cur : Array Value), w.heap[b]? = some (.cells cur T (0, 0)) → ∃ cur', (w.setCells b o vs).heap[b]? = some (.cells cur' T (0, 0)) ∧ cur'.size = cur.size
  | [], _, _, cur, h => ⟨cur, h, rfl⟩
  | v :: r, o, w, cur, h => by
    rw [World.setCells]
    obtain ⟨cur', h1, h2⟩ := setCells_rowC b r (o + 1) _ _ (heap_setCell_same w b o cur T v h)
    exact ⟨cur', h1, by simpa using h2⟩
theorem setCells_far (b : Nat) : ∀ (vs : List Value) (o : Nat) (w : World) (k : Nat), k ≠ b → (w.setCells b o vs).heap[k]? = w.heap[k]?
  | [], _, _, _, _ => rfl
  | v :: r, o, w, k, h => by
    rw [World.setCells]
    exact (setCells_far b r (o + 1) _ k h).trans (Below.heap_setCell _ _ _ _ h)
theorem setCells_size (b : Nat) : ∀ (vs : List Value) (o : Nat) (w : World), (w.setCells b o vs).heap.size = w.heap.size ∧ (w.setCells b o vs).os = w.os ∧ (w.setCells b o vs).tape = w.tape ∧ (w.setCells b o vs).output = w.output
  | [], _, _ => ⟨rfl, rfl, rfl, rfl⟩
  | v :: r, o, w => by
    rw [World.setCells]
    obtain ⟨h1, h2, h3, h4⟩ := setCells_size b r (o + 1) (w.setCell ⟨b, o, none⟩ v)
    exact ⟨h1.trans (by simp), h2, h3, h4⟩
/-- A node without args. -/
def leafT (k : Int) (s : ByteArray) : NodeT := .mk k 0 0 s false 0 zR zR []
/-- An element's node is written: those that are such lists are such lists. -/
theorem Ov.written {S : Nat → Prop} {w : World} {b k : Nat} {u : NodeT} {av0 : Value} {w' : World} (hav : ∀ n, Ov S w n (.slice none 0 0))
    (hfar : ∀ j, j ≠ b → w'.heap[j]? = w.heap[j]?) (hrow : ∀ cur, w.heap[b]? = some (.cells cur 37 (0, 0)) → ∃ cur', w'.heap[b]? = some (.cells cur' 37 (0, 0)) ∧ cur'.size = cur.size)
    (hel : ∀ (k' : Nat) (u' : NodeT) (av' : Value), (∀ i v, (nodeC u' av')[i]? = some v → w.cell? ⟨b, k' * 15 + i, none⟩ = some v) → ∃ u2, (∀ i v, (nodeC u2 av')[i]? = some v → w'.cell? ⟨b, k' * 15 + i, none⟩ = some v) ∨ (∀ i v, (nodeC u2 (.slice none 0 0))[i]? = some v → w'.cell? ⟨b, k' * 15 + i, none⟩ = some v)) : ∀ {n : Nat} {av : Value}, Ov S w n av → Ov S w' n av
  | 0, _, h => h
  | n + 1, _, h => by
    obtain ⟨a, m, cap, rfl, h1, h2, h4, h3⟩ := h
    refine ⟨a, m, cap, rfl, h1, h2, h4, fun hpos => ?_⟩
    obtain ⟨b', cur, K, rfl, hb, hr, hK, hcK, hc⟩ := h3 hpos
    by_cases e : b' = b
    · subst e
      obtain ⟨cur', hr', hs'⟩ := hrow cur hr
      refine ⟨b', cur', K, rfl, hb, hr', hs'.trans hK, hcK, fun k' hk' => ?_⟩
      obtain ⟨u', av', q1, q2⟩ := hc k' hk'
      obtain ⟨u2, q | q⟩ := hel k' u' av' q1
      · exact ⟨u2, av', q, Ov.written (k := k) (u := u) (av0 := av0) hav hfar hrow hel q2⟩
      · exact ⟨u2, _, q, Ov.nil n⟩
    · exact ⟨b', cur, K, rfl, hb, (hfar b' e).trans hr, hK, hcK, fun k' hk' => let ⟨u', av', q1, q2⟩ := hc k' hk'; ⟨u', av', fun i v hv => (World.cell?_of_block (w := w) (a := ⟨b', k' * 15 + i, none⟩) (hfar b' e)).trans (q1 i v hv), Ov.written (k := k) (u := u) (av0 := av0) hav hfar hrow hel q2⟩⟩
theorem row_thereN {w : World} {b k K : Nat} {cur : Array Value} {T : TypeId} (hr : w.heap[b]? = some (.cells cur T (0, 0))) (hK : cur.size = K * 15) (hk : k < K) : w.there b (k * 15) 15 := fun j hj => by
  have hlt : k * 15 + j < cur.size := by omega
  constructor
  · have : w.cell? ⟨b, k * 15 + j, none⟩ = cur[k * 15 + j]? := by simp [World.cell?, hr]
    rw [this, Array.getElem?_eq_getElem hlt]; rfl
  · simp [World.frozen?, hr]
theorem leaf_len (u : NodeT) (av : Value) : (nodeC u av).length = 15 := rfl
theorem OvW.store {S : Nat → Prop} {w : World} {b k K : Nat} {cur : Array Value} (hS : S b) (hr : w.heap[b]? = some (.cells cur 37 (0, 0))) (hK : cur.size = K * 15) (hk : k < K) (u : NodeT) : OvW S w (w.setCells b (k * 15) (nodeC u (.slice none 0 0))) := by
  obtain ⟨s1, s2, s3, s4⟩ := setCells_size b (nodeC u (.slice none 0 0)) (k * 15) w
  have ht := row_thereN hr hK hk
  refine ⟨s2, s3, s4, by omega, fun j _ hn => setCells_far b _ _ w j (fun e => hn (e ▸ hS)), fun n av h => Ov.written (k := k) (u := u) (av0 := .slice none 0 0) (fun _ => Ov.nil _) (fun j hj => setCells_far b _ _ w j hj) (fun cur h => setCells_rowC b _ _ w cur h) (fun k' u' av' q => ?_) h⟩
  by_cases e : k' = k
  · subst e
    exact ⟨u, Or.inr (World.rangeAt_setCells_same w b (k' * 15) _ ht)⟩
  · refine ⟨u', Or.inl (fun i v hv => World.rangeAt_setCells_apart (b' := b) (o' := k' * 15) (cs := nodeC u' av') q b (k * 15) _ ?_ i v hv)⟩
    right; rw [leaf_len, leaf_len]; omega
theorem OvW.kind {S : Nat → Prop} {w : World} {b k K : Nat} {cur : Array Value} (hS : S b) (hr : w.heap[b]? = some (.cells cur 37 (0, 0))) (hK : cur.size = K * 15) (hk : k < K) (z : Int) : OvW S w (w.setCell ⟨b, k * 15, none⟩ (.int .i64 z)) := by
  have ht := row_thereN hr hK hk
  refine ⟨rfl, rfl, rfl, by simp, fun j _ hn => Below.heap_setCell _ _ _ _ (fun e => hn (e ▸ hS)), fun n av h => Ov.written (k := k) (u := leafT 0 ⟨#[]⟩) (av0 := .slice none 0 0) (fun _ => Ov.nil _) (fun j hj => Below.heap_setCell _ _ _ _ hj) (fun cur h => ⟨_, heap_setCell_same w b (k * 15) cur _ _ h, by simp⟩) (fun k' u' av' q => ?_) h⟩
  by_cases e : k' = k
  · subst e
    obtain ⟨kk, o, x, s, bb, f, r, g, l⟩ := u'
    refine ⟨.mk z o x s bb f r g l, Or.inl (fun i v hv => ?_)⟩
    by_cases h0 : i = 0
    · subst h0
      obtain ⟨y, hy⟩ := Option.isSome_iff_exists.1 (ht 0 (by omega)).1
      have : v = .int .i64 z := by simpa [nodeC, NodeT.kind] using hv.symm
      rw [this]
      exact World.cell?_setCell_same w _ _ hy
    · rw [World.cell?_setCell_other w _ _ _ (fun e => by have := congrArg Addr.off e; simp at this; omega)]
      refine q i v ?_
      rw [← hv]
      obtain ⟨j, rfl⟩ : ∃ j, i = j + 1 := ⟨i - 1, by omega⟩
      rfl
  · refine ⟨u', Or.inl (fun i v hv => ?_)⟩
    have hi : i < 15 := (List.getElem?_eq_some_iff.1 hv).1
    rw [World.cell?_setCell_other w _ _ _ (fun e2 => by have := congrArg Addr.off e2; simp at this; omega)]
    exact q i v hv
end Go.Proofs.YtakcadkffmfneaaDoor
/- A formula whose references have gone a road: the tree; an element of a list of one's own is written. -/
namespace Go.Proofs.YtakcadkffmfneaaDoor
open Go.RowKit Go.Sort

def arOf (r q : RefT) : ArT := ⟨r.a.1, r.a.2, q.a.1, q.a.2⟩
def lostT : NodeT := .mk 4 0 0 ⟨#[]⟩ false 4 zR zR []
/-- A node whose args have gone the road goes it. -/
def turnH (cG : Ad → Ad × Bool) (aG : ArT → ArT × Bool) : NodeT → NodeT
  | .mk k o x s b f r q l =>
    if k = 5 then (if (cG r.a).2 = true then .mk k o x s b f ⟨(cG r.a).1, r.cf, r.rf⟩ q l else lostT)
    else if k = 6 then (if (aG (arOf r q)).2 = true then .mk k o x s b f ⟨((aG (arOf r q)).1.a, (aG (arOf r q)).1.b), r.cf, r.rf⟩ ⟨((aG (arOf r q)).1.c, (aG (arOf r q)).1.d), q.cf, q.rf⟩ l else lostT)
    else .mk k o x s b f r q l
mutual
def turnT (cG : Ad → Ad × Bool) (aG : ArT → ArT × Bool) : NodeT → NodeT
  | .mk k o x s b f r q l => turnH cG aG (.mk k o x s b f r q (turnL cG aG l))
def turnL (cG : Ad → Ad × Bool) (aG : ArT → ArT × Bool) : List NodeT → List NodeT
  | [] => []
  | t :: l => turnT cG aG t :: turnL cG aG l
end
theorem turnL_map (cG : Ad → Ad × Bool) (aG : ArT → ArT × Bool) : ∀ l : List NodeT, turnL cG aG l = l.map (turnT cG aG)
  | [] => rfl
  | t :: l => by rw [turnL, turnL_map cG aG l]; rfl
def withL : NodeT → List NodeT → NodeT
  | .mk k o x s b f r q _, l => .mk k o x s b f r q l
theorem turnT_eq (cG : Ad → Ad × Bool) (aG : ArT → ArT × Bool) (t : NodeT) : turnT cG aG t = turnH cG aG (withL t (t.args.map (turnT cG aG))) := by
  obtain ⟨k, o, x, s, b, f, r, q, l⟩ := t
  rw [turnT, turnL_map]; rfl
/-- What an owner's writing turns: blocks with the property alone. -/
structure Wr (S : Nat → Prop) (w w' : World) : Prop where
  os : w'.os = w.os
  tape : w'.tape = w.tape
  output : w'.output = w.output
  size : w.heap.size ≤ w'.heap.size
  block : ∀ b, b < w.heap.size → ¬ S b → w'.heap[b]? = w.heap[b]?
theorem Wr.refl (S : Nat → Prop) (w : World) : Wr S w w := ⟨rfl, rfl, rfl, Nat.le_refl _, fun _ _ _ => rfl⟩
theorem Wr.trans {S : Nat → Prop} {a b c : World} (h : Wr S a b) (k : Wr S b c) : Wr S a c :=
  ⟨k.os.trans h.os, k.tape.trans h.tape, k.output.trans h.output, Nat.le_trans h.size k.size, fun i hi hn => (k.block i (Nat.lt_of_lt_of_le hi h.size) hn).trans (h.block i hi hn)⟩
theorem Wr.of_xt {S : Nat → Prop} {w w' : World} (h : Xt w w') : Wr S w w' := ⟨h.os, h.tape, h.output, h.size, fun b hb _ => h.block b hb⟩
theorem Wr.weak {S S' : Nat → Prop} {w w' : World} (h : Wr S w w') (hS : ∀ b, S b → S' b) : Wr S' w w' := ⟨h.os, h.tape, h.output, h.size, fun b hb hn => h.block b hb fun q => hn (hS b q)⟩
theorem Wr.xt {S : Nat → Prop} {w w' : World} {V : World} (h : Wr S w w') (hV : Xt V w) (hS : ∀ b, S b → V.heap.size ≤ b) : Xt V w' :=
  ⟨h.os.trans hV.os, h.tape.trans hV.tape, h.output.trans hV.output, Nat.le_trans hV.size h.size, fun b hb => (h.block b (Nat.lt_of_lt_of_le hb hV.size) fun q => absurd (hS b q) (by omega)).trans (hV.block b hb)⟩
theorem Wr.set {S : Nat → Prop} {w : World} {b o : Nat} (vs : List Value) (hb : S b) : Wr S w (w.setCells b o vs) := by
  obtain ⟨s1, s2, s3, s4⟩ := setCells_size b vs o w
  exact ⟨s2, s3, s4, by omega, fun j _ hn => setCells_far b _ _ w j (fun e => hn (e ▸ hb))⟩
/-- An element of a list of one's own; what the list is once the element's node is written. -/
theorem SepIn.elem {S : Nat → Prop} {w : World} {n i m cap : Nat} {a : Option Addr} {l : List NodeT} {t : NodeT} (h : SepIn S w n (.slice a m cap) l) (ht : l[i]? = some t) :
    ∃ n' b a' c' T, n = n' + 1 ∧ a = some ⟨b, 0, none⟩ ∧ S b ∧ b < w.heap.size ∧ (∀ c, T c → S c ∧ c ≠ b) ∧ NodeAt w b (i * 15) t a' t.args.length c' ∧ SepIn T w n' (.slice a' t.args.length c') t.args ∧
      (∀ w2, Wr T w w2 → w2.there b (i * 15) 15) ∧
      ∀ w2 (t' : NodeT) (av2 : Value), Wr T w w2 → SepIn T w2 n' av2 t'.args → SepIn S (w2.setCells b (i * 15) (nodeC t' av2)) n (.slice a m cap) (l.set i t') ∧ Wr S w (w2.setCells b (i * 15) (nodeC t' av2)) := by
  have hil := (List.getElem?_eq_some_iff.1 ht).1
  cases n with
  | zero => obtain ⟨rfl, _⟩ := h; simp at ht
  | succ n =>
    obtain ⟨_, _, e, h1, h2, h3⟩ := h
    cases e
    obtain ⟨b, cur, K, T, rfl, hb, hr, hK, hcK, hT, hD, hc⟩ := h3 (by omega)
    obtain ⟨av', q1, q2⟩ := hc i t ht
    obtain ⟨a', c', rfl, _⟩ := q2.own.shape
    have hlt : b < w.heap.size := (Array.getElem?_eq_some_iff.1 hr).1
    have hnb : ¬ T i b := fun e => (hT i b e).2 rfl
    refine ⟨n, b, a', c', T i, rfl, rfl, hb, hlt, fun c hc => hT i c hc, NodeAt.of q1, q2, fun w2 hw2 => row_thereN ((hw2.block b hlt hnb).trans hr) hK (by omega), fun w2 t' av2 hw2 hs2 => ?_⟩
    have hr2 := (hw2.block b hlt hnb).trans hr
    have ht2 := row_thereN hr2 hK (k := i) (by omega)
    obtain ⟨cur', hr3, hs3⟩ := setCells_rowC b (nodeC t' av2) (i * 15) w2 cur hr2
    refine ⟨⟨_, cap, by rw [List.length_set], by rw [List.length_set]; exact h1, h2, fun _ => ⟨b, cur', K, T, rfl, hb, hr3, hs3.trans hK, hcK, hT, hD, fun k u hu => ?_⟩⟩, (hw2.weak fun c hc => (hT i c hc).1).trans (Wr.set _ hb)⟩
    by_cases e : k = i
    · subst e
      rw [List.getElem?_set_self hil] at hu
      cases hu
      exact ⟨av2, World.rangeAt_setCells_same w2 b (k * 15) _ ht2, hs2.keep (fun c hc _ => setCells_far b _ _ w2 c (hT k c hc).2)⟩
    · rw [List.getElem?_set_ne (fun e' => e e'.symm)] at hu
      obtain ⟨av3, p1, p2⟩ := hc k u hu
      have p1' : ∀ i v, (nodeC u av3)[i]? = some v → w2.cell? ⟨b, k * 15 + i, none⟩ = some v := fun j v hv => (World.cell?_of_block (w := w) (a := ⟨b, k * 15 + j, none⟩) (hw2.block b hlt hnb)).trans (p1 j v hv)
      refine ⟨av3, fun j v hv => World.rangeAt_setCells_apart (b' := b) (o' := k * 15) (cs := nodeC u av3) p1' b (i * 15) _ ?_ j v hv, p2.keep (fun c hc hlc => (setCells_far b _ _ w2 c (hT k c hc).2).trans (hw2.block c hlc fun q => hD k i c e hc q))⟩
      right; rw [leaf_len, leaf_len]; omega
end Go.Proofs.YtakcadkffmfneaaDoor
