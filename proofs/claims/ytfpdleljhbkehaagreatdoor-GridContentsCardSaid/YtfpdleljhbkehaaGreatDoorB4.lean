import Derived.Test.YtfpdleljhbkehaaGreatDoorB2
import Derived.Test.YtfpdleljhbkehaaGreatDoorW20
import Derived.Test.YtfpdleljhbkehaaGreatDoorB3
import Derived.Test.YtfpdleljhbkehaaGreatDoorA3
import Derived.Deep.MidRow
import Derived.ArgAppend
import Derived.Test.YtfpdleljhbkehaaGreatDoorA2
import Derived.Deep.Cut
namespace Go.Proofs.YtfpdleljhbkehaaGreatDoor
open Go.RowKit Go.Sort

theorem small_of_heavy {c : ContT} (h : heavyB c = false) : smallT c.t := by
  unfold heavyB at h
  have := of_decide_eq_false h
  exact weightT_small c.t 1048576 (by omega) (by omega) (by omega)
end Go.Proofs.YtfpdleljhbkehaaGreatDoor
/- Lists that their owner writes over. -/
namespace Go.Proofs.YtfpdleljhbkehaaGreatDoor
open Go.RowKit Go.Sort

/-- A slice of nodes in whole rows of nodes with a property, whatever the nodes are, so deep. -/
def Ov (S : Nat → Prop) (w : World) : Nat → Value → Prop
  | 0, av => ∃ a, av = .slice a 0 0
  | n + 1, av => ∃ a m cap, av = .slice a m cap ∧ m ≤ cap ∧ m ≤ 1048576 ∧ cap ≤ 9223372036854775807 ∧ (0 < cap → ∃ b cur K, a = some ⟨b, 0, none⟩ ∧ S b ∧ w.heap[b]? = some (.cells cur 31 (0, 0)) ∧ cur.size = K * 15 ∧ cap ≤ K ∧
      ∀ k, k < m → ∃ u av', (∀ i v, (nodeC u av')[i]? = some v → w.cell? ⟨b, k * 15 + i, none⟩ = some v) ∧ Ov S w n av')
theorem Ov.nil {S : Nat → Prop} {w : World} {a : Option Addr} : ∀ n, Ov S w n (.slice a 0 0)
  | 0 => ⟨a, rfl⟩
  | _ + 1 => ⟨a, 0, 0, rfl, Nat.le_refl _, by omega, by omega, fun h => absurd h (Nat.lt_irrefl _)⟩
theorem OwnIn.ov {S : Nat → Prop} {w : World} : ∀ {n : Nat} {av : Value} {l : List NodeT}, (l.length ≤ 1048576 ∧ smallL l) → OwnIn S w n av l → Ov S w n av
  | 0, _, _, _, h => by obtain ⟨rfl, a, rfl⟩ := h; exact ⟨a, rfl⟩
  | n + 1, _, l, hs, h => by
    obtain ⟨a, cap, rfl, h1, h2, h3⟩ := h
    refine ⟨a, l.length, cap, rfl, h1, hs.1, h2, fun hpos => ?_⟩
    obtain ⟨b, cur, K, rfl, hb, hr, hK, hcK, hc⟩ := h3 hpos
    refine ⟨b, cur, K, rfl, hb, hr, hK, hcK, fun k hk => ?_⟩
    obtain ⟨t, ht⟩ : ∃ t, l[k]? = some t := ⟨l[k], by simp [hk]⟩
    obtain ⟨av', q1, q2⟩ := hc k t ht
    exact ⟨t, av', q1, q2.ov (smallT_args (smallL_at hs.2 ht))⟩
theorem Ov.shape {S : Nat → Prop} {w : World} {n : Nat} {av : Value} (h : Ov S w n av) : ∃ a m cap, av = .slice a m cap ∧ m ≤ cap ∧ m ≤ 1048576 ∧ cap ≤ 9223372036854775807 := by
  cases n with
  | zero => obtain ⟨a, rfl⟩ := h; exact ⟨a, 0, 0, rfl, Nat.le_refl _, by omega, by omega⟩
  | succ n => obtain ⟨a, m, cap, rfl, h1, h2, h3, _⟩ := h; exact ⟨a, m, cap, rfl, h1, h2, h3⟩
/-- What an owner's writing turns: rows with the property alone, and these stay such lists. -/
structure OvW (S : Nat → Prop) (w w' : World) : Prop where
  os : w'.os = w.os
  tape : w'.tape = w.tape
  output : w'.output = w.output
  size : w.heap.size ≤ w'.heap.size
  block : ∀ b, b < w.heap.size → ¬ S b → w'.heap[b]? = w.heap[b]?
  keep : ∀ n av, Ov S w n av → Ov S w' n av
theorem OvW.trans {S : Nat → Prop} {a b c : World} (h : OvW S a b) (k : OvW S b c) : OvW S a c :=
  ⟨k.os.trans h.os, k.tape.trans h.tape, k.output.trans h.output, Nat.le_trans h.size k.size, fun i hi hn => (k.block i (Nat.lt_of_lt_of_le hi h.size) hn).trans (h.block i hi hn), fun n av q => k.keep n av (h.keep n av q)⟩
theorem Ov.of_heap {S : Nat → Prop} {w w' : World} (hk : ∀ b, S b → b < w.heap.size → w'.heap[b]? = w.heap[b]?) : ∀ {n : Nat} {av : Value}, Ov S w n av → Ov S w' n av
  | 0, _, h => h
  | n + 1, _, h => by
    obtain ⟨a, m, cap, rfl, h1, h2, h4, h3⟩ := h
    refine ⟨a, m, cap, rfl, h1, h2, h4, fun hpos => ?_⟩
    obtain ⟨b, cur, K, rfl, hb, hr, hK, hcK, hc⟩ := h3 hpos
    have hlt : b < w.heap.size := (Array.getElem?_eq_some_iff.1 hr).1
    exact ⟨b, cur, K, rfl, hb, (hk b hb hlt).trans hr, hK, hcK, fun k hkm => let ⟨u, av', q1, q2⟩ := hc k hkm; ⟨u, av', fun i v hv => (World.cell?_of_block (w := w) (a := ⟨b, k * 15 + i, none⟩) (hk b hb hlt)).trans (q1 i v hv), Ov.of_heap hk q2⟩⟩
theorem OvW.of_xt {S : Nat → Prop} {w w' : World} (h : Xt w w') : OvW S w w' :=
  ⟨h.os, h.tape, h.output, h.size, fun b hb _ => h.block b hb, fun _ _ q => q.of_heap (fun b _ hb => h.block b hb)⟩
theorem setCells_rowC {T : TypeId} (b : Nat) : ∀ (vs : List Value) (o : Nat) (w : World) (cur : Array Value), w.heap[b]? = some (.cells cur T (0, 0)) → ∃ cur', (w.setCells b o vs).heap[b]? = some (.cells cur' T (0, 0)) ∧ cur'.size = cur.size
  | [], _, _, cur, h => ⟨cur, h, rfl⟩
  | v :: r, o, w, cur, h => by
    rw [World.setCells]
    obtain ⟨cur', h1, h2⟩ := setCells_rowC b r (o + 1) _ _ (heap_setCell_same w b o cur T v h)
    exact ⟨cur', h1, by simpa using h2⟩
theorem setCells_far (b : Nat) : ∀ (vs : List Value) (o : Nat) (w : World) (k : Nat), k ≠ b → (w.setCells b o vs).heap[k]? = w.heap[k]?
  | [], _, _, _, _ => rfl
  | v :: r, o, w, k, h => by
    rw [World.setCells]
    exact (setCells_far b r (o + 1) _ k h).trans (Below.heap_setCell _ _ _ _ h)
theorem setCells_size (b : Nat) : ∀ (vs : List Value) (o : Nat) (w : World), (w.setCells b o vs).heap.size = w.heap.size ∧ (w.setCells b o vs).os = w.os ∧ (w.setCells b o vs).tape = w.tape ∧ (w.setCells b o vs).output = w.output
  | [], _, _ => ⟨rfl, rfl, rfl, rfl⟩
  | v :: r, o, w => by
    rw [World.setCells]
    obtain ⟨h1, h2, h3, h4⟩ := setCells_size b r (o + 1) (w.setCell ⟨b, o, none⟩ v)
    exact ⟨h1.trans (by simp), h2, h3, h4⟩
/-- A node without args. -/
def leafT (k : Int) (s : ByteArray) : NodeT := .mk k 0 0 s false 0 zR zR []
/-- An element's node is written: those that are such lists are such lists. -/
theorem Ov.written {S : Nat → Prop} {w : World} {b k : Nat} {u : NodeT} {av0 : Value} {w' : World} (hav : ∀ n, Ov S w n (.slice none 0 0))
    (hfar : ∀ j, j ≠ b → w'.heap[j]? = w.heap[j]?) (hrow : ∀ cur, w.heap[b]? = some (.cells cur 31 (0, 0)) → ∃ cur', w'.heap[b]? = some (.cells cur' 31 (0, 0)) ∧ cur'.size = cur.size)
    (hel : ∀ (k' : Nat) (u' : NodeT) (av' : Value), (∀ i v, (nodeC u' av')[i]? = some v → w.cell? ⟨b, k' * 15 + i, none⟩ = some v) → ∃ u2, (∀ i v, (nodeC u2 av')[i]? = some v → w'.cell? ⟨b, k' * 15 + i, none⟩ = some v) ∨ (∀ i v, (nodeC u2 (.slice none 0 0))[i]? = some v → w'.cell? ⟨b, k' * 15 + i, none⟩ = some v)) : ∀ {n : Nat} {av : Value}, Ov S w n av → Ov S w' n av
  | 0, _, h => h
  | n + 1, _, h => by
    obtain ⟨a, m, cap, rfl, h1, h2, h4, h3⟩ := h
    refine ⟨a, m, cap, rfl, h1, h2, h4, fun hpos => ?_⟩
    obtain ⟨b', cur, K, rfl, hb, hr, hK, hcK, hc⟩ := h3 hpos
    by_cases e : b' = b
    · subst e
      obtain ⟨cur', hr', hs'⟩ := hrow cur hr
      refine ⟨b', cur', K, rfl, hb, hr', hs'.trans hK, hcK, fun k' hk' => ?_⟩
      obtain ⟨u', av', q1, q2⟩ := hc k' hk'
      obtain ⟨u2, q | q⟩ := hel k' u' av' q1
      · exact ⟨u2, av', q, Ov.written (k := k) (u := u) (av0 := av0) hav hfar hrow hel q2⟩
      · exact ⟨u2, _, q, Ov.nil n⟩
    · exact ⟨b', cur, K, rfl, hb, (hfar b' e).trans hr, hK, hcK, fun k' hk' => let ⟨u', av', q1, q2⟩ := hc k' hk'; ⟨u', av', fun i v hv => (World.cell?_of_block (w := w) (a := ⟨b', k' * 15 + i, none⟩) (hfar b' e)).trans (q1 i v hv), Ov.written (k := k) (u := u) (av0 := av0) hav hfar hrow hel q2⟩⟩
theorem row_thereN {w : World} {b k K : Nat} {cur : Array Value} {T : TypeId} (hr : w.heap[b]? = some (.cells cur T (0, 0))) (hK : cur.size = K * 15) (hk : k < K) : w.there b (k * 15) 15 := fun j hj => by
  have hlt : k * 15 + j < cur.size := by omega
  constructor
  · have : w.cell? ⟨b, k * 15 + j, none⟩ = cur[k * 15 + j]? := by simp [World.cell?, hr]
    rw [this, Array.getElem?_eq_getElem hlt]; rfl
  · simp [World.frozen?, hr]
theorem leaf_len (u : NodeT) (av : Value) : (nodeC u av).length = 15 := rfl
theorem OvW.store {S : Nat → Prop} {w : World} {b k K : Nat} {cur : Array Value} (hS : S b) (hr : w.heap[b]? = some (.cells cur 31 (0, 0))) (hK : cur.size = K * 15) (hk : k < K) (u : NodeT) : OvW S w (w.setCells b (k * 15) (nodeC u (.slice none 0 0))) := by
  obtain ⟨s1, s2, s3, s4⟩ := setCells_size b (nodeC u (.slice none 0 0)) (k * 15) w
  have ht := row_thereN hr hK hk
  refine ⟨s2, s3, s4, by omega, fun j _ hn => setCells_far b _ _ w j (fun e => hn (e ▸ hS)), fun n av h => Ov.written (k := k) (u := u) (av0 := .slice none 0 0) (fun _ => Ov.nil _) (fun j hj => setCells_far b _ _ w j hj) (fun cur h => setCells_rowC b _ _ w cur h) (fun k' u' av' q => ?_) h⟩
  by_cases e : k' = k
  · subst e
    exact ⟨u, Or.inr (World.rangeAt_setCells_same w b (k' * 15) _ ht)⟩
  · refine ⟨u', Or.inl (fun i v hv => World.rangeAt_setCells_apart (b' := b) (o' := k' * 15) (cs := nodeC u' av') q b (k * 15) _ ?_ i v hv)⟩
    right; rw [leaf_len, leaf_len]; omega
theorem OvW.kind {S : Nat → Prop} {w : World} {b k K : Nat} {cur : Array Value} (hS : S b) (hr : w.heap[b]? = some (.cells cur 31 (0, 0))) (hK : cur.size = K * 15) (hk : k < K) (z : Int) : OvW S w (w.setCell ⟨b, k * 15, none⟩ (.int .i64 z)) := by
  have ht := row_thereN hr hK hk
  refine ⟨rfl, rfl, rfl, by simp, fun j _ hn => Below.heap_setCell _ _ _ _ (fun e => hn (e ▸ hS)), fun n av h => Ov.written (k := k) (u := leafT 0 ⟨#[]⟩) (av0 := .slice none 0 0) (fun _ => Ov.nil _) (fun j hj => Below.heap_setCell _ _ _ _ hj) (fun cur h => ⟨_, heap_setCell_same w b (k * 15) cur _ _ h, by simp⟩) (fun k' u' av' q => ?_) h⟩
  by_cases e : k' = k
  · subst e
    obtain ⟨kk, o, x, s, bb, f, r, g, l⟩ := u'
    refine ⟨.mk z o x s bb f r g l, Or.inl (fun i v hv => ?_)⟩
    by_cases h0 : i = 0
    · subst h0
      obtain ⟨y, hy⟩ := Option.isSome_iff_exists.1 (ht 0 (by omega)).1
      have : v = .int .i64 z := by simpa [nodeC, NodeT.kind] using hv.symm
      rw [this]
      exact World.cell?_setCell_same w _ _ hy
    · rw [World.cell?_setCell_other w _ _ _ (fun e => by have := congrArg Addr.off e; simp at this; omega)]
      refine q i v ?_
      rw [← hv]
      obtain ⟨j, rfl⟩ : ∃ j, i = j + 1 := ⟨i - 1, by omega⟩
      rfl
  · refine ⟨u', Or.inl (fun i v hv => ?_)⟩
    have hi : i < 15 := (List.getElem?_eq_some_iff.1 hv).1
    rw [World.cell?_setCell_other w _ _ _ (fun e2 => by have := congrArg Addr.off e2; simp at this; omega)]
    exact q i v hv
end Go.Proofs.YtfpdleljhbkehaaGreatDoor
/- quadrillelaw17.over: a node's lists written over by their owner. -/
namespace Go.Proofs.YtfpdleljhbkehaaGreatDoor
open Go.RowKit Go.Sort

theorem wpList_append_run {P : Program} (w : World) {ops : Array Oper} {rest : List Oper} {o : Oper} {a : Act} {Q : Exit → Act → World → Prop} (hgd : o.guard = none) (s x : Operand) (t : TypeId)
    (ho : o.op = .call { callee := .builtin .append, args := #[s, x], argTypes := #[t, t] }) (vs vx : Value) (hs : a.eval s = vs) (hx : a.eval x = vx) {v' : Value} {w' : World}
    (hr : (Builtin.append_ #[t, t] o.type #[vs, vx]).run P w = .ok v' w') (h : wpList P ops Q rest (a.put o.dst v') w') : wpList P ops Q (o :: rest) a w := by
  refine wpList_plain hgd fun K' hK' => ?_
  unfold Oper.wp execOp
  simp only [ho, resolve, invoke, builtin, Sem.run_bind, Sem.run_pure, Result.andThen_ok, List.map_toArray, List.map_cons, List.map_nil, hs, hx, hr]
  exact hK' _ _ h
abbrev leafC (k : Int) (s : ByteArray) : Array Value := #[.int .i64 k, .int .i64 0, .float .f64 0, .string s, .bool false, .int .i64 0, .int .i64 0, .int .i64 0, .bool false, .bool false, .int .i64 0, .int .i64 0, .bool false, .bool false, .slice none 0 0]
theorem leafC_eq (k : Int) (s : ByteArray) : (leafC k s).toList = nodeC (leafT k s) (.slice none 0 0) := rfl
theorem at_mid (olds : List Value) (x : Value) (r : List Value) (zs : Array Value) : (olds.toArray ++ (x :: r).toArray ++ zs)[olds.length]? = some x := by
  rw [← Array.getElem?_toList]; simp
theorem at_mid0 (x : Value) (r : List Value) (zs : Array Value) : ((x :: r).toArray ++ zs)[0 * 15]? = some x := by
  rw [← Array.getElem?_toList]; simp
theorem frozen_new (w : World) (cs : Array Value) (T : TypeId) (o : Nat) : (w.alloc (.cells cs T)).frozen? ⟨w.heap.size, o, none⟩ = false := by simp
set_option maxHeartbeats 1000000 in
theorem over_push {S : Nat → Prop} {w : World} {n m cap : Nat} {a : Option Addr} (_hS : ∀ b, S b → b < w.heap.size) (h : Ov S w n (.slice a m cap)) :
    ∃ b' cap' w7, (Builtin.append_ #[29, 29] 29 #[.slice a m cap, .slice (some ⟨w.heap.size, 0, none⟩) 1 1]).run Tryz.prog (w.alloc (.cells (leafC 98 ⟨#[]⟩) 31)) = .ok (.slice (some ⟨b', 0, none⟩) (m + 1) cap') w7 ∧ m ≤ 1048576 ∧
      w7.cell? ⟨b', m * 15, none⟩ = some (.int .i64 98) ∧ w7.frozen? ⟨b', m * 15, none⟩ = false ∧ Hid (OvW S w (w7.setCell ⟨b', m * 15, none⟩ (.int .i64 97))) := by
  obtain ⟨i0, hi, hz0, hz1, hz2⟩ := info_parts infoNode
  obtain ⟨wA, hwA⟩ : ∃ wA, w.alloc (.cells (leafC 98 ⟨#[]⟩) 31) = wA := ⟨_, rfl⟩
  rw [hwA]
  have hxA : Xt w wA := by rw [← hwA]; exact (Xt.refl w).alloc _
  have hsA : wA.heap.size = w.heap.size + 1 := by rw [← hwA]; simp
  have hnews : ∀ (j : Nat) (u : Value), (nodeC (leafT 98 ⟨#[]⟩) (.slice none 0 0))[j]? = some u → wA.cell? ((⟨w.heap.size, 0, none⟩ : Addr).add j) = some u := by
    rw [← hwA]
    exact news_at w (nodeC (leafT 98 ⟨#[]⟩) (.slice none 0 0)) 31 (b := w.heap.size) rfl
  have h1 : ∀ u ∈ nodeC (leafT 98 ⟨#[]⟩) (.slice none 0 0), u.oneCell' = true := nodeC_one _ _ rfl
  have hl : (nodeC (leafT 98 ⟨#[]⟩) (.slice none 0 0)).length = 1 * i0.size := by rw [hz1]; rfl
  have hA := (OvW.of_xt hxA (S := S)).keep _ _ h
  obtain ⟨_, _, _, e0, hmc, hms, hcm⟩ := h.shape
  cases e0
  by_cases hroom : m + 1 ≤ cap
  · cases n with
    | zero => obtain ⟨a', e⟩ := h; simp only [Value.slice.injEq] at e; omega
    | succ n =>
      obtain ⟨_, _, _, e, _, _, _, h3⟩ := hA
      cases e
      obtain ⟨b, cur, K, rfl, hb, hr, hK, hcK, _⟩ := h3 (by omega)
      have ht := row_thereN hr hK (k := m) (by omega)
      have hrun := run_append_room_cells (P := Tryz.prog) (w := wA) 29 29 31 i0 Tryz.underlying29 hi b 0 m cap ⟨w.heap.size, 0, none⟩ 1 1 _ hl hnews h1 hroom (fun j hj => by rw [hz1, Nat.zero_add]; exact (ht j hj).1) (fun j hj => by rw [hz1, Nat.zero_add]; exact (ht j hj).2)
      rw [hz1, Nat.zero_add] at hrun
      obtain ⟨cur', hr', hs'⟩ := setCells_rowC b (nodeC (leafT 98 ⟨#[]⟩) (.slice none 0 0)) (m * 15) wA cur hr
      have hw := OvW.store (S := S) hb hr hK (k := m) (by omega) (leafT 98 ⟨#[]⟩)
      refine ⟨b, cap, _, hrun, hms, World.rangeAt_setCells_same wA b (m * 15) (nodeC (leafT 98 ⟨#[]⟩) (.slice none 0 0)) ht 0 _ rfl, (row_thereN hr' (hs'.trans hK) (k := m) (by omega) 0 (by omega)).2, ?_⟩
      exact ((OvW.of_xt hxA).trans hw).trans (OvW.kind hb hr' (hs'.trans hK) (by omega) 97)
  · have hmc2 : m = cap := by omega
    obtain ⟨cells, hat, hrun⟩ : ∃ cells : Array Value, cells[m * 15]? = some (.int .i64 98) ∧ (Builtin.append_ #[29, 29] 29 #[.slice a m cap, .slice (some ⟨w.heap.size, 0, none⟩) 1 1]).run Tryz.prog wA = .ok (.slice (some ⟨wA.heap.size, 0, none⟩) (m + 1) (grownCap wA (m + 1) cap 31)) (wA.drew.alloc (.cells cells 31)) := by
      have hfit : Builtin.nextslicecap (m + 1) cap * i0.bytes ≤ 281474976710656 := by rw [hz2]; exact growslice_fits (by omega) (by omega)
      cases a with
      | none =>
        have hc0 : cap = 0 := by
          cases n with
          | zero => obtain ⟨a', e⟩ := h; simp only [Value.slice.injEq] at e; omega
          | succ n =>
            obtain ⟨_, _, _, e, _, _, _, h3⟩ := hA
            cases e
            rcases Nat.eq_zero_or_pos cap with e | e
            · exact e
            · obtain ⟨b, cur, K, e2, _⟩ := h3 e; cases e2
        subst hc0
        subst hmc2
        have hrun0 := run_append_nil (P := Tryz.prog) wA 29 29 31 i0 _ Tryz.underlying29 hi hz0 ⟨w.heap.size, 0, none⟩ 1 1 _ hl hnews (by omega) (by omega) (by rw [hz2]; omega)
        refine ⟨_, ?_, hrun0⟩
        exact at_mid0 _ _ _
      | some ad =>
        obtain ⟨olds, hlo, holds⟩ : ∃ olds : List Value, olds.length = m * 15 ∧ ∀ j v, olds[j]? = some v → wA.cell? (ad.add j) = some v := by
          rcases Nat.eq_zero_or_pos cap with e | e
          · exact ⟨[], by rw [hmc2, e]; rfl, fun j v hv => by simp at hv⟩
          · cases n with
            | zero => obtain ⟨a', e2⟩ := h; simp only [Value.slice.injEq] at e2; omega
            | succ n =>
              obtain ⟨_, _, _, e2, _, _, _, h3⟩ := hA
              cases e2
              obtain ⟨b, cur, K, e3, hb, hr, hK, hcK, _⟩ := h3 e
              cases e3
              refine ⟨cur.toList.take (m * 15), by simp; omega, fun j v hv => ?_⟩
              rw [List.getElem?_take] at hv
              split at hv
              · rw [Addr.add_lit, Nat.zero_add]
                simpa [World.cell?, hr] using hv
              · cases hv
        refine ⟨_, ?_, run_append_grow (P := Tryz.prog) wA 29 29 31 i0 _ Tryz.underlying29 hi hz0 ad m cap olds (by rw [hz1]; exact hlo) holds ⟨w.heap.size, 0, none⟩ 1 1 _ hl hnews (by omega) (by omega) hfit⟩
        rw [← hlo]; exact at_mid olds _ _ _
    have hx7 : Xt w (wA.drew.alloc (.cells cells 31)) := hxA.drew.alloc _
    have hd : wA.drew.heap.size = wA.heap.size := rfl
    refine ⟨wA.heap.size, _, _, hrun, hms, ?_, ?_, ?_⟩
    · rw [← hd, World.cell?_alloc_new]; exact hat
    · exact frozen_new wA.drew cells _ _
    · refine OvW.of_xt (hx7.grownB (setCell_grown _ _ _ _) (fun q hq => by cases hq; show w.heap.size ≤ wA.heap.size; omega))
def OverIs (n : Nat) : Prop := ∀ (S : Nat → Prop) (t : NodeT) (a : Option Addr) (m cap : Nat) (w : World), (∀ b, S b → b < w.heap.size) → Ov S w n (.slice a m cap) →
  Calls Tryz.prog 15 #[nodeV t a m cap] w fun e w' => e = .returned (.tuple #[]) ∧ OvW S w w'
set_option maxRecDepth 100000 in
set_option maxHeartbeats 4000000 in
theorem over_any : ∀ n, OverIs n := by
  intro n
  induction n using Nat.strongRecOn with
  | ind n ih =>
    intro S t a m cap w hS h
    have IH := Lib.hid ih
    obtain ⟨w0, hw0, hg0, hs0, hN⟩ := boxN w t a m cap 31
    have c14 := hN.c14
    rw [Nat.zero_add] at c14
    obtain ⟨_, _, _, e0, hmc, hms, hcm⟩ := h.shape
    cases e0
    have HS := Lib.hid hS
    have HG0 := Lib.hid hg0
    have HOV : Hid (Ov S w0 n (.slice a m cap)) := (OvW.of_xt hg0.xt).keep _ _ h
    have hnB : ¬ S w.heap.size := fun e => Nat.lt_irrefl _ (hS _ e)
    clear hg0 ih hS h hN
    go_enter Tryz.func15, Tryz.ntmps15
    go_wp2_with fail
    clear hw0
    go_loopw [2] (fun s2 wr => ∃ i : Nat, i ≤ m ∧ s2 = .int .i64 i ∧ Hid (OvW S w0 wr)) (fun s2 _ => m - (intOf s2).toNat)
    case atStart => exact ⟨0, Nat.zero_le _, rfl, OvW.of_xt (Xt.refl _)⟩
    case round =>
      obtain ⟨i, hi, rfl, HW⟩ := hrel
      have hsz := HW.out.size
      have c14r := (World.cell?_of_block (w := w0) (a := ⟨w.heap.size, 14, none⟩) (HW.out.block w.heap.size (by omega) hnB)).trans c14
      by_cases hlt : i < m
      · have hii : (i : Int) < (m : Int) := by omega
        cases n with
        | zero => obtain ⟨a', e⟩ := HOV.out; simp only [Value.slice.injEq] at e; omega
        | succ n =>
          have hA := HW.out.keep _ _ HOV.out
          obtain ⟨_, _, _, e, _, _, _, h3⟩ := hA
          cases e
          obtain ⟨b, cur, K, rfl, hb, hr, hK, hcK, hel⟩ := h3 (by omega)
          obtain ⟨u, av', hcell, hsub⟩ := hel i hlt
          obtain ⟨a', m', cap', rfl, _⟩ := hsub.shape
          have hNu : NodeAt wr b (i * 15) u a' m' cap' := NodeAt.of hcell
          obtain ⟨d0, d1, d2, d3, d4, d5, d6, d7, d8, d9, d10, d11, d12, d13, d14⟩ := hNu
          have HC := Lib.hid (IH.out n (by omega) S u a' m' cap' wr (fun b hb => by have := HS.out b hb; omega) hsub)
          clear hr hK hcK hel hcell hsub h3 cur
          go_wp2_with fail
          refine (HC.out).mono ?_
          rintro e w2 ⟨rfl, hw2⟩
          have HW2 := Lib.hid (HW.out.trans hw2)
          have hsz2 := hw2.size
          have c14s := (World.cell?_of_block (w := wr) (a := ⟨w.heap.size, 14, none⟩) (hw2.block w.heap.size (by omega) hnB)).trans c14r
          clear hw2 d0 d1 d2 d3 d4 d5 d6 d7 d8 d9 d10 d11 d12 d13 d14 HC c14r
          obtain ⟨_, _, _, e, _, _, _, h4⟩ := HW2.out.keep _ _ HOV.out
          cases e
          obtain ⟨b2, cur2, K2, e2, hb2, hr2, hK2, hcK2, _⟩ := h4 (by omega)
          cases e2
          have hth := Lib.hid (row_thereN hr2 hK2 (k := i) (by omega))
          have HW3 : Hid (OvW S w0 (w2.setCells b (i * 15) (leafC 99 ⟨#[111, 118, 101, 114]⟩).toList)) := by
            rw [leafC_eq]; exact HW2.out.trans (OvW.store hb2 hr2 hK2 (by omega) _)
          clear h4 hr2 hK2 hcK2 cur2
          go_upto_region 5 with fail
          refine wp_region_lit ?_
          refine wpList_step (fun K hK => ?_)
          go_simp
          refine hK _ _ ?_
          clear hK K
          refine wpList_step (fun K hK => ?_)
          go_simp
          refine hK _ _ ?_
          clear hK K
          refine wpList_step (fun K hK => ?_)
          go_simp
          refine hK _ _ ?_
          clear hK K
          refine wpList_step (fun K hK => ?_)
          go_simp
          refine hK _ _ ?_
          clear hK K
          refine wpList_step (fun K hK => ?_)
          go_simp
          refine hK _ _ ?_
          clear hK K
          refine wpList_store_mid (P := Tryz.prog) rfl 31 _ _ rfl b (i * 15) (leafC 99 ⟨#[111, 118, 101, 114]⟩) rfl rfl hth.out (by kernel_rfl) (all_oneCell_toArray (nodeC_one (leafT 99 ⟨#[111, 118, 101, 114]⟩) (.slice none 0 0) rfl)) ?_
          go_wp2_with fail
          go_roundw
          case rel => exact ⟨i + 1, by omega, by go_num, HW3⟩
          case measure => simp [intOf]; omega
      · have he : i = m := by omega
        subst he
        obtain ⟨b', cap', w7, hpush, _, hc7, hf7, HW7⟩ := over_push (fun b hb => by have := HS.out b hb; omega) (HW.out.keep _ _ HOV.out)
        go_wp2_with (first | (refine wpList_append_run _ rfl _ _ _ rfl _ _ rfl rfl hpush ?_))
        refine bodyPost_end (results_none rfl _ _ _) rfl ?_
        exact ⟨rfl, (OvW.of_xt HG0.out.xt).trans (HW.out.trans HW7.out)⟩
end Go.Proofs.YtfpdleljhbkehaaGreatDoor
