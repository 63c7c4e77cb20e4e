import Derived.Test.YtagfgkcipomopaaL18
import Derived.Test.YtagfgkcipomopaaW32
import Derived.Deep.DeepAppendWide
namespace Go.Proofs.Ytagfgkcipomopaa
open Go.RowKit Go.Sort

/-! ### 'q = append(q, x)', of a long queue -/
section
variable {α : Type} {enc : α → List Value} {k : Nat} {T : TypeId}
theorem QOwn.pushw {w : World} {base : Nat} {v : Value} {l : List α} {S : TypeId} {i : TypeInfo} {z : Value} {bytes : Nat} (hS : Try.prog.underlying S = some (.slice T)) (hi : Try.prog.info? T = some i) (hz : i.zero = some z) (hsz : i.size = k) (hby : i.bytes = bytes) (hzk : z.cells.size = k) (hpos : 0 < k)
    (hk : ∀ x, (enc x).length = k) (hone : ∀ x, ∀ u ∈ enc x, u.oneCell' = true) (h : QOwn enc k T w base v l) (hb : base ≤ w.heap.size) (ty : TypeId) (x : α) (ad : Addr) (c : Nat) (hnews : ∀ j u, (enc x)[j]? = some u → w.cell? (ad.add j) = some u) (hlen : l.length + 1 ≤ 8800000000000) (hb47 : bytes ≤ 16) :
    ∃ v' w', (Builtin.append_ #[S, S] ty #[v, .slice (some ad) 1 c]).run Try.prog w = .ok v' w' ∧ QOwn enc k T w' base v' (l ++ [x]) ∧ w.grownBy w' v.ownBlock ∧ (v'.ownBlock = v.ownBlock ∨ ∀ g, v'.ownBlock = some g → w.heap.size ≤ g) := by
  have hbt : ((l.length + 1) + (l.length + 1) / 4 + 192) * bytes ≤ 281474976710656 := by
    have := Nat.mul_le_mul (show (l.length + 1) + (l.length + 1) / 4 + 192 ≤ 11000000000192 by omega) hb47; omega
  have own_q : ∀ {w' : World} {b : Nat} {v' : Value} {n : Nat} {xs : List Value}, w'.ownsRow b T k v' n xs → n = (l ++ [x]).length → xs = (l ++ [x]).flatMap enc → base ≤ b → QOwn enc k T w' base v' (l ++ [x]) := by
    intro w' b v' n xs ho hn hxs hbb
    rcases ho.2 with ⟨_, h0⟩ | ⟨g, cap, cur, hv, hbg, hg, hnc, hcm, hcs, ht⟩
    · rw [hn] at h0; simp at h0
    · refine Or.inr ⟨g, 0, cap, cur, by rw [hv, hn, Nat.zero_mul], by omega, hg, by omega, by rw [Nat.zero_add, hcs]; exact Nat.le_refl _, by unfold maxLen at hcm; omega, fun j y hy t u hu => ?_⟩
      have htk : t < k := by rw [← hk y]; exact (List.getElem?_eq_some_iff.1 hu).1
      have hf := flat_get hk (l ++ [x]) j t y hy htk
      rw [hu, ← hxs, ← ht, List.getElem?_take] at hf
      rw [Nat.zero_add]
      split at hf
      · simpa using hf
      · cases hf
  rcases h with ⟨rfl, rfl⟩ | ⟨g, o, cap, cur, rfl, hbg, hg, hlc, hfit, hcap, hc⟩
  · obtain ⟨v2, w2, hr2, k2, k3, k4⟩ := run_append_own (P := Try.prog) w w.heap.size S ty T i z k bytes hS hi hz hsz hby hzk hpos (.slice none 0 0) 0 [] (World.ownsRow_nil _ _ _ _) ad 1 c (enc x) (by rw [hk, Nat.one_mul]) hnews (hone x) (by unfold maxLen; omega) (by omega) (Nat.le_refl _)
    exact ⟨v2, w2, hr2, own_q k2 (by simp) (by simp) hb, k3, Or.inr fun q hq => (World.ownsRow.lt k2 q hq).1⟩
  · by_cases hroom : l.length + 1 ≤ cap
    · have hle : (o + l.length) * k + k ≤ cur.size := by
        have := Nat.mul_le_mul_right k (show o + l.length + 1 ≤ o + cap by omega)
        rw [Nat.add_mul _ 1, Nat.one_mul] at this; omega
      have hf := run_firstCells_some (P := Try.prog) w k 1 ad 1 c (enc x) (by rw [hk, Nat.one_mul]) hnews
      have hst := run_storeCells_at Try.prog g ((o + l.length) * k) T (enc x) 0 cur w hg (by rw [hk]; simpa using hle) (hone x)
      simp only [Nat.add_zero] at hst
      refine ⟨.slice (some ⟨g, o * k, none⟩) (l.length + 1) cap, w.setRow g (cur.toList.take ((o + l.length) * k) ++ enc x ++ cur.toList.drop ((o + l.length) * k + (enc x).length)).toArray, ?_, ?_, setRow_grown, Or.inl rfl⟩
      · simp [Builtin.append_, run_underlying hS, sizeOf, typeInfo, hi, hsz, Builtin.lenOf, hroom, hf, Addr.add_lit, ← Nat.add_mul, hst]
      · obtain ⟨cur', q1, q2⟩ := setCells_in g hg ((o + l.length) * k) (enc x)
        obtain ⟨q2, q3, q4⟩ := q2 (by rw [hk]; exact hle)
        refine Or.inr ⟨g, o, cap, cur', by simp, hbg, q1, by simpa using hroom, by rw [q2]; exact hfit, hcap, fun j y hy t u hu => ?_⟩
        have htk : t < k := by rw [← hk y]; exact (List.getElem?_eq_some_iff.1 hu).1
        rcases Nat.lt_or_ge j l.length with hj | hj
        · rw [List.getElem?_append_left hj] at hy
          rw [q3]
          · exact hc j y hy t u hu
          · have := Nat.mul_le_mul_right k (show o + j + 1 ≤ o + l.length by omega)
            rw [Nat.add_mul _ 1, Nat.one_mul] at this; omega
        · have hjl : j = l.length := by have := (List.getElem?_eq_some_iff.1 hy).1; simp at this; omega
          subst hjl
          rw [List.getElem?_append_right (Nat.le_refl _), Nat.sub_self] at hy
          simp at hy; subst hy
          rw [q4 t (by rw [hk]; exact htk)]; exact hu
    · have holds : ∀ j u, (l.flatMap enc)[j]? = some u → w.cell? ((⟨g, o * k, none⟩ : Addr).add j) = some u := by
        refine sl_news hk fun _ => ⟨g, o * k, rfl, fun j y hy t u hu => ?_⟩
        rw [cell_of_row w g _ cur T (0, 0) hg, ← Nat.add_mul]
        exact hc j y hy t u hu
      have hcl : cap = l.length := by omega
      subst hsz hby
      have hr2 := run_append_grow (P := Try.prog) w S ty T i z hS hi hz ⟨g, o * i.size, none⟩ l.length cap (l.flatMap enc) (by rw [flat_len hk]) holds ad 1 c (enc x) (by rw [hk, Nat.one_mul]) hnews (by omega) (by omega) (growslice_fits_wide (by omega) hbt)
      refine ⟨_, _, hr2, ?_, ⟨rfl, rfl, rfl, by simp, fun b hb' _ => heap_alloc_old w.drew _ hb'⟩, Or.inr fun q hq => by cases hq; exact Nat.le_refl _⟩
      have hge := grownCap_ge w (l.length + 1) cap T
      have hcm := grownCap_le_maxLen w (l.length + 1) cap T (by unfold maxLen; omega)
      have hfl := flat_len hk l
      refine Or.inr ⟨w.heap.size, 0, grownCap w (l.length + 1) cap T, _, by simp, hb, heap_alloc_new w.drew _, by simpa using hge, ?_, by unfold maxLen at hcm; omega, fun j y hy t u hu => ?_⟩
      · simp only [Array.size_append, List.size_toArray, size_zeroCells, hzk, hfl, hk, Nat.zero_add]
        have : grownCap w (l.length + 1) cap T * i.size = l.length * i.size + i.size + (grownCap w (l.length + 1) cap T - (l.length + 1)) * i.size := by
          rw [Nat.sub_mul, Nat.add_mul, Nat.one_mul]
          have := Nat.mul_le_mul_right i.size hge
          rw [Nat.add_mul, Nat.one_mul] at this
          omega
        omega
      · have htk : t < i.size := by rw [← hk y]; exact (List.getElem?_eq_some_iff.1 hu).1
        have hf := flat_get hk (l ++ [x]) j t y hy htk
        rw [hu, List.flatMap_append] at hf
        simp only [List.flatMap_cons, List.flatMap_nil, List.append_nil] at hf
        have hjl : j * i.size + t < (l.flatMap enc ++ enc x).length := (List.getElem?_eq_some_iff.1 hf).1
        rw [Nat.zero_add, Array.getElem?_append_left (by simpa using hjl)]
        simpa using hf
theorem QOwn.of_own {w : World} {base : Nat} {v : Value} {l : List α} (hk : ∀ x, (enc x).length = k) (h : OwnL w base T k enc v l) : QOwn enc k T w base v l := by
  rcases h.2 with ⟨h1, h0⟩ | ⟨g, cap, cur, hv, hbg, hg, hnc, hcm, hcs, ht⟩
  · exact Or.inl ⟨h1, List.length_eq_zero_iff.1 h0⟩
  · refine Or.inr ⟨g, 0, cap, cur, by rw [hv, Nat.zero_mul], hbg, hg, hnc, by rw [Nat.zero_add, hcs]; exact Nat.le_refl _, by unfold maxLen at hcm; omega, fun j y hy t u hu => ?_⟩
    have htk : t < k := by rw [← hk y]; exact (List.getElem?_eq_some_iff.1 hu).1
    have hf := flat_get hk l j t y hy htk
    rw [hu, ← ht, List.getElem?_take] at hf
    rw [Nat.zero_add]
    split at hf
    · simpa using hf
    · cases hf
end
/-! ### all that hang on some: the document's way -/
/-- Whose users are not all met yet waits in the queue. -/
structure TodoIs (M : Mp) (at_ : List Ad) (met : Ad → Bool) (Q : List Ad) : Prop where
  snd : ∀ a, met a = true → Hangs M at_ a
  src : ∀ b ∈ Q, b ∈ at_ ∨ Hangs M at_ b
  cls : ∀ b, (b ∈ at_ ∨ met b = true) → b ∈ Q ∨ ∀ a, onM M a b = true → met a = true
def metU (met : Ad → Bool) (k : Ad) : Ad → Bool := fun a => met a || decide (a = k)
theorem TodoIs.start (M : Mp) (at_ : List Ad) : TodoIs M at_ (fun _ => false) at_ :=
  ⟨fun _ h => (by cases h), fun _ h => Or.inl h, fun b h => by rcases h with h | h; · exact Or.inl h
                                                               · cases h⟩
theorem TodoIs.end {M : Mp} {at_ : List Ad} {met : Ad → Bool} (h : TodoIs M at_ met []) : (M.map (·.1)).filter met = aboveM M at_ :=
  above_of h.snd (fun b hb => by rcases h.cls b (Or.inl hb) with h | h; · cases h
                                 · exact h) (fun x a hx => by rcases h.cls x (Or.inr hx) with h | h; · cases h
                                                              · exact h a)
/-- While the users of c are met. -/
structure TodoIn (M : Mp) (at_ : List Ad) (c : Ad) (met : Ad → Bool) (Q P : List Ad) : Prop where
  snd : ∀ a, met a = true → Hangs M at_ a
  src : ∀ b ∈ Q, b ∈ at_ ∨ Hangs M at_ b
  csrc : c ∈ at_ ∨ Hangs M at_ c
  cls : ∀ b, (b ∈ at_ ∨ met b = true) → b ∈ Q ∨ b = c ∨ ∀ a, onM M a b = true → met a = true
  cl : ∀ a ∈ P, onM M a c = true → met a = true
theorem TodoIs.enter {M : Mp} {at_ : List Ad} {c : Ad} {met : Ad → Bool} {Q : List Ad} (h : TodoIs M at_ met (c :: Q)) : TodoIn M at_ c met Q [] :=
  ⟨h.snd, fun b hb => h.src b (by simp [hb]), h.src c (by simp), fun b hb => by
    rcases h.cls b hb with h | h
    · rcases List.mem_cons.1 h with h | h
      · exact Or.inr (Or.inl h)
      · exact Or.inl h
    · exact Or.inr (Or.inr h), fun _ h => by cases h⟩
theorem TodoIn.leave {M : Mp} {at_ : List Ad} {c : Ad} {met : Ad → Bool} {Q : List Ad} (h : TodoIn M at_ c met Q (M.map (·.1))) : TodoIs M at_ met Q :=
  ⟨h.snd, h.src, fun b hb => by
    rcases h.cls b hb with h1 | rfl | h1
    · exact Or.inl h1
    · exact Or.inr fun a ha => h.cl a (onM_key ha) ha
    · exact Or.inr h1⟩
theorem TodoIn.skip {M : Mp} {at_ : List Ad} {c k : Ad} {met : Ad → Bool} {Q P : List Ad} (h : TodoIn M at_ c met Q P) (hk : met k = true ∨ onM M k c = false) : TodoIn M at_ c met Q (P ++ [k]) :=
  ⟨h.snd, h.src, h.csrc, h.cls, fun a ha hon => by
    rcases List.mem_append.1 ha with ha | ha
    · exact h.cl a ha hon
    · simp at ha; subst ha
      rcases hk with hk | hk
      · exact hk
      · exact absurd (hon.symm.trans hk) (by simp)⟩
theorem TodoIn.meet {M : Mp} {at_ : List Ad} {c k : Ad} {met : Ad → Bool} {Q P : List Ad} (h : TodoIn M at_ c met Q P) (hon : onM M k c = true) : TodoIn M at_ c (metU met k) (Q ++ [k]) (P ++ [k]) := by
  have hk : Hangs M at_ k := by
    rcases h.csrc with h1 | h1
    · exact hangs_one h1 hon
    · exact hangs_step h1 hon
  have gr : ∀ a, met a = true → metU met k a = true := fun a ha => by simp [metU, ha]
  refine ⟨fun a ha => ?_, fun b hb => ?_, h.csrc, fun b hb => ?_, fun a ha hon' => ?_⟩
  · unfold metU at ha
    rw [Bool.or_eq_true, decide_eq_true_eq] at ha
    rcases ha with ha | rfl
    · exact h.snd a ha
    · exact hk
  · rcases List.mem_append.1 hb with hb | hb
    · exact h.src b hb
    · simp at hb; subst hb; exact Or.inr hk
  · by_cases hbk : b = k
    · exact Or.inl (by simp [hbk])
    · have hb' : b ∈ at_ ∨ met b = true := by
        rcases hb with hb | hb
        · exact Or.inl hb
        · unfold metU at hb
          rw [Bool.or_eq_true, decide_eq_true_eq] at hb
          rcases hb with hb | hb
          · exact Or.inr hb
          · exact absurd hb hbk
      rcases h.cls b hb' with h1 | h1 | h1
      · exact Or.inl (by simp [h1])
      · exact Or.inr (Or.inl h1)
      · exact Or.inr (Or.inr fun a ha => gr a (h1 a ha))
  · rcases List.mem_append.1 ha with ha | ha
    · exact gr a (h.cl a ha hon')
    · simp at ha; subst ha; simp [metU]
theorem zeros_met {all : List Ad} {met : Ad → Bool} {k : Ad} (hn : all.Nodup) (hk : k ∈ all) (h0 : met k = false) : zeros all (b2n (metU met k)) + 1 = zeros all (b2n met) := by
  have e : b2n (metU met k) = updF (b2n met) k 1 := by
    funext a
    unfold updF b2n metU
    by_cases ha : a = k
    · subst ha; simp
    · simp [ha]
  rw [e]
  exact zeros_upd hn hk (by simp [b2n, h0]) (by omega)
/-! ### a row of truths -/
def BoolRow (w : World) (g n : Nat) (f : Nat → Bool) : Prop := ∃ cur : Array Value, w.heap[g]? = some (.cells cur 4 (0, 0)) ∧ cur.size = n ∧ ∀ j, j < n → cur[j]? = some (.bool (f j))
theorem BoolRow.cell {w : World} {g n : Nat} {f : Nat → Bool} (h : BoolRow w g n f) {j : Nat} (hj : j < n) : w.cell? ⟨g, j, none⟩ = some (.bool (f j)) := by
  obtain ⟨cur, hg, hs, hc⟩ := h
  rw [cell_of_row w g _ cur 4 (0, 0) hg]; exact hc j hj
theorem BoolRow.froz {w : World} {g n : Nat} {f : Nat → Bool} (h : BoolRow w g n f) (j : Nat) : w.frozen? ⟨g, j, none⟩ = false := by
  obtain ⟨cur, hg, _⟩ := h
  simp [World.frozen?, hg]
theorem BoolRow.of_heap {w w' : World} {g n : Nat} {f : Nat → Bool} (h : BoolRow w g n f) (hb : w'.heap[g]? = w.heap[g]?) : BoolRow w' g n f := by
  obtain ⟨cur, hg, r⟩ := h; exact ⟨cur, hb.trans hg, r⟩
theorem BoolRow.lt {w : World} {g n : Nat} {f : Nat → Bool} (h : BoolRow w g n f) : g < w.heap.size := by
  obtain ⟨cur, hg, _⟩ := h; exact (Array.getElem?_eq_some_iff.1 hg).1
theorem BoolRow.set {w : World} {g n : Nat} {f : Nat → Bool} (h : BoolRow w g n f) {k : Nat} (hk : k < n) (d : Bool) : BoolRow (w.setCell ⟨g, k, none⟩ (.bool d)) g n (fun j => if j = k then d else f j) := by
  obtain ⟨cur, hg, hs, hc⟩ := h
  obtain ⟨cur', q1, q2, q3⟩ := setCells_row g 4 [.bool d] k w cur hg
  refine ⟨cur', q1, q2.trans hs, fun j hj => ?_⟩
  rw [q3 j]
  by_cases hjk : j = k
  · subst hjk; rw [if_pos ⟨Nat.le_refl _, by simp, by omega⟩, Nat.sub_self]; simp
  · rw [if_neg (by simp; omega)]; simp only [hjk, if_false]; exact hc j hj
theorem BoolRow.congr {w : World} {g n : Nat} {f f' : Nat → Bool} (h : BoolRow w g n f) (he : ∀ j, j < n → f' j = f j) : BoolRow w g n f' := by
  obtain ⟨cur, hg, hs, hc⟩ := h
  exact ⟨cur, hg, hs, fun j hj => by rw [he j hj]; exact hc j hj⟩
theorem BoolRow.made (w : World) (n : Nat) : BoolRow (w.alloc (.cells (madeCells #[.bool false] n) 4)) w.heap.size n (fun _ => false) := by
  refine ⟨_, (MapKept.heap_alloc w _).1, by simp [madeCells], fun j hj => by simp [madeCells, hj, Nat.mod_one]⟩
end Go.Proofs.Ytagfgkcipomopaa
