import Derived.Test.YtdoeejhdenifpaaGreatDoorB1
import Derived.Lib.SlicesCompact
import Derived.Lib.SliceRun
import Derived.Laws.IdiomCopy
import Derived.Deep.DeepAppendWide
import Derived.Deep.RegionHeld
import Derived.Laws.Bits64b
import Derived.Laws.Rows
import Derived.Laws.ResultCell
import Derived.Lib.ValidLaws
set_option maxRecDepth 100000
set_option maxHeartbeats 16000000
namespace Go.Proofs.YtdoeejhdenifpaaGreatDoor
section
open Go.RowKit Go.Sort Go.MapKept
theorem jy6 (g : Nat) (T : TypeId) : ∀ (vs : List Value) (o : Nat) (w : World) (cur : Array Value), w.heap[g]? = some (.cells cur T (0, 0)) ->
    ∃ cur', (w.setCells g o vs).heap[g]? = some (.cells cur' T (0, 0)) /\ cur'.size = cur.size /\ ∀ t, cur'[t]? = if o <= t /\ t < o + vs.length /\ t < cur.size then vs[t - o]? else cur[t]?
 | [], o, w, cur, h => ⟨cur, h, rfl, fun t => by rw [if_neg (by simp; omega)]⟩
 | v :: r, o, w, cur, h => by
  have h1 : (w.setCell ⟨g, o, none⟩ v).heap[g]? = some (.cells (cur.setIfInBounds o v) T (0, 0)) := by
   simp [World.setCell, Array.getElem?_modify, h]
  obtain ⟨cur', q1, q2, q3⟩ := jy6 g T r (o + 1) _ _ h1;refine ⟨cur', q1, by rw [q2]; simp, fun t => ?_⟩;rw [q3 t];simp only [List.length_cons, Array.size_setIfInBounds];by_cases ht : t = o
  . subst ht;rw [if_neg (by omega)];by_cases hc : t < cur.size
    . rw [if_pos (by omega), Nat.sub_self]; simp [hc]
    . rw [if_neg (by omega)]; simp [hc]
  . by_cases hb : o + 1 <= t /\ t < o + 1 + r.length /\ t < cur.size
    . rw [if_pos hb, if_pos (by omega)];obtain ⟨s, rfl⟩ : ∃ s, t = o + 1 + s := ⟨t - (o + 1), by omega⟩;rw [show o + 1 + s - (o + 1) = s by omega, show o + 1 + s - o = s + 1 by omega];simp
    . rw [if_neg hb, if_neg (by omega), Array.getElem?_setIfInBounds_ne (by omega)]
theorem jRE (g : Nat) : ∀ (vs : List Value) (o : Nat) (w : World), w.grownBy (w.setCells g o vs) (some g)
 | [], _, w => ⟨rfl, rfl, rfl, Nat.le_refl _, fun _ _ _ => rfl⟩
 | v :: r, o, w => by
  have h1 : w.grownBy (w.setCell ⟨g, o, none⟩ v) (some g) := ⟨rfl, rfl, rfl, by simp, fun k _ hk => s_ _ _ _ _ (fun e => hk (by rw [e]))⟩;have h2 := jRE g r (o + 1) (w.setCell ⟨g, o, none⟩ v);exact ⟨h2.os.trans h1.os, h2.tape.trans h1.tape, h2.output.trans h1.output, Nat.le_trans h1.size h2.size, fun k hk hne => (h2.block k (by simpa using hk) hne).trans (h1.block k hk hne)⟩
section
variable {α : Type} {enc : α -> List Value} {k : Nat}
def RowL (w : World) (g : Nat) (T : TypeId) (cap k : Nat) (enc : α -> List Value) (d : List α) : Prop :=
 ∃ cur : Array Value, r_ w g cur T /\ cur.size = cap * k /\ d.length <= cap /\ ∀ j x, d[j]? = some x -> ∀ i u, (enc x)[i]? = some u -> cur[j * k + i]? = some u
theorem RowL.own {w : World} {g : Nat} {T : TypeId} {cap : Nat} {d : List α} (h : RowL w g T cap k enc d) (hk : ∀ x, (enc x).length = k) (hc : cap <= maxLen) {base : Nat} (hb : base <= g) (m : Nat) (hm : m <= d.length) :
    OwnL w base T k enc (.slice (some ⟨g, 0, none⟩) m cap) (d.take m) := by
 obtain ⟨cur, hg, hs, hd, hc2⟩ := h;have hml : (d.take m).length = m := (by rw [List.length_take]; omega);refine ⟨by rw [yzv hk], Or.inr ⟨g, cap, cur, by rw [hml], hb, hg, by omega, hc, hs, ?_⟩⟩;rw [hml];apply List.ext_getElem?;intro t;rw [List.getElem?_take];by_cases ht : t < m * k
 . have k0 : 0 < k := by rcases Nat.eq_zero_or_pos k with h | h; · subst h; simp at ht
                         . exact h
   have hj : t / k < m := (by rw [Nat.div_lt_iff_lt_mul k0]; exact ht);have hi : t % k < k := Nat.mod_lt _ k0;obtain ⟨x, hx⟩ : ∃ x, d[t / k]? = some x := ⟨d[t / k]'(by omega), by simp⟩;have hf := zLf hk (d.take m) (t / k) (t % k) x (by rw [List.getElem?_take, if_pos hj]; exact hx) hi;rw [Nat.div_add_mod' t k] at hf;have hl2 : t % k < (enc x).length := (by rw [hk]; exact hi);have := hc2 (t / k) x hx (t % k) _ (j_ hl2);rw [Nat.div_add_mod' t k] at this;rw [if_pos ht, hf, j_ hl2];simpa using this
 . rw [if_neg ht, List.getElem?_eq_none (by rw [yzv hk, hml]; omega)]
theorem RowL.cell {w : World} {g : Nat} {T : TypeId} {cap : Nat} {d : List α} (h : RowL w g T cap k enc d) {j : Nat} {x : α} (hx : d[j]? = some x) : ∀ i u, (enc x)[i]? = some u -> w.cell? ⟨g, j * k + i, none⟩ = some u := by
 obtain ⟨cur, hg, hs, hd, hc⟩ := h;intro i u hu;rw [cell_of_row w g _ cur T (0, 0) hg];exact hc j x hx i u hu
theorem RowL.has {w : World} {g : Nat} {T : TypeId} {cap : Nat} {d : List α} (h : RowL w g T cap k enc d) {o : Nat} (ho : o < cap * k) : (w.cell? ⟨g, o, none⟩).isSome = true := by
 obtain ⟨cur, hg, hs, _⟩ := h;rw [cell_of_row w g _ cur T (0, 0) hg, Array.getElem?_eq_getElem (by rw [hs]; exact ho)]; rfl
theorem RowL.froz {w : World} {g : Nat} {T : TypeId} {cap : Nat} {d : List α} (h : RowL w g T cap k enc d) (o : Nat) : w.frozen? ⟨g, o, none⟩ = false := by
 obtain ⟨cur, hg, _⟩ := h;simp [World.frozen?, hg]
theorem RowL.of_heap {w w' : World} {g : Nat} {T : TypeId} {cap : Nat} {d : List α} (h : RowL w g T cap k enc d) (hb : w'.heap[g]? = w.heap[g]?) : RowL w' g T cap k enc d := by
 obtain ⟨cur, hg, r⟩ := h;exact ⟨cur, hb.trans hg, r⟩
theorem RowL.set {w : World} {g : Nat} {T : TypeId} {cap : Nat} {d : List α} (h : RowL w g T cap k enc d) (hk : ∀ x, (enc x).length = k) {j : Nat} (hj : j < d.length) (y : α) : RowL (w.setCells g (j * k) (enc y)) g T cap k enc (d.set j y) := by
 obtain ⟨cur, hg, hs, hd, hc⟩ := h;obtain ⟨cur', q1, q2, q3⟩ := jy6 g T (enc y) (j * k) w cur hg;refine ⟨cur', q1, q2.trans hs, by simpa using hd, fun i x hx t u hu => ?_⟩;have ht : t < k := (by rw [<- hk x]; exact (List.getElem?_eq_some_iff.1 hu).1);have hjk : j * k + k <= cap * k := (by have := Nat.mul_le_mul_right k (show j + 1 <= cap by omega); rwa [Nat.add_mul, Nat.one_mul] at this);rw [q3, hk y];rw [List.getElem?_set] at hx;by_cases hij : j = i
 . subst hij;rw [if_pos rfl, if_pos hj] at hx;cases hx;rw [if_pos (by omega), show j * k + t - j * k = t by omega];exact hu
 . rw [if_neg hij] at hx;rw [if_neg]
   . exact hc i x hx t u hu
   . rintro ⟨h1, h2, _⟩;rcases Nat.lt_or_ge i j with h3 | h3
     . have := Nat.mul_le_mul_right k (show i + 1 <= j from h3); rw [Nat.add_mul, Nat.one_mul] at this; omega
     . have := Nat.mul_le_mul_right k (show j + 1 <= i by omega); rw [Nat.add_mul, Nat.one_mul] at this; omega
theorem RowL.tail {w : World} {g : Nat} {T : TypeId} {cap : Nat} {d : List α} (h : RowL w g T cap k enc d) (hk : ∀ x, (enc x).length = k) (m : Nat) (vs : List Value) : RowL (w.setCells g (m * k) vs) g T cap k enc (d.take m) := by
 obtain ⟨cur, hg, hs, hd, hc⟩ := h;obtain ⟨cur', q1, q2, q3⟩ := jy6 g T vs (m * k) w cur hg;refine ⟨cur', q1, q2.trans hs, by rw [List.length_take]; omega, fun i x hx t u hu => ?_⟩;have ht : t < k := (by rw [<- hk x]; exact (List.getElem?_eq_some_iff.1 hu).1);rw [List.getElem?_take] at hx;split at hx
 . rename_i him;have := Nat.mul_le_mul_right k (show i + 1 <= m from him); rw [Nat.add_mul, Nat.one_mul] at this;rw [q3, if_neg (by omega)];exact hc i x hx t u hu
 . cases hx
end
section
variable {P : Program} (w : World) {ops : Array Oper} {rest : List Oper} {o : Oper} {a : Act} {Q : Exit -> Act -> World -> Prop}
end
end
section
open Go.RowKit Go.Sort
section
variable {P : Program}
theorem jrS (w : World) (t ty e : TypeId) (i : TypeInfo) (z : Value) (size bytes : Nat) (ht : P.underlying t = some (.slice e)) (hi : P.info? e = some i) (hz : i.zero = some z)
    (hsize : i.size = size) (hby : i.bytes = bytes) (hzs : z.cells.size = size) (hsz : 0 < size)
    (v : Value) (n : Nat) (xs : List Value) (hown : w.ownsRow 0 e size v n xs)
    (a : Addr) (m c : Nat) (news : List Value) (hl : news.length = m * size) (hnews : ∀ j u, news[j]? = some u -> w.cell? (a.add j) = some u) (h1 : ∀ u ∈ news, u.oneCell' = true)
    (h63 : n + m <= maxLen) (hbytes : (n + m) * bytes <= 140737488355328) :
    ∃ v' w', (Builtin.append_ #[t, t] ty #[v, .slice (some a) m c]).run P w = .ok v' w' /\ w'.ownsRow 0 e size v' (n + m) (xs ++ news) /\ w.grownBy w' v.ownBlock /\
     (v'.ownBlock = v.ownBlock \/ ∀ g, v'.ownBlock = some g -> w.heap.size <= g) := by
 obtain ⟨v', w', hr, h2, h3, h4⟩ := run_append_own (P := P) w 0 t ty e i z size bytes ht hi hz hsize hby hzs hsz v n xs hown a m c news hl hnews h1 h63 hbytes (Nat.zero_le _);refine ⟨v', w', hr, h2, h3, ?_⟩;rcases hown.2 with ⟨rfl, rfl⟩ | ⟨g, cap, cur, rfl, hbg, hg, hnc, hcm, hcs, htake⟩
 . have hx : xs = [] := List.eq_nil_of_length_eq_zero (by simpa using hown.1);subst hx;obtain ⟨v2, w2, hr2, k2, k3, k4⟩ := run_append_own (P := P) w w.heap.size t ty e i z size bytes ht hi hz hsize hby hzs hsz (.slice none 0 0) 0 [] (World.ownsRow_nil _ _ _ _) a m c news hl hnews h1 h63 hbytes (Nat.le_refl _);rw [hr] at hr2;cases hr2;exact Or.inr fun g hg => (World.ownsRow.lt k2 g hg).1
 . subst hsize hby
   have hsmall : n + m <= 9223372036854775807 := (by simp only [maxLen] at h63; omega);by_cases hroom : n + m <= cap
   . have hfit : n * i.size + news.length <= cur.size := (by rw [hl, hcs, <- Nat.add_mul]; exact Nat.mul_le_mul_right _ hroom);have hr2 := run_append_room (P := P) w t ty e i ht hi g n cap cur hg a m c news hl hnews h1 hroom hfit;rw [hr] at hr2;cases hr2;exact Or.inl rfl
   . have holds : ∀ j u, xs[j]? = some u -> w.cell? ((⟨g, 0, none⟩ : Addr).add j) = some u := hown.cells (g := g) rfl;have hr2 := run_append_grow (P := P) w t ty e i z ht hi hz ⟨g, 0, none⟩ n cap xs hown.1 holds a m c news hl hnews (by omega) (by omega) (growslice_fits (by omega) hbytes);rw [hr] at hr2;cases hr2;exact Or.inr fun q hq => by cases hq; exact Nat.le_refl _
end
abbrev zWe (t : NodeT) (a : Option Addr) (n cap : Nat) : Value := .agg (rM t.kind t.op (oneX t.x) t.s t.b t.f t.ref.a.1 t.ref.a.2 t.ref.cf t.ref.rf t.to.a.1 t.to.a.2 t.to.cf t.to.rf (.slice a n cap))
structure CopyRows (wr : World) (S : Nat) (n : Nat) (ob : Option Nat) (l : List NodeT) (R : List (NodeT × Value)) : Prop where
 fst : R.map Prod.fst = jEz l
 args : ∀ (k : Nat) (r : NodeT × Value), R[k]? = some r -> ∃ n', n = n' + 1 /\ ArgsS (fun b => S <= b /\ ob ≠ some b) wr n' r.2 r.1.args
structure CopySt (w : World) (n : Nat) (t2 : NodeT) (l : List NodeT) (wr : World) (i : Nat) (va : Option Addr) (vn vc : Nat) : Prop where
 box : NodeAt wr w.heap.size 0 t2 va vn vc
 f14 : wr.frozen? ⟨w.heap.size, 14, none⟩ = false
 res : ∃ cs, r_ wr (w.heap.size + 1) cs 49 /\ cs.size = 15
 ob : ∀ g, (Value.slice va vn vc).ownBlock = some g -> w.heap.size + 2 <= g
 rows : ∃ R, wr.ownsRow 0 49 15 (.slice va vn vc) i (R.flatMap rowC) /\ CopyRows wr (w.heap.size + 2) n (Value.slice va vn vc).ownBlock (l.take i) R
 xt : Xt w wr
theorem jGd : (Tryz.prog.info? 49).map (fun i => (i.zero, i.size, i.bytes)) = some (some (.agg zN), 15, 128) := by kernel_rfl
theorem Xt.grownB {a b c : World} {r : Option Nat} (h : Xt a b) (k : b.grownBy c r) (hm : ∀ m, r = some m -> a.heap.size <= m) : Xt a c := Below.grown h k h.size hm
theorem yiv (w : World) (g o : Nat) (v : Value) : w.grownBy (w.setCell ⟨g, o, none⟩ v) (some g) := ⟨rfl, rfl, rfl, by simp, fun k _ hk => s_ _ _ _ _ (fun e => hk (by rw [e]))⟩
theorem jrw (t : NodeT) (v : Value) (hv : v.oneCell' = true) : ∀ u ∈ nodeC t v, u.oneCell' = true := by
 intro u hu;simp only [nodeC, List.mem_cons, List.not_mem_nil, or_false] at hu;rcases hu with h | h | h | h | h | h | h | h | h | h | h | h | h | h | h <;> subst h <;> first | rfl | exact hv
theorem zDo {w : World} {e : TypeId} {size : Nat} {v : Value} {n : Nat} {xs : List Value} (h : w.ownsRow 0 e size v n xs) : ∃ a c, v = .slice a n c /\ n <= c /\ c <= 9223372036854775807 := by
 rcases h.2 with ⟨rfl, rfl⟩ | ⟨g, cap, cur, rfl, _, _, h1, h2, _⟩
 . exact ⟨_, _, rfl, Nat.le_refl _, by omega⟩
 . exact ⟨_, _, rfl, h1, by simp only [maxLen] at h2; omega⟩
theorem NodeAt.keep {w w' : World} {b o : Nat} {t : NodeT} {a : Option Addr} {n cap : Nat} (h : NodeAt w b o t a n cap) (e : ∀ o, w'.cell? ⟨b, o, none⟩ = w.cell? ⟨b, o, none⟩) : NodeAt w' b o t a n cap :=
 ⟨(e _).trans h.c0, (e _).trans h.c1, (e _).trans h.c2, (e _).trans h.c3, (e _).trans h.c4, (e _).trans h.c5, (e _).trans h.c6, (e _).trans h.c7, (e _).trans h.c8, (e _).trans h.c9, (e _).trans h.c10, (e _).trans h.c11, (e _).trans h.c12, (e _).trans h.c13, (e _).trans h.c14⟩
theorem zlv {w w0 : World} {t : NodeT} {a : Option Addr} {m cap : Nat} (n ox : Nat) (l : List NodeT) (hc : NodeAt w0 w.heap.size 0 t a m cap) (hs : w0.heap.size = w.heap.size + 1) (hf : w0.frozen? ⟨w.heap.size, 14, none⟩ = false) (hg : Gr w w0) :
    CopySt w n (.mk t.kind t.op ox t.s t.b t.f t.ref t.to t.args) l (((w0.setCell ⟨w.heap.size, 2, none⟩ (.float .f64 ox)).setCell ⟨w.heap.size, 14, none⟩ (.slice none 0 0)).alloc (.cells zN 49)) 0 none 0 0 := by
 obtain ⟨w1, hw1⟩ := e_ (w0.setCell ⟨w.heap.size, 2, none⟩ (.float .f64 ox));rw [hw1];obtain ⟨w2, hw2⟩ := e_ (w1.setCell ⟨w.heap.size, 14, none⟩ (.slice none 0 0));rw [hw2];have s1 : w1.heap.size = w.heap.size + 1 := (by rw [<- hw1]; simpa using hs);have s2 : w2.heap.size = w.heap.size + 1 := (by rw [<- hw2]; simpa using s1);have k1 : ∀ o v, o ≠ 2 -> w0.cell? ⟨w.heap.size, o, none⟩ = some v -> w1.cell? ⟨w.heap.size, o, none⟩ = some v := fun o v ho h => by
  rw [<- hw1]; exact (o_ w0 _ _ _ (by intro e; cases e; exact ho rfl)).trans h
 have k2 : ∀ o v, o ≠ 14 -> w1.cell? ⟨w.heap.size, o, none⟩ = some v -> w2.cell? ⟨w.heap.size, o, none⟩ = some v := fun o v ho h => by
  rw [<- hw2]; exact (o_ w1 _ _ _ (by intro e; cases e; exact ho rfl)).trans h
 have k3 : ∀ o v (ob : Obj), w2.cell? ⟨w.heap.size, o, none⟩ = some v -> (w2.alloc ob).cell? ⟨w.heap.size, o, none⟩ = some v := fun o v ob h =>
  (d_ (w := w2) (a := ⟨w.heap.size, o, none⟩) (Below.heap_alloc w2 ob _ (by show w.heap.size < _; omega))).trans h
 have x1 : Xt w w1 := (by rw [<- hw1]; exact hg.xt.grownB (yiv _ _ _ _) (fun m hm => by cases hm; exact Nat.le_refl _));have x2 : Xt w w2 := (by rw [<- hw2]; exact x1.grownB (yiv _ _ _ _) (fun m hm => by cases hm; exact Nat.le_refl _));refine ⟨⟨?_, ?_, ?_, ?_, ?_, ?_, ?_, ?_, ?_, ?_, ?_, ?_, ?_, ?_, ?_⟩, ?_, ?_, fun g hg => (by cases hg), ⟨[], ?_, ?_, fun k r hk => (by simp at hk)⟩, x2.alloc _⟩
 . exact k3 _ _ _ (k2 _ _ (by omega) (k1 _ _ (by omega) hc.c0))
 . exact k3 _ _ _ (k2 _ _ (by omega) (k1 _ _ (by omega) hc.c1))
 . refine k3 _ _ _ (k2 _ _ (by omega) ?_);rw [<- hw1, Nat.zero_add]; exact World.cell?_setCell_same' w0 _ _ (by have := hc.c2; rw [Nat.zero_add] at this; rw [this]; rfl)
 . exact k3 _ _ _ (k2 _ _ (by omega) (k1 _ _ (by omega) hc.c3))
 . exact k3 _ _ _ (k2 _ _ (by omega) (k1 _ _ (by omega) hc.c4))
 . exact k3 _ _ _ (k2 _ _ (by omega) (k1 _ _ (by omega) hc.c5))
 . exact k3 _ _ _ (k2 _ _ (by omega) (k1 _ _ (by omega) hc.c6))
 . exact k3 _ _ _ (k2 _ _ (by omega) (k1 _ _ (by omega) hc.c7))
 . exact k3 _ _ _ (k2 _ _ (by omega) (k1 _ _ (by omega) hc.c8))
 . exact k3 _ _ _ (k2 _ _ (by omega) (k1 _ _ (by omega) hc.c9))
 . exact k3 _ _ _ (k2 _ _ (by omega) (k1 _ _ (by omega) hc.c10))
 . exact k3 _ _ _ (k2 _ _ (by omega) (k1 _ _ (by omega) hc.c11))
 . exact k3 _ _ _ (k2 _ _ (by omega) (k1 _ _ (by omega) hc.c12))
 . exact k3 _ _ _ (k2 _ _ (by omega) (k1 _ _ (by omega) hc.c13))
 . refine k3 _ _ _ ?_;have h14 := k1 _ _ (by omega) hc.c14;rw [Nat.zero_add] at h14;rw [<- hw2, Nat.zero_add]; exact World.cell?_setCell_same' w1 _ _ (by rw [h14]; rfl)
 . have q1 : w1.frozen? ⟨w.heap.size, 14, none⟩ = false := (by rw [<- hw1]; simp [hf]);have q2 : w2.frozen? ⟨w.heap.size, 14, none⟩ = false := (by rw [<- hw2]; simp [q1]);exact (f_ (w := w2) (a := ⟨w.heap.size, 14, none⟩) (Below.heap_alloc w2 _ _ (by show w.heap.size < _; omega))).trans q2
 . rw [<- s2]; exact ⟨_, (a_ w2 _).1, rfl⟩
 . exact World.ownsRow_nil _ _ _ _
 . rfl
theorem zIE {w wr w6 : World} {n n' i : Nat} {t2 x : NodeT} {l : List NodeT} {va a' : Option Addr} {vn vc : Nat} (hn : n = n' + 1) (h : CopySt w n t2 l wr i va vn vc) (hx : l[i]? = some x) (hl : l.length <= 1099511627744) (h6 : Xt wr w6)
    (hA : ArgsS (fun b => wr.heap.size <= b) w6 n' (.slice a' x.args.length x.args.length) (jEz x.args)) (wA : World) (hwA : w6.alloc (.cells (rM x.kind x.op (oneX x.x) x.s x.b x.f x.ref.a.1 x.ref.a.2 x.ref.cf x.ref.rf x.to.a.1 x.to.a.2 x.to.cf x.to.rf (.slice a' x.args.length x.args.length)) 49) = wA) :
    ∃ va' vn' vc' w7, (Builtin.append_ #[47, 47] 47 #[.slice va vn vc, .slice (some ⟨w6.heap.size, 0, none⟩) 1 1]).run Tryz.prog wA = .ok (.slice va' vn' vc') w7 /\ Xt w w6 /\ Xt w wA /\ Xt w w7 /\ Xt w (w7.setCell ⟨w.heap.size, 14, none⟩ (.slice va' vn' vc')) /\ (c_ w6 w.heap.size 14 (.slice va vn vc) /\ c_ wA w.heap.size 14 (.slice va vn vc) /\ c_ w7 w.heap.size 14 (.slice va vn vc)) /\ w7.frozen? ⟨w.heap.size, 14, none⟩ = false /\ (∀ b o, wr.heap.size <= b -> b < wA.heap.size -> w7.cell? ⟨b, o, none⟩ = wA.cell? ⟨b, o, none⟩ /\ (w7.setCell ⟨w.heap.size, 14, none⟩ (.slice va' vn' vc')).cell? ⟨b, o, none⟩ = wA.cell? ⟨b, o, none⟩) /\
     CopySt w n t2 l (w7.setCell ⟨w.heap.size, 14, none⟩ (.slice va' vn' vc')) (i + 1) va' vn' vc' := by
 obtain ⟨i0, hi, hz0, hz1, hz2⟩ := info_parts jGd;obtain ⟨hbox, hf14, ⟨cs, hres, hcs⟩, hob, ⟨R, hown, hRf, hRa⟩, hxt⟩ := h;have hil : i < l.length := (List.getElem?_eq_some_iff.1 hx).1;have hBr : w.heap.size < wr.heap.size := b_ wr _ hbox.c0;have hB1 : w.heap.size + 1 < wr.heap.size := (g_ hres).1;have h6s := h6.sz;have hxtA : Xt wr wA := (by rw [<- hwA]; exact h6.alloc _);have hAs : wA.heap.size = w6.heap.size + 1 := (by rw [<- hwA]; simp);have hRl : R.length = i := by
  have := congrArg List.length hRf;rw [j3y] at this;simp at this; omega
 have hownA : wA.ownsRow 0 49 15 (.slice va vn vc) i (R.flatMap rowC) :=
  World.ownsRow.kept hown (row := none) ⟨hxtA.os, hxtA.tape, hxtA.output, hxtA.size, fun k hk _ => hxtA.block k hk⟩ (by
   cases (Value.slice va vn vc).ownBlock with
   | none => exact Or.inl rfl
   | some q => exact Or.inr (by simp))
 have hnews : ∀ (j : Nat) (u : Value), (nodeC (copyT x) (.slice a' x.args.length x.args.length))[j]? = some u -> wA.cell? ((⟨w6.heap.size, 0, none⟩ : Addr).add j) = some u := by
  rw [<- hwA];have := yVA w6 (nodeC (copyT x) (.slice a' x.args.length x.args.length)) 49 (b := w6.heap.size) rfl;cases x;exact this
 obtain ⟨v', w7, hpush, hown7, hg7, hwh⟩ := jrS (P := Tryz.prog) wA 47 47 49 i0 _ 15 128 Tryz.underlying47 hi hz0 hz1 hz2 rfl (by decide) (.slice va vn vc) i (R.flatMap rowC) hownA ⟨w6.heap.size, 0, none⟩ 1 1 (nodeC (copyT x) (.slice a' x.args.length x.args.length)) rfl hnews (jrw _ _ rfl) (by unfold maxLen; omega) (by omega);obtain ⟨va', vc', rfl, hvc1, hvc2⟩ := zDo hown7;have hobl : ∀ g, (Value.slice va vn vc).ownBlock = some g -> g < wr.heap.size := fun g hg => (World.ownsRow.lt hown g hg).2;have hob' : ∀ g, (Value.slice va' (i + 1) vc').ownBlock = some g -> w.heap.size + 2 <= g /\ g < w7.heap.size := by
  intro g hg;have hlt := (World.ownsRow.lt hown7 g hg).2;rcases hwh with e | e
  . rw [e] at hg; exact ⟨hob g hg, hlt⟩
  . have := e g hg; exact ⟨by omega, hlt⟩
 have hx7 : Xt w w7 := (hxt.trans hxtA).grownB hg7 (fun m hm => by have := hob m hm; omega);have hn0 : (Value.slice va vn vc).ownBlock ≠ some w.heap.size := fun e => by have := hob _ e; omega
 have hn1 : (Value.slice va vn vc).ownBlock ≠ some (w.heap.size + 1) := fun e => by have := hob _ e; omega
 have k7 : ∀ b o, b < wr.heap.size -> (Value.slice va vn vc).ownBlock ≠ some b -> w7.cell? ⟨b, o, none⟩ = wr.cell? ⟨b, o, none⟩ := fun b o hb hne =>
  (d_ (w := wA) (a := ⟨b, o, none⟩) (hg7.block b (by omega) (fun e => hne e.symm))).trans ((hxtA.cells).1 b o hb)
 have hc14 := (k7 w.heap.size 14 hBr hn0).trans hbox.c14;have hcell : ∀ o v, o ≠ 14 -> wr.cell? ⟨w.heap.size, o, none⟩ = some v -> (w7.setCell ⟨w.heap.size, 14, none⟩ (.slice va' (i + 1) vc')).cell? ⟨w.heap.size, o, none⟩ = some v := fun o v ho hv =>
  (o_ w7 _ _ _ (by intro e; cases e; exact ho rfl)).trans ((k7 _ o hBr hn0).trans hv)
 have hf7 : w7.frozen? ⟨w.heap.size, 14, none⟩ = false :=
  (f_ (w := wr) (a := ⟨w.heap.size, 14, none⟩) ((hg7.block _ (by omega) (fun e => hn0 e.symm)).trans (hxtA.block _ hBr))).trans hf14
 have k8 : ∀ b, b < wr.heap.size -> b ≠ w.heap.size -> (Value.slice va vn vc).ownBlock ≠ some b -> (w7.setCell ⟨w.heap.size, 14, none⟩ (.slice va' (i + 1) vc')).heap[b]? = wr.heap[b]? := fun b hb hne hob =>
  (s_ _ _ _ _ hne).trans ((hg7.block b (by omega) (fun e => hob e.symm)).trans (hxtA.block b hb))
 refine ⟨va', i + 1, vc', w7, hpush, hxt.trans h6, hxt.trans hxtA, hx7, hx7.grownB (yiv _ _ _ _) (fun m hm => by cases hm; exact Nat.le_refl _), ⟨((h6.cells).1 _ _ hBr).trans hbox.c14, ((hxtA.cells).1 _ _ hBr).trans hbox.c14, hc14⟩, hf7, fun b o hb hl => ?_, ?_⟩
 . have e7 : w7.cell? ⟨b, o, none⟩ = wA.cell? ⟨b, o, none⟩ := d_ (w := wA) (a := ⟨b, o, none⟩) (hg7.block b hl (fun e => by have := hobl b e.symm; omega));exact ⟨e7, (World.cell?_setCell_far _ _ _ _ (by show w.heap.size ≠ b; omega)).trans e7⟩
 refine ⟨⟨?_, ?_, ?_, ?_, ?_, ?_, ?_, ?_, ?_, ?_, ?_, ?_, ?_, ?_, ?_⟩, ?_, ?_, fun g hg => (hob' g hg).1, ?_, hx7.grownB (yiv _ _ _ _) (fun m hm => by cases hm; exact Nat.le_refl _)⟩
 . exact hcell _ _ (by omega) hbox.c0
 . exact hcell _ _ (by omega) hbox.c1
 . exact hcell _ _ (by omega) hbox.c2
 . exact hcell _ _ (by omega) hbox.c3
 . exact hcell _ _ (by omega) hbox.c4
 . exact hcell _ _ (by omega) hbox.c5
 . exact hcell _ _ (by omega) hbox.c6
 . exact hcell _ _ (by omega) hbox.c7
 . exact hcell _ _ (by omega) hbox.c8
 . exact hcell _ _ (by omega) hbox.c9
 . exact hcell _ _ (by omega) hbox.c10
 . exact hcell _ _ (by omega) hbox.c11
 . exact hcell _ _ (by omega) hbox.c12
 . exact hcell _ _ (by omega) hbox.c13
 . rw [Nat.zero_add]; exact World.cell?_setCell_same' w7 _ _ (by rw [hc14]; rfl)
 . simp [hf7]
 . exact ⟨cs, (k8 _ hB1 (by omega) hn1).trans hres, hcs⟩
 . have e7 : (R ++ [(copyT x, Value.slice a' x.args.length x.args.length)]).flatMap rowC = R.flatMap rowC ++ nodeC (copyT x) (.slice a' x.args.length x.args.length) := (by simp [rowC]);refine ⟨R ++ [(copyT x, .slice a' x.args.length x.args.length)], ?_, ?_, ?_⟩
   . rw [e7];exact ownsRow_setCell_other hown7 (a := ⟨w.heap.size, 14, none⟩) (fun e => by have := (hob' _ e).1; simp at this; omega) _
   . rw [List.map_append, hRf, j3y, j3y, List.take_add_one, hx]; simp
   . intro k r hk;have hk7 : ∀ b o, b < wr.heap.size -> b ≠ w.heap.size -> (Value.slice va vn vc).ownBlock ≠ some b -> (w7.setCell ⟨w.heap.size, 14, none⟩ (.slice va' (i + 1) vc')).cell? ⟨b, o, none⟩ = wr.cell? ⟨b, o, none⟩ := fun b o hb hne hob =>
      d_ (w := wr) (a := ⟨b, o, none⟩) (k8 b hb hne hob)
     have hobn : ∀ b, b < w6.heap.size -> (Value.slice va vn vc).ownBlock ≠ some b -> (Value.slice va' (i + 1) vc').ownBlock ≠ some b := by
      intro b hb hne e;rcases hwh with e' | e'
      . rw [e'] at e; exact hne e
      . have := e' b e; omega
     by_cases hkl : k < R.length
     . rw [List.getElem?_append_left hkl] at hk;obtain ⟨n1, hn1', hAk⟩ := hRa k r hk;exact ⟨n1, hn1', hAk.keep (fun b hb hlt => ⟨hb.1, hobn b (by omega) hb.2⟩) (fun b o hb hlt => hk7 b o hlt (by omega) hb.2)⟩
     . rw [List.getElem?_append_right (by omega)] at hk;have hk0 : k - R.length = 0 := by
        rcases Nat.eq_zero_or_pos (k - R.length) with e | e
        . exact e
        . rw [List.getElem?_eq_none (by simp; omega)] at hk; cases hk
       rw [hk0] at hk;simp only [List.getElem?_cons_zero, Option.some.injEq] at hk;subst hk;refine ⟨n', hn, ?_⟩;have hk6 : ∀ b o, wr.heap.size <= b -> b < w6.heap.size -> (w7.setCell ⟨w.heap.size, 14, none⟩ (.slice va' (i + 1) vc')).cell? ⟨b, o, none⟩ = w6.cell? ⟨b, o, none⟩ := by
        intro b o hb hlt;refine d_ (w := w6) (a := ⟨b, o, none⟩) ?_;refine (s_ _ _ _ _ (by show b ≠ w.heap.size; omega)).trans ((hg7.block b (by omega) (fun e => by have := hobl b e.symm; omega)).trans ?_);rw [<- hwA];exact Below.heap_alloc w6 _ b hlt
       have hA2 : ArgsS (fun b => wr.heap.size <= b) w6 n' (.slice a' x.args.length x.args.length) (copyT x).args := (by cases x; exact hA);exact hA2.keep (fun b hb hlt => ⟨by omega, hobn b hlt (fun e => by have := hobl b e; omega)⟩) (fun b o hb hlt => hk6 b o hb hlt)
theorem yz5 {w wr w' : World} {n : Nat} {t2 : NodeT} {l : List NodeT} {va : Option Addr} {vn vc : Nat} (h : CopySt w n t2 l wr l.length va vn vc) (hk : ∀ b o, w.heap.size + 2 <= b -> b < wr.heap.size -> w'.cell? ⟨b, o, none⟩ = wr.cell? ⟨b, o, none⟩) :
    vn = l.length /\ l.length <= vc /\ vc <= 9223372036854775807 /\ ArgsS (fun b => w.heap.size <= b) w' n (.slice va l.length l.length) (jEz l) := by
 obtain ⟨_, _, _, hob, ⟨R, hown, hRf, hRa⟩, _⟩ := h;obtain ⟨a2, c2, e, h1, h2⟩ := zDo hown;cases e;refine ⟨rfl, h1, h2, ?_⟩;rw [List.take_length] at hRf;have hRl : R.length = l.length := (by have := congrArg List.length hRf; rw [j3y] at this; simpa using this);have hcl : (jEz l).length = l.length := (by rw [j3y]; simp);cases n with
 | zero =>
  cases R with
  | nil =>
   have : l = [] := List.eq_nil_of_length_eq_zero (by rw [<- hRl]; rfl);subst this;exact ⟨rfl, _, _, rfl, by simp⟩
  | cons r R => obtain ⟨n', hn, _⟩ := hRa 0 r rfl; cases hn
 | succ n =>
  refine ⟨va, l.length, by rw [hcl], by rw [hcl]; exact Nat.le_refl _, by omega, fun hne => ?_⟩;have hlne : l ≠ [] := fun e => hne (by subst e; rfl);rcases hown.2 with ⟨_, h0⟩ | ⟨g, cap, cur, e, _⟩
  . exact absurd (List.length_eq_zero_iff.1 h0) hlne
  . cases e;have hg2 := hob g rfl;have hgl := (World.ownsRow.lt hown g rfl).2;refine ⟨g, 0, rfl, by omega, fun k t ht => ?_⟩;rw [<- hRf, List.getElem?_map] at ht;obtain ⟨r, hr, rfl⟩ := Option.map_eq_some_iff.1 ht;obtain ⟨n', hn', hA⟩ := hRa k r hr;cases hn';refine ⟨r.2, fun i u hu => ?_, hA.keep (fun b hb _ => by have := hb.1; omega) (fun b o hb hlt => hk b o hb.1 hlt)⟩;have hi : i < 15 := (List.getElem?_eq_some_iff.1 hu).1;have hf := jdX rowC 15 ydP R k i r hr hi;have := World.ownsRow.cells hown (g := g) rfl (k * 15 + i) u (hf.trans hu);rw [Nat.zero_add, hk g _ hg2 hgl];rw [<- this, Addr.add_lit, Nat.zero_add]
theorem zGA {w : World} {b : Nat} {cs : Array Value} {T : TypeId} (h : w.heap[b]? = some (.cells cs T (0, 0))) : w.frozen? ⟨b, 0, none⟩ = false /\ w.frozen? ⟨b, 1, none⟩ = false /\ w.frozen? ⟨b, 2, none⟩ = false /\ w.frozen? ⟨b, 3, none⟩ = false /\ w.frozen? ⟨b, 4, none⟩ = false /\ w.frozen? ⟨b, 5, none⟩ = false /\ w.frozen? ⟨b, 6, none⟩ = false /\ w.frozen? ⟨b, 7, none⟩ = false /\ w.frozen? ⟨b, 8, none⟩ = false /\ w.frozen? ⟨b, 9, none⟩ = false /\ w.frozen? ⟨b, 10, none⟩ = false /\ w.frozen? ⟨b, 11, none⟩ = false /\ w.frozen? ⟨b, 12, none⟩ = false /\ w.frozen? ⟨b, 13, none⟩ = false /\ w.frozen? ⟨b, 14, none⟩ = false := by
 have hk : ∀ o, w.frozen? ⟨b, o, none⟩ = false := fun o => by simp [World.frozen?, h]
 exact ⟨hk 0, hk 1, hk 2, hk 3, hk 4, hk 5, hk 6, hk 7, hk 8, hk 9, hk 10, hk 11, hk 12, hk 13, hk 14⟩
theorem y94 {w : World} {b : Nat} {cs : Array Value} {T : TypeId} (h : w.heap[b]? = some (.cells cs T (0, 0))) (hs : cs.size = 15) : ∃ v0 v1 v2 v3 v4 v5 v6 v7 v8 v9 v10 v11 v12 v13 v14, c_ w b 0 v0 /\ c_ w b 1 v1 /\ c_ w b 2 v2 /\ c_ w b 3 v3 /\ c_ w b 4 v4 /\ c_ w b 5 v5 /\ c_ w b 6 v6 /\ c_ w b 7 v7 /\ c_ w b 8 v8 /\ c_ w b 9 v9 /\ c_ w b 10 v10 /\ c_ w b 11 v11 /\ c_ w b 12 v12 /\ c_ w b 13 v13 /\ c_ w b 14 v14 := by
 have hk : ∀ o, o < 15 -> w.cell? ⟨b, o, none⟩ = some (cs.getD o undef) := fun o ho => by simp [World.cell?, h, hs, ho]
 exact ⟨_, _, _, _, _, _, _, _, _, _, _, _, _, _, _, hk 0 (by omega), hk 1 (by omega), hk 2 (by omega), hk 3 (by omega), hk 4 (by omega), hk 5 (by omega), hk 6 (by omega), hk 7 (by omega), hk 8 (by omega), hk 9 (by omega), hk 10 (by omega), hk 11 (by omega), hk 12 (by omega), hk 13 (by omega), hk 14 (by omega)⟩
theorem ysv {w : World} {b : Nat} {cs : Array Value} {T : TypeId} {fz : Nat × Nat} (h : w.heap[b]? = some (.cells cs T fz)) (o : Nat) (v : Value) : (w.setCell ⟨b, o, none⟩ v).heap[b]? = some (.cells (cs.setIfInBounds o v) T fz) := by
 simp [World.setCell, Array.getElem?_modify, h]
theorem row15 {cs : Array Value} (h : cs.size = 15) (v0 v1 v2 v3 v4 v5 v6 v7 v8 v9 v10 v11 v12 v13 v14 : Value) : (((((((((((((((cs.setIfInBounds 0 v0).setIfInBounds 1 v1).setIfInBounds 2 v2).setIfInBounds 3 v3).setIfInBounds 4 v4).setIfInBounds 5 v5).setIfInBounds 6 v6).setIfInBounds 7 v7).setIfInBounds 8 v8).setIfInBounds 9 v9).setIfInBounds 10 v10).setIfInBounds 11 v11).setIfInBounds 12 v12).setIfInBounds 13 v13).setIfInBounds 14 v14) = #[v0, v1, v2, v3, v4, v5, v6, v7, v8, v9, v10, v11, v12, v13, v14] := by
 obtain ⟨l⟩ := cs;have h' : l.length = 15 := h;rcases l with _ | ⟨a0, l⟩
 . simp at h'
 rcases l with _ | ⟨a1, l⟩
 . simp at h'
 rcases l with _ | ⟨a2, l⟩
 . simp at h'
 rcases l with _ | ⟨a3, l⟩
 . simp at h'
 rcases l with _ | ⟨a4, l⟩
 . simp at h'
 rcases l with _ | ⟨a5, l⟩
 . simp at h'
 rcases l with _ | ⟨a6, l⟩
 . simp at h'
 rcases l with _ | ⟨a7, l⟩
 . simp at h'
 rcases l with _ | ⟨a8, l⟩
 . simp at h'
 rcases l with _ | ⟨a9, l⟩
 . simp at h'
 rcases l with _ | ⟨a10, l⟩
 . simp at h'
 rcases l with _ | ⟨a11, l⟩
 . simp at h'
 rcases l with _ | ⟨a12, l⟩
 . simp at h'
 rcases l with _ | ⟨a13, l⟩
 . simp at h'
 rcases l with _ | ⟨a14, l⟩
 . simp at h'
 rcases l with _ | ⟨a15, l⟩
 . simp only [List.setIfInBounds_toArray, List.set_cons_zero, List.set_cons_succ]
 . simp at h'
theorem z4r {w w' : World} {b : Nat} (h : w.grownBy w' (some b)) (o : Nat) (v : Value) : w.grownBy (w'.setCell ⟨b, o, none⟩ v) (some b) := World.grownBy.trans h (yiv _ _ _ _)
theorem zc0 {w : World} {b : Nat} {cs : Array Value} {T : TypeId} (h : w.heap[b]? = some (.cells cs T (0, 0))) (hs : cs.size = 15) (v0 v1 v2 v3 v4 v5 v6 v7 v8 v9 v10 v11 v12 v13 v14 : Value) :
    (((((((((((((((w.setCell ⟨b, 0, none⟩ v0).setCell ⟨b, 1, none⟩ v1).setCell ⟨b, 2, none⟩ v2).setCell ⟨b, 3, none⟩ v3).setCell ⟨b, 4, none⟩ v4).setCell ⟨b, 5, none⟩ v5).setCell ⟨b, 6, none⟩ v6).setCell ⟨b, 7, none⟩ v7).setCell ⟨b, 8, none⟩ v8).setCell ⟨b, 9, none⟩ v9).setCell ⟨b, 10, none⟩ v10).setCell ⟨b, 11, none⟩ v11).setCell ⟨b, 12, none⟩ v12).setCell ⟨b, 13, none⟩ v13).setCell ⟨b, 14, none⟩ v14).heap[b]? = some (.cells #[v0, v1, v2, v3, v4, v5, v6, v7, v8, v9, v10, v11, v12, v13, v14] T (0, 0)) /\ w.grownBy (((((((((((((((w.setCell ⟨b, 0, none⟩ v0).setCell ⟨b, 1, none⟩ v1).setCell ⟨b, 2, none⟩ v2).setCell ⟨b, 3, none⟩ v3).setCell ⟨b, 4, none⟩ v4).setCell ⟨b, 5, none⟩ v5).setCell ⟨b, 6, none⟩ v6).setCell ⟨b, 7, none⟩ v7).setCell ⟨b, 8, none⟩ v8).setCell ⟨b, 9, none⟩ v9).setCell ⟨b, 10, none⟩ v10).setCell ⟨b, 11, none⟩ v11).setCell ⟨b, 12, none⟩ v12).setCell ⟨b, 13, none⟩ v13).setCell ⟨b, 14, none⟩ v14) (some b) := by
 refine ⟨?_, (z4r (z4r (z4r (z4r (z4r (z4r (z4r (z4r (z4r (z4r (z4r (z4r (z4r (z4r (z4r (World.grownBy.refl w _) 0 v0) 1 v1) 2 v2) 3 v3) 4 v4) 5 v5) 6 v6) 7 v7) 8 v8) 9 v9) 10 v10) 11 v11) 12 v12) 13 v13) 14 v14)⟩;rw [<- row15 hs];exact (ysv (ysv (ysv (ysv (ysv (ysv (ysv (ysv (ysv (ysv (ysv (ysv (ysv (ysv (ysv h 0 v0) 1 v1) 2 v2) 3 v3) 4 v4) 5 v5) 6 v6) 7 v7) 8 v8) 9 v9) 10 v10) 11 v11) 12 v12) 13 v13) 14 v14)
theorem NodeAt.facts0 {w : World} {b : Nat} {k op : Int} {x : Nat} {s : ByteArray} {bb : Bool} {f : Int} {r q : RefT} {l : List NodeT} {a : Option Addr} {n c : Nat} (h : NodeAt w b 0 (.mk k op x s bb f r q l) a n c) : c_ w b 0 (.int .i64 k) /\ c_ w b 1 op /\ c_ w b 2 (.float .f64 x) /\ c_ w b 3 (.string s) /\ c_ w b 4 bb /\ c_ w b 5 f /\ c_ w b 6 r.a.1 /\ c_ w b 7 r.a.2 /\ c_ w b 8 r.cf /\ c_ w b 9 r.rf /\ c_ w b 10 q.a.1 /\ c_ w b 11 q.a.2 /\ c_ w b 12 q.cf /\ c_ w b 13 q.rf /\ c_ w b 14 (.slice a n c) :=
 ⟨h.c0, by have := h.c1; rw [Nat.zero_add] at this; exact this, by have := h.c2; rw [Nat.zero_add] at this; exact this, by have := h.c3; rw [Nat.zero_add] at this; exact this, by have := h.c4; rw [Nat.zero_add] at this; exact this, by have := h.c5; rw [Nat.zero_add] at this; exact this, by have := h.c6; rw [Nat.zero_add] at this; exact this, by have := h.c7; rw [Nat.zero_add] at this; exact this, by have := h.c8; rw [Nat.zero_add] at this; exact this, by have := h.c9; rw [Nat.zero_add] at this; exact this, by have := h.c10; rw [Nat.zero_add] at this; exact this, by have := h.c11; rw [Nat.zero_add] at this; exact this, by have := h.c12; rw [Nat.zero_add] at this; exact this, by have := h.c13; rw [Nat.zero_add] at this; exact this, by have := h.c14; rw [Nat.zero_add] at this; exact this⟩
mutual
def yQE : NodeT -> Prop
 | .mk _ _ _ _ _ _ _ _ args => args.length <= 1099511627744 /\ joP args
def joP : List NodeT -> Prop
 | [] => True
 | t :: r => yQE t /\ joP r
end
mutual
theorem zuT : ∀ (t : NodeT) (m : Int), jWK t m <= m -> 0 <= m -> m <= 1048576 -> yQE t
 | .mk _ _ _ _ _ _ _ _ args, m, h, h0, h1 => by
  simp only [jWK] at h;obtain ⟨q1, q2⟩ := zLE args 1 m h (by omega) h1;simp only [yQE];exact ⟨by omega, q1⟩
theorem zLE : ∀ (l : List NodeT) (all m : Int), jfl l all m <= m -> 1 <= all -> m <= 1048576 -> joP l /\ all + l.length <= m
 | [], all, m, h, h0, h1 => by simp only [jfl] at h; simp only [joP]; simp; omega
 | t :: r, all, m, h, h0, h1 => by
  simp only [jfl] at h;by_cases hc : all <= m
  . rw [if_pos hc] at h;have hw := zoW t (m - all) (by omega);obtain ⟨q1, q2⟩ := zLE r _ m h (by omega) h1;have q3 := zuT t (m - all) (by omega) (by omega) (by omega);simp only [joP, List.length_cons];exact ⟨⟨q3, q1⟩, by omega⟩
  . rw [if_neg hc] at h; omega
end
theorem z8y : ∀ {l : List NodeT} {k : Nat} {t : NodeT}, joP l -> l[k]? = some t -> yQE t
 | _ :: _, 0, _, h, e => by simp only [joP] at h; cases e; exact h.1
 | _ :: _, k + 1, _, h, e => by simp only [joP] at h; exact z8y (k := k) h.2 e
theorem zB1 {t : NodeT} (h : yQE t) : t.args.length <= 1099511627744 /\ joP t.args := by cases t; simp only [yQE] at h; exact h
def nanX (x : Nat) : Bool := decide (9218868437227405312 < x % 9223372036854775808)
theorem j6N (i : Int) : compare i i = Ordering.eq := Int.compare_eq_eq.2 rfl
theorem y8f (x : Nat) : ((FloatKind.format .f64).order x x != some .eq) = nanX x := by
 have e : (FloatKind.format .f64).signWeight = 9223372036854775808 := (by decide);have e2 : (FloatKind.format .f64).infRung = 9218868437227405312 := (by decide);have e3 : (FloatKind.format .f64).binade <= 9218868437227405312 := (by decide);unfold Ieee.Format.order Ieee.Format.read nanX;simp only [e, e2];generalize x % 9223372036854775808 = r;by_cases h1 : r < (FloatKind.format .f64).binade
 . rw [if_pos h1];simp only [Ieee.Datum.order, j6N];have : ¬ 9218868437227405312 < r := (by omega);simp [this]
 . rw [if_neg h1];by_cases h2 : r < 9218868437227405312
   . rw [if_pos h2];simp only [Ieee.Datum.order, j6N];have : ¬ 9218868437227405312 < r := (by omega);simp [this]
   . rw [if_neg h2];by_cases h3 : r = 9218868437227405312
     . rw [if_pos h3];have : ¬ 9218868437227405312 < r := (by omega);simp [this, Ieee.Datum.order]
     . rw [if_neg h3];have : 9218868437227405312 < r := (by omega);simp [this, Ieee.Datum.order]
theorem oneX_eq (x : Nat) : oneX x = if nanX x = true then 9221120237041090560 else x := by
 unfold oneX; rw [y8f]
theorem ypW (x : Nat) : bits .andNot .u64 (x : Int) 9223372036854775808 = ((x % 9223372036854775808 : Nat) : Int) := by
 show IntKind.u64.wrap ((BitVec.ofInt 64 (x : Int) &&& ~~~BitVec.ofInt 64 9223372036854775808).toNat : Int) = _
 have h1 : (~~~BitVec.ofInt 64 9223372036854775808).toNat = 2 ^ 63 - 1 := (by decide);have h2 : (BitVec.ofInt 64 (x : Int)).toNat = x % 18446744073709551616 := by
  rw [BitVec.ofInt_natCast, BitVec.toNat_ofNat]
 rw [BitVec.toNat_and, h1, h2, Nat.and_two_pow_sub_one_eq_mod, IntKind.wrap_u64];omega
theorem j2p (x : Nat) (w : World) : Calls Tryz.prog 191 #[.int .u64 x] w fun e w' => e = .returned (.bool (decide (x % 9223372036854775808 < 9218868437227405312))) /\ w = w' := by
 have h := h_ (ypW x);go_enter Tryz.func191, Tryz.ntmps191;go_wp2;go_ret;refine ⟨?_, rfl⟩;rw [h.out]
 show Ending.returned (Value.bool _) = _
 exact congrArg (fun b => Ending.returned (Value.bool b)) (decide_eq_decide.2 (by omega))
theorem jlf (c r : Int) (w : World) :
    Calls Tryz.prog 65 #[.agg #[c, r]] w fun e w' => e = .returned (.bool (y8L c r)) /\ w' = w.alloc (.cells #[c, r] 24) := by
 unfold y8L;go_enter Tryz.func65, Tryz.ntmps65;go_wp2
 all_goals (go_ret; refine ⟨?_, rfl⟩; congr 2; simp [*])
 all_goals omega
theorem jb2 (a b c d : Int) (w : World) :
    Calls Tryz.prog 89 #[.agg #[a, b, c, d]] w fun e w' => e = .returned (.bool (ygU a b c d)) /\ Gr w w' := by
 unfold ygU;cases h1 : y8L a b <;> cases h2 : y8L c d
 all_goals
  go_enter Tryz.func89, Tryz.ntmps89;go_wp2_with (go_at_call 65; refine (jlf _ _ _).mono ?_; rintro e w' ⟨rfl, rfl⟩)
  all_goals (go_ret; refine ⟨by congr 2; try (simp [*]; try omega), by repeat (first | exact Gr.refl _ | refine Gr.alloc ?_ _)⟩)
structure LinT where
 at_ : Int
 n : Int
 many : Int
abbrev linV (l : LinT) : Value := .agg #[l.at_, l.n, l.many]
def jLa (l : LinT) (k : Int) : Int × Bool :=
 if k < l.at_ then (k, true) else if 0 <= l.n then (wrap64 (k + l.n), decide (wrap64 (k + l.n) <= l.many)) else (wrap64 (k + l.n), decide (wrap64 (l.at_ - l.n) <= k))
theorem zfx (l : LinT) (k : Int) (w : World) :
    Calls Tryz.prog 147 #[linV l, .int .i64 k] w fun e w' => e = .returned (.tuple #[(jLa l k).1, (jLa l k).2]) /\ Gr w w' := by
 obtain ⟨a, n, m⟩ := l;unfold jLa;simp only;obtain ⟨w0, hw0⟩ := e_ (w.alloc (.cells #[a, .int .i64 n, .int .i64 m] 147));have hr : w0.heap[w.heap.size]? = some (.cells #[a, .int .i64 n, .int .i64 m] 147 (0, 0)) := (by rw [<- hw0]; exact (a_ w _).1);have c0 : w0.cell? ⟨w.heap.size, 0, none⟩ = some (.int .i64 a) := (by simp [World.cell?, hr]);have c1 : w0.cell? ⟨w.heap.size, 1, none⟩ = some (.int .i64 n) := (by simp [World.cell?, hr]);have c2 : w0.cell? ⟨w.heap.size, 2, none⟩ = some (.int .i64 m) := (by simp [World.cell?, hr]);have HG : Hid (Gr w w0) := (by unfold Hid; rw [<- hw0]; exact (Gr.refl _).alloc _);clear hr;by_cases h1 : k < a
 . rw [if_pos h1];go_enter Tryz.func147, Tryz.ntmps147;go_wp2_with fail
   go_ret2
   exact ⟨rfl, HG.out⟩
 rw [if_neg h1];by_cases h2 : 0 <= n
 . rw [if_pos h2];obtain ⟨s, hs⟩ := e_ (wrap64 (k + n));go_enter Tryz.func147, Tryz.ntmps147;go_wp2_with fail
   go_quiet (fail)
   go_wp2_with fail
   go_ret2
   exact ⟨by simp [hs], HG.out.drewN _⟩
 . rw [if_neg h2];obtain ⟨s, hs⟩ := e_ (wrap64 (k + n));obtain ⟨q, hq⟩ := e_ (wrap64 (a - n));go_enter Tryz.func147, Tryz.ntmps147;go_wp2_with fail
   go_quiet (fail)
   go_wp2_with fail
   go_ret2
   exact ⟨by simp [hs, hq], HG.out.drewN _⟩
def jq8 (l : LinT) : Nat -> Int -> Int -> Int -> Int × Int
 | 0, _, f, t => (f, t)
 | n + 1, k, f, t => if (jLa l k).2 = true then jq8 l n (k + 1) (if f = 0 then (jLa l k).1 else f) (jLa l k).1 else jq8 l n (k + 1) f t
def yJ8 (l : LinT) (a b : Int) : Int × Int × Bool := ((jq8 l (b - a + 1).toNat a 0 0).1, (jq8 l (b - a + 1).toNat a 0 0).2, decide (0 < (jq8 l (b - a + 1).toNat a 0 0).1))
theorem yWD {l : LinT} {k b f t : Int} (h : k <= b) : jq8 l (b - k + 1).toNat k f t = if (jLa l k).2 = true then jq8 l (b - (k + 1) + 1).toNat (k + 1) (if f = 0 then (jLa l k).1 else f) (jLa l k).1 else jq8 l (b - (k + 1) + 1).toNat (k + 1) f t := by
 have e : (b - k + 1).toNat = (b - (k + 1) + 1).toNat + 1 := (by omega);rw [e]; rfl
theorem zCP {l : LinT} {k b f t : Int} (h : b < k) : jq8 l (b - k + 1).toNat k f t = (f, t) := by
 have e : (b - k + 1).toNat = 0 := (by omega);rw [e]; rfl
theorem jzv (l : LinT) (a b : Int) (w : World) (ha : -4611686018427387904 <= a) (hb : b <= 4611686018427387904) :
    Calls Tryz.prog 149 #[linV l, a, b] w fun e w' => e = .returned (.tuple #[(yJ8 l a b).1, .int .i64 (yJ8 l a b).2.1, .bool (yJ8 l a b).2.2]) /\ Gr w w' := by
 obtain ⟨w0, hw0⟩ := e_ (w.alloc (.cells #[l.at_, l.n, l.many] 147));have hr : w0.heap[w.heap.size]? = some (.cells #[l.at_, l.n, l.many] 147 (0, 0)) := (by rw [<- hw0]; exact (a_ w _).1);have c0 : w0.cell? ⟨w.heap.size, 0, none⟩ = some (.int .i64 l.at_) := (by simp [World.cell?, hr]);have c1 : w0.cell? ⟨w.heap.size, 1, none⟩ = some (.int .i64 l.n) := (by simp [World.cell?, hr]);have c2 : w0.cell? ⟨w.heap.size, 2, none⟩ = some (.int .i64 l.many) := (by simp [World.cell?, hr]);have HG : Hid (Gr w w0) := by unfold Hid; rw [<- hw0]; exact (Gr.refl _).alloc _
 have hs0 : w0.heap.size = w.heap.size + 1 := (by rw [<- hw0]; simp);unfold yJ8;obtain ⟨r, hr0⟩ := e_ (jq8 l (b - a + 1).toNat a 0 0);have HR := h_ hr0;rw [hr0];clear hr hr0;go_enter Tryz.func149, Tryz.ntmps149;go_wp2_with fail;clear hw0
 go_loopw [9, 10, 11] (fun s9 s10 s11 wr => ∃ k f t : Int, -4611686018427387904 <= k /\ s11 = .int .i64 k /\ s9 = .int .i64 f /\ s10 = .int .i64 t /\ Hid (jq8 l (b - k + 1).toNat k f t = r) /\ Hid (Gr w0 wr)) (fun _ _ s11 _ => (b + 1 - intOf s11).toNat)
 case atStart => exact ⟨a, 0, 0, ha, rfl, rfl, rfl, HR, Gr.refl _⟩
 case round =>
  obtain ⟨k, f, t, hk, rfl, rfl, rfl, HS, HGr⟩ := hrel;have k0 := ((HGr.out.xt.cells).1 w.heap.size 0 (by omega)).trans c0;have k1 := ((HGr.out.xt.cells).1 w.heap.size 1 (by omega)).trans c1;have k2 := ((HGr.out.xt.cells).1 w.heap.size 2 (by omega)).trans c2;by_cases hlt : k <= b
  . have hst := HS.out;rw [yWD hlt] at hst;have HST := h_ hst;have HC := h_ (zfx l k wr);generalize jLa l k = lf at HC HST;obtain ⟨m, ok⟩ := lf;simp only at HC HST;have hadd : wrap64 (k + 1) = k + 1 := (by unfold wrap64; omega);clear hst;go_wp2_with fail;refine (HC.out).mono ?_;rintro e w2 ⟨rfl, hg2⟩;have HG2 := h_ (HGr.out.trans hg2);clear hg2 k0 k1 k2;cases ok
    . have HN : Hid (jq8 l (b - (k + 1) + 1).toNat (k + 1) f t = r) := (by have h := HST.out; unfold Hid; simpa using h);go_wp2_with fail;go_roundw
      case rel => exact ⟨k + 1, f, t, by omega, rfl, rfl, rfl, HN, HG2.out⟩
      case measure => simp [intOf]; omega
    . by_cases hf : f = 0
      . subst hf;have HN : Hid (jq8 l (b - (k + 1) + 1).toNat (k + 1) m m = r) := (by have h := HST.out; unfold Hid; simpa using h);go_wp2_with fail;go_roundw
        case rel => exact ⟨k + 1, m, m, by omega, rfl, rfl, rfl, HN, HG2.out⟩
        case measure => simp [intOf]; omega
      . have hfb : (f == 0) = false := (by simpa using hf);have HN : Hid (jq8 l (b - (k + 1) + 1).toNat (k + 1) f m = r) := (by have h := HST.out; unfold Hid; simpa [hf] using h);go_wp2_with fail;go_roundw
        case rel => exact ⟨k + 1, f, m, by omega, rfl, rfl, rfl, HN, HG2.out⟩
        case measure => simp [intOf]; omega
  . have hE := HS.out;rw [zCP (by omega)] at hE;have HE := h_ hE;clear hE;go_wp2_with fail;refine p_ (v := .tuple #[f, t, .bool (decide (0 < f))]) (by simp [results]) rfl ?_;exact ⟨by rw [<- HE.out], HG.out.trans HGr.out⟩
theorem rowX {w w' : World} (hx : Xt w w') {b : Nat} {o : Obj} (h : w.heap[b]? = some o) : w'.heap[b]? = some o := (hx.block b (g_ h).1).trans h
structure LinAt (w : World) (pc pl : Nat) (cols : Bool) (l : LinT) : Prop where
 c : w.cell? ⟨pc, 0, none⟩ = some (.bool cols)
 c0 : w.cell? ⟨pl, 0, none⟩ = some (.int .i64 l.at_)
 c1 : w.cell? ⟨pl, 1, none⟩ = some (.int .i64 l.n)
 c2 : w.cell? ⟨pl, 2, none⟩ = some (.int .i64 l.many)
theorem LinAt.xt {w w' : World} {pc pl : Nat} {cols : Bool} {l : LinT} (h : LinAt w pc pl cols l) (hx : Xt w w') : LinAt w' pc pl cols l :=
 ⟨((hx.cells).1 _ _ (b_ w _ h.c)).trans h.c, ((hx.cells).1 _ _ (b_ w _ h.c0)).trans h.c0, ((hx.cells).1 _ _ (b_ w _ h.c1)).trans h.c1, ((hx.cells).1 _ _ (b_ w _ h.c2)).trans h.c2⟩
def z7H (cols : Bool) (l : LinT) (a : Int × Int) : (Int × Int) × Bool := if cols = true then (((jLa l a.1).1, a.2), (jLa l a.1).2) else ((a.1, (jLa l a.2).1), (jLa l a.2).2)
theorem zxi {w : World} {b : Nat} {u v : Value} {T : TypeId} (h : w.heap[b]? = some (.cells #[u, v] T (0, 0))) : c_ w b 0 u /\ c_ w b 1 v /\ w.frozen? ⟨b, 0, none⟩ = false /\ w.frozen? ⟨b, 1, none⟩ = false := by
 refine ⟨?_, ?_, ?_, ?_⟩ <;> simp [World.cell?, World.frozen?, h]
theorem jIR (cols : Bool) (l : LinT) (a : Int × Int) (pc pl : Nat) (w : World) (h : LinAt w pc pl cols l) :
    Calls Tryz.prog 146 #[.agg #[a.1, a.2], v_ pc, v_ pl] w fun e w' => e = .returned (.tuple #[.agg #[.int .i64 (z7H cols l a).1.1, .int .i64 (z7H cols l a).1.2], (z7H cols l a).2]) /\ Xt w w' := by
 obtain ⟨B, hB⟩ := e_ w.heap.size;obtain ⟨w0, hw0⟩ := e_ (w.alloc (.cells #[a.1, a.2] 24));have hs0 : w0.heap.size = B + 1 := (by rw [<- hw0, <- hB]; simp);obtain ⟨w1, hw1⟩ := e_ (w0.alloc (.cells #[.int .i64 0, .int .i64 0] 24));have hx1 : Xt w w1 := (by rw [<- hw1, <- hw0]; exact ((Xt.refl w).alloc _).alloc _);have HB : Hid (r_ w1 B #[a.1, a.2] 24) := by
  unfold Hid; rw [<- hw1]; exact (Below.heap_alloc w0 _ _ (by omega)).trans (by rw [<- hw0, <- hB]; exact (a_ w _).1)
 have HR : Hid (r_ w1 (B + 1) #[.int .i64 0, .int .i64 0] 24) := by
  unfold Hid; rw [<- hw1, <- hs0]; exact (a_ w0 _).1
 obtain ⟨c, c0, c1, c2⟩ := h.xt hx1;obtain ⟨b0, b1, f0, f1⟩ := zxi HB.out;have HX1 := h_ hx1;have hBB := h_ hB;clear hx1 h;unfold z7H;cases cols
 ·
  have HC := h_ (zfx l a.2);generalize jLa l a.2 = r at HC ⊢;obtain ⟨m, ok⟩ := r;go_enter Tryz.func146, Tryz.ntmps146;go_wp2_with fail;refine (HC.out _).mono ?_;rintro e w2 ⟨rfl, hg2⟩;have hb2 := rowX hg2.xt HB.out;have hr2 := rowX hg2.xt HR.out;obtain ⟨b0, b1, f0, f1⟩ := zxi hb2;obtain ⟨r0, r1, g0, g1⟩ := zxi hr2;have HX2 := h_ (HX1.out.trans hg2.xt);obtain ⟨w3, hw3⟩ := e_ (w2.setCell ⟨B, 1, none⟩ (.int .i64 m));have hb3 : w3.heap[B]? = some (.cells #[a.1, .int .i64 m] 24 (0, 0)) := by rw [<- hw3]; exact ysv hb2 1 _
  have hr3 : w3.heap[B + 1]? = some (.cells #[.int .i64 0, .int .i64 0] 24 (0, 0)) := (by rw [<- hw3]; exact (s_ _ _ _ _ (by simp)).trans hr2);have hx3 : Xt w w3 := (by rw [<- hw3]; exact HX2.out.grownB (yiv _ _ _ _) (fun q hq => by cases hq; rw [hBB.out]; exact Nat.le_refl _));obtain ⟨d0, d1, _, _⟩ := zxi hb3;obtain ⟨e0, e1, g2, g3⟩ := zxi hr3;have hrow : ((w3.setCell ⟨B + 1, 0, none⟩ (.int .i64 a.1)).setCell ⟨B + 1, 1, none⟩ (.int .i64 m)).heap[B + 1]? = some (.cells #[a.1, .int .i64 m] 24 (0, 0)) := ysv (ysv hr3 0 _) 1 _
  have hxe : Xt w ((w3.setCell ⟨B + 1, 0, none⟩ (.int .i64 a.1)).setCell ⟨B + 1, 1, none⟩ (.int .i64 m)) := (hx3.grownB (yiv _ _ _ _) (fun q hq => by cases hq; rw [hBB.out]; omega)).grownB (yiv _ _ _ _) (fun q hq => by cases hq; rw [hBB.out]; omega);clear hw0 hw1 c c0 c1 c2 hb2 hr2 hg2;go_wp2_with fail
  (try simp only [Exit.inBlock, Exit.then])
  refine p_ (v := .tuple #[.agg #[a.1, .int .i64 m], ok]) ?_ rfl ⟨rfl, hxe⟩;rw [results_cell_tmp rfl]
  show ((asAddr (v_ (B + 1))).run _ _).andThen _ = _
  simp only [asAddr, Sem.run_pure, Result.andThen_ok, l_ _ _ _ 24 _ _ _ hrow Tryz.underlying24 rfl (by kernel_rfl)];rfl
 ·
  have HC := h_ (zfx l a.1);generalize jLa l a.1 = r at HC ⊢;obtain ⟨m, ok⟩ := r;go_enter Tryz.func146, Tryz.ntmps146;go_wp2_with fail;refine (HC.out _).mono ?_;rintro e w2 ⟨rfl, hg2⟩;have hb2 := rowX hg2.xt HB.out;have hr2 := rowX hg2.xt HR.out;obtain ⟨b0, b1, f0, f1⟩ := zxi hb2;obtain ⟨r0, r1, g0, g1⟩ := zxi hr2;have HX2 := h_ (HX1.out.trans hg2.xt);obtain ⟨w3, hw3⟩ := e_ (w2.setCell ⟨B, 0, none⟩ (.int .i64 m));have hb3 : w3.heap[B]? = some (.cells #[.int .i64 m, a.2] 24 (0, 0)) := by rw [<- hw3]; exact ysv hb2 0 _
  have hr3 : w3.heap[B + 1]? = some (.cells #[.int .i64 0, .int .i64 0] 24 (0, 0)) := (by rw [<- hw3]; exact (s_ _ _ _ _ (by simp)).trans hr2);have hx3 : Xt w w3 := (by rw [<- hw3]; exact HX2.out.grownB (yiv _ _ _ _) (fun q hq => by cases hq; rw [hBB.out]; exact Nat.le_refl _));obtain ⟨d0, d1, _, _⟩ := zxi hb3;obtain ⟨e0, e1, g2, g3⟩ := zxi hr3;have hrow : ((w3.setCell ⟨B + 1, 0, none⟩ (.int .i64 m)).setCell ⟨B + 1, 1, none⟩ (.int .i64 a.2)).heap[B + 1]? = some (.cells #[.int .i64 m, a.2] 24 (0, 0)) := ysv (ysv hr3 0 _) 1 _
  have hxe : Xt w ((w3.setCell ⟨B + 1, 0, none⟩ (.int .i64 m)).setCell ⟨B + 1, 1, none⟩ (.int .i64 a.2)) := (hx3.grownB (yiv _ _ _ _) (fun q hq => by cases hq; rw [hBB.out]; omega)).grownB (yiv _ _ _ _) (fun q hq => by cases hq; rw [hBB.out]; omega);clear hw0 hw1 c c0 c1 c2 hb2 hr2 hg2;go_wp2_with fail
  (try simp only [Exit.inBlock, Exit.then])
  refine p_ (v := .tuple #[.agg #[.int .i64 m, a.2], ok]) ?_ rfl ⟨rfl, hxe⟩;rw [results_cell_tmp rfl]
  show ((asAddr (v_ (B + 1))).run _ _).andThen _ = _
  simp only [asAddr, Sem.run_pure, Result.andThen_ok, l_ _ _ _ 24 _ _ _ hrow Tryz.underlying24 rfl (by kernel_rfl)];rfl
def NodeRow (w : World) (b : Nat) : Prop := ∃ (cur : Array Value) (cap : Nat), r_ w b cur 49 /\ cur.size = cap * 15
theorem NodeRow.of_heap {w w' : World} {b : Nat} (h : NodeRow w b) (e : w'.heap[b]? = w.heap[b]?) : NodeRow w' b := let ⟨cur, cap, h1, h2⟩ := h; ⟨cur, cap, e.trans h1, h2⟩
structure CopyRowsR (wr : World) (S : Nat) (n : Nat) (ob : Option Nat) (l : List NodeT) (R : List (NodeT × Value)) : Prop where
 fst : R.map Prod.fst = jEz l
 args : ∀ (k : Nat) (r : NodeT × Value), R[k]? = some r -> ∃ n', n = n' + 1 /\ ArgsS (fun b => (S <= b /\ ob ≠ some b) /\ NodeRow wr b) wr n' r.2 r.1.args
structure CopyStR (w : World) (n : Nat) (t2 : NodeT) (l : List NodeT) (wr : World) (i : Nat) (va : Option Addr) (vn vc : Nat) : Prop where
 box : NodeAt wr w.heap.size 0 t2 va vn vc
 f14 : wr.frozen? ⟨w.heap.size, 14, none⟩ = false
 res : ∃ cs, r_ wr (w.heap.size + 1) cs 49 /\ cs.size = 15
 ob : ∀ g, (Value.slice va vn vc).ownBlock = some g -> w.heap.size + 2 <= g
 rows : ∃ R, wr.ownsRow 0 49 15 (.slice va vn vc) i (R.flatMap rowC) /\ CopyRowsR wr (w.heap.size + 2) n (Value.slice va vn vc).ownBlock (l.take i) R
 xt : Xt w wr
theorem jKa {w w0 : World} {t : NodeT} {a : Option Addr} {m cap : Nat} (n ox : Nat) (l : List NodeT) (hc : NodeAt w0 w.heap.size 0 t a m cap) (hs : w0.heap.size = w.heap.size + 1) (hf : w0.frozen? ⟨w.heap.size, 14, none⟩ = false) (hg : Gr w w0) :
    CopyStR w n (.mk t.kind t.op ox t.s t.b t.f t.ref t.to t.args) l (((w0.setCell ⟨w.heap.size, 2, none⟩ (.float .f64 ox)).setCell ⟨w.heap.size, 14, none⟩ (.slice none 0 0)).alloc (.cells zN 49)) 0 none 0 0 := by
 obtain ⟨w1, hw1⟩ := e_ (w0.setCell ⟨w.heap.size, 2, none⟩ (.float .f64 ox));rw [hw1];obtain ⟨w2, hw2⟩ := e_ (w1.setCell ⟨w.heap.size, 14, none⟩ (.slice none 0 0));rw [hw2];have s1 : w1.heap.size = w.heap.size + 1 := (by rw [<- hw1]; simpa using hs);have s2 : w2.heap.size = w.heap.size + 1 := (by rw [<- hw2]; simpa using s1);have k1 : ∀ o v, o ≠ 2 -> w0.cell? ⟨w.heap.size, o, none⟩ = some v -> w1.cell? ⟨w.heap.size, o, none⟩ = some v := fun o v ho h => by
  rw [<- hw1]; exact (o_ w0 _ _ _ (by intro e; cases e; exact ho rfl)).trans h
 have k2 : ∀ o v, o ≠ 14 -> w1.cell? ⟨w.heap.size, o, none⟩ = some v -> w2.cell? ⟨w.heap.size, o, none⟩ = some v := fun o v ho h => by
  rw [<- hw2]; exact (o_ w1 _ _ _ (by intro e; cases e; exact ho rfl)).trans h
 have k3 : ∀ o v (ob : Obj), w2.cell? ⟨w.heap.size, o, none⟩ = some v -> (w2.alloc ob).cell? ⟨w.heap.size, o, none⟩ = some v := fun o v ob h =>
  (d_ (w := w2) (a := ⟨w.heap.size, o, none⟩) (Below.heap_alloc w2 ob _ (by show w.heap.size < _; omega))).trans h
 have x1 : Xt w w1 := (by rw [<- hw1]; exact hg.xt.grownB (yiv _ _ _ _) (fun m hm => by cases hm; exact Nat.le_refl _));have x2 : Xt w w2 := (by rw [<- hw2]; exact x1.grownB (yiv _ _ _ _) (fun m hm => by cases hm; exact Nat.le_refl _));refine ⟨⟨?_, ?_, ?_, ?_, ?_, ?_, ?_, ?_, ?_, ?_, ?_, ?_, ?_, ?_, ?_⟩, ?_, ?_, fun g hg => (by cases hg), ⟨[], ?_, ?_, fun k r hk => (by simp at hk)⟩, x2.alloc _⟩
 . exact k3 _ _ _ (k2 _ _ (by omega) (k1 _ _ (by omega) hc.c0))
 . exact k3 _ _ _ (k2 _ _ (by omega) (k1 _ _ (by omega) hc.c1))
 . refine k3 _ _ _ (k2 _ _ (by omega) ?_);rw [<- hw1, Nat.zero_add]; exact World.cell?_setCell_same' w0 _ _ (by have := hc.c2; rw [Nat.zero_add] at this; rw [this]; rfl)
 . exact k3 _ _ _ (k2 _ _ (by omega) (k1 _ _ (by omega) hc.c3))
 . exact k3 _ _ _ (k2 _ _ (by omega) (k1 _ _ (by omega) hc.c4))
 . exact k3 _ _ _ (k2 _ _ (by omega) (k1 _ _ (by omega) hc.c5))
 . exact k3 _ _ _ (k2 _ _ (by omega) (k1 _ _ (by omega) hc.c6))
 . exact k3 _ _ _ (k2 _ _ (by omega) (k1 _ _ (by omega) hc.c7))
 . exact k3 _ _ _ (k2 _ _ (by omega) (k1 _ _ (by omega) hc.c8))
 . exact k3 _ _ _ (k2 _ _ (by omega) (k1 _ _ (by omega) hc.c9))
 . exact k3 _ _ _ (k2 _ _ (by omega) (k1 _ _ (by omega) hc.c10))
 . exact k3 _ _ _ (k2 _ _ (by omega) (k1 _ _ (by omega) hc.c11))
 . exact k3 _ _ _ (k2 _ _ (by omega) (k1 _ _ (by omega) hc.c12))
 . exact k3 _ _ _ (k2 _ _ (by omega) (k1 _ _ (by omega) hc.c13))
 . refine k3 _ _ _ ?_;have h14 := k1 _ _ (by omega) hc.c14;rw [Nat.zero_add] at h14;rw [<- hw2, Nat.zero_add]; exact World.cell?_setCell_same' w1 _ _ (by rw [h14]; rfl)
 . have q1 : w1.frozen? ⟨w.heap.size, 14, none⟩ = false := (by rw [<- hw1]; simp [hf]);have q2 : w2.frozen? ⟨w.heap.size, 14, none⟩ = false := (by rw [<- hw2]; simp [q1]);exact (f_ (w := w2) (a := ⟨w.heap.size, 14, none⟩) (Below.heap_alloc w2 _ _ (by show w.heap.size < _; omega))).trans q2
 . rw [<- s2]; exact ⟨_, (a_ w2 _).1, rfl⟩
 . exact World.ownsRow_nil _ _ _ _
 . rfl
def oneR (n cur : List UInt8) : List UInt8 -> Bool
 | [] => (cur == n) && !(n == [])
 | c :: r => if c = 32 then ((cur == n) && !(n == [])) || oneR n [] r else oneR n (cur ++ [c]) r
def zdd (n L : List UInt8) (f i : Nat) : Bool := if i <= L.length then oneR n ((L.drop f).take (i - f)) (L.drop i) else false
theorem yoJ (n L : List UInt8) (f : Nat) : zdd n L f L.length = (((L.drop f).take (L.length - f) == n) && !(n == [])) := by
 unfold zdd; rw [if_pos (Nat.le_refl _), List.drop_length]; rfl
theorem zHS {L : List UInt8} {i : Nat} {c : UInt8} (n : List UInt8) (f : Nat) (hc : L[i]? = some c) (hf : f <= i) (h : c ≠ 32) : zdd n L f i = zdd n L f (i + 1) := by
 have hi : i < L.length := (List.getElem?_eq_some_iff.1 hc).1;unfold zdd;rw [if_pos (by omega), if_pos (by omega), ykK hc, oneR, if_neg h];congr 1;rw [show i + 1 - f = (i - f) + 1 by omega, List.take_add_one, List.getElem?_drop, show f + (i - f) = i by omega, hc];rfl
theorem z4E {L : List UInt8} {i : Nat} (n : List UInt8) (f : Nat) (hc : L[i]? = some 32) : zdd n L f i = ((((L.drop f).take (i - f) == n) && !(n == [])) || zdd n L (i + 1) (i + 1)) := by
 have hi : i < L.length := (List.getElem?_eq_some_iff.1 hc).1;unfold zdd;rw [if_pos (by omega), if_pos (by omega), ykK hc, oneR, if_pos rfl];simp
theorem z02 (L : List UInt8) (f i : Nat) : ((⟨L.toArray⟩ : ByteArray).extract f i).toList = (L.drop f).take (i - f) := by
 rw [ByteArray.extract_mk]; simp
theorem yum (s : List UInt8) : (!s.isEmpty) = !(s == []) := by cases s <;> rfl
theorem jKm (s : ByteArray) (L : List UInt8) (hL : L.length < 1000000) (w : World) : Calls Tryz.prog 193 #[s, .string ⟨L.toArray⟩] w fun e w' => e = .returned (.bool (oneR s.toList [] L)) /\ w = w' := by
 have hsz : (⟨L.toArray⟩ : ByteArray).size = L.length := (by simp [ByteArray.size]);go_enter Tryz.func193, Tryz.ntmps193;go_wp2_with fail
 go_loopw [5, 6] (fun s5 s6 wr => ∃ f i : Nat, f <= i /\ i <= L.length + 1 /\ f <= L.length + 1 /\ s5 = .int .i64 f /\ s6 = .int .i64 i /\ wr = w /\ Hid (oneR s.toList [] L = zdd s.toList L f i)) (fun _ s6 _ => L.length + 1 - (intOf s6).toNat)
 case atStart => exact ⟨0, 0, Nat.le_refl _, by omega, by omega, rfl, rfl, rfl, by unfold Hid zdd; simp⟩
 case round =>
  obtain ⟨f, i, hf, hi, hf2, rfl, rfl, rfl, HS⟩ := hrel;by_cases h1 : i <= L.length
  . by_cases h2 : i = L.length
    . subst h2;have HE := h_ (yoJ s.toList L f);go_wp2_with fail
      . rename_i e1 e2;go_ret;refine ⟨?_, rfl⟩;rw [HS.out, HE.out, <- z02, e1, <- yum, e2];simp
      . rename_i e1 e2;refine ⟨⟨L.length + 1, L.length + 1, Nat.le_refl _, Nat.le_refl _, Nat.le_refl _, by go_num, by go_num, trivial, ?_⟩, by simp [intOf]⟩;unfold Hid;rw [HS.out, HE.out, <- yum, e2, Bool.and_false];unfold zdd;rw [if_neg (by omega)]
      . rename_i e1;refine ⟨⟨L.length + 1, L.length + 1, Nat.le_refl _, Nat.le_refl _, Nat.le_refl _, by go_num, by go_num, trivial, ?_⟩, by simp [intOf]⟩;unfold Hid;rw [HS.out, HE.out, <- z02, q_ e1, Bool.false_and];unfold zdd;rw [if_neg (by omega)]
    . obtain ⟨c, hc⟩ : ∃ c, L[i]? = some c := ⟨L[i]'(by omega), by simp⟩;have hil : (i : Int) < (L.length : Int) := (by omega);have hne : ((i : Int) == (L.length : Int)) = false := (by simp; omega);have hby : ((⟨L.toArray⟩ : ByteArray)[i]'(by rw [hsz]; omega)) = c := by
       have := (List.getElem?_eq_some_iff.1 hc).2;rw [<- this]; rfl
      by_cases h3 : c = 32
      . subst h3;have hb : ((((⟨L.toArray⟩ : ByteArray)[i]'(by rw [hsz]; omega)).toNat : Int) == 32) = true := (by rw [hby]; rfl);have HE := h_ (z4E s.toList f hc);clear hby hc;go_wp2_with fail
        . rename_i e1 e2;go_ret;refine ⟨?_, rfl⟩;rw [HS.out, HE.out, <- z02, e1, <- yum, e2];simp
        . rename_i e1 e2;refine ⟨⟨i + 1, i + 1, Nat.le_refl _, by omega, by omega, by go_num, by go_num, trivial, ?_⟩, by simp [intOf]; omega⟩;unfold Hid;rw [HS.out, HE.out, <- yum, e2, Bool.and_false, Bool.false_or]
        . rename_i e1;refine ⟨⟨i + 1, i + 1, Nat.le_refl _, by omega, by omega, by go_num, by go_num, trivial, ?_⟩, by simp [intOf]; omega⟩;unfold Hid;rw [HS.out, HE.out, <- z02, q_ e1, Bool.false_and, Bool.false_or]
      . have hb : ((((⟨L.toArray⟩ : ByteArray)[i]'(by rw [hsz]; omega)).toNat : Int) == 32) = false := by
         rw [hby, beq_eq_false_iff_ne];intro h;exact h3 (UInt8.toNat_inj.1 (by have : (32 : UInt8).toNat = 32 := rfl; omega))
        have HE := h_ (zHS s.toList f hc hf h3);clear hby hc;go_wp2_with fail
        all_goals
         refine ⟨⟨f, i + 1, by omega, by omega, by omega, by go_num, by go_num, trivial, ?_⟩, by simp [intOf]; omega⟩;unfold Hid;rw [HS.out, HE.out]
  . have he : i = L.length + 1 := (by omega);subst he;have HE : Hid (zdd s.toList L f (L.length + 1) = false) := (by unfold Hid zdd; rw [if_neg (by omega)]);go_wp2_with fail;go_ret;exact ⟨by rw [HS.out, HE.out]; rfl, rfl⟩
def bAt (L : List UInt8) (i : Nat) : Nat := (L.getD i 0).toNat
theorem zKp (L : List UInt8) (i : Nat) : bAt L i < 256 := (L.getD i 0).toNat_lt
theorem bAt_eq {L : List UInt8} {i : Nat} (h : i < (⟨L.toArray⟩ : ByteArray).size) : ((⟨L.toArray⟩ : ByteArray)[i]'h).toNat = bAt L i := by
 have hl : i < L.length := (by simpa [ByteArray.size] using h);unfold bAt;rw [List.getD_eq_getElem?_getD, j_ hl];rfl
theorem ydI {L : List UInt8} {i : Nat} (hi : i < L.length) : Lib.validD (L.drop i) =
    if (Lib.decodeN (L.length - i) (bAt L i) (bAt L (i + 1)) (bAt L (i + 2)) (bAt L (i + 3))).1 = 65533 /\ (Lib.decodeN (L.length - i) (bAt L i) (bAt L (i + 1)) (bAt L (i + 2)) (bAt L (i + 3))).2 = 1 then false
    else Lib.validD (L.drop (i + (Lib.decodeN (L.length - i) (bAt L i) (bAt L (i + 1)) (bAt L (i + 2)) (bAt L (i + 3))).2)) := by
 have hne : L.drop i ≠ [] := (by intro h; have := congrArg List.length h; simp at this; omega);have g : ∀ k, (L.drop i).getD k 0 = L.getD (i + k) 0 := fun k => by simp [List.getD_eq_getElem?_getD]
 have hd : Lib.decodeL (L.drop i) = Lib.decodeN (L.length - i) (bAt L i) (bAt L (i + 1)) (bAt L (i + 2)) (bAt L (i + 3)) := by
  rw [Lib.decodeL_N, List.length_drop, g, g, g, g]; rfl
 rw [Lib.validD_step _ hne, hd, List.drop_drop]
def zun (b : Nat -> Nat) (c : Nat) : Nat -> Nat
 | 0 => c
 | k + 1 => zun b c k * 64 + b (k + 1) - 128
structure Lead (b0 m least c : Nat) : Prop where
 out : (m = 1 /\ least = 128 /\ 194 <= b0 /\ b0 < 224 /\ c = b0 - 192) \/ (m = 2 /\ least = 2048 /\ 224 <= b0 /\ b0 < 240 /\ c = b0 - 224) \/ (m = 3 /\ least = 65536 /\ 240 <= b0 /\ b0 < 245 /\ c = b0 - 240)
theorem yU0 {L : List UInt8} {i : Nat} (hi : i < L.length) (h : bAt L i < 128) : Lib.validD (L.drop i) = Lib.validD (L.drop (i + 1)) := by
 rw [ydI hi];unfold Lib.decodeN;rw [if_pos h];simp only;rw [if_neg (by omega)]
theorem ytU {L : List UInt8} {i : Nat} (hi : i < L.length) (h : 128 <= bAt L i) (h2 : ¬ (194 <= bAt L i /\ bAt L i < 245)) : Lib.validD (L.drop i) = false := by
 have hb := zKp L i;rw [ydI hi, if_pos];generalize bAt L i = b0 at *;unfold Lib.decodeN
 repeat' split
 all_goals first | exact ⟨rfl, rfl⟩ | (exfalso; omega)
theorem jBb {L : List UInt8} {i m least c k : Nat} (hi : i < L.length) (hl : Lead (bAt L i) m least c) (hk : 1 <= k) (hkm : k <= m) (h : L.length <= i + k \/ bAt L (i + k) < 128 \/ 191 < bAt L (i + k)) : Lib.validD (L.drop i) = false := by
 rw [ydI hi, if_pos];have hkk : k = 1 \/ k = 2 \/ k = 3 := by rcases hl.out with h | h | h <;> omega
 have hb1 := zKp L (i + 1);have hb2 := zKp L (i + 2);have hb3 := zKp L (i + 3);have hlo := hl.out;clear hl;rcases hkk with rfl | rfl | rfl
 all_goals
  generalize bAt L i = b0 at *;generalize bAt L (i + 1) = b1 at *;generalize bAt L (i + 2) = b2 at *;generalize bAt L (i + 3) = b3 at *;unfold Lib.decodeN
  repeat' split
  all_goals first | exact ⟨rfl, rfl⟩ | (exfalso; omega)
theorem dec1 {n b0 b1 b2 b3 : Nat} (h0 : 194 <= b0) (h0' : b0 < 224) (hn : 1 < n) (h1 : 128 <= b1) (h1' : b1 <= 191) :
    (((b0 - 192) * 64 + b1 - 128 < 128 \/ 1114111 < (b0 - 192) * 64 + b1 - 128 \/ (55296 <= (b0 - 192) * 64 + b1 - 128 /\ (b0 - 192) * 64 + b1 - 128 < 57344)) /\ Lib.decodeN n b0 b1 b2 b3 = (65533, 1)) \/
    (¬ ((b0 - 192) * 64 + b1 - 128 < 128 \/ 1114111 < (b0 - 192) * 64 + b1 - 128 \/ (55296 <= (b0 - 192) * 64 + b1 - 128 /\ (b0 - 192) * 64 + b1 - 128 < 57344)) /\ (Lib.decodeN n b0 b1 b2 b3).2 = 2) := by
 unfold Lib.decodeN
 repeat' split
 all_goals first | (exfalso; omega) | exact Or.inr ⟨by omega, rfl⟩ | exact Or.inl ⟨by omega, rfl⟩
theorem dec2 {n b0 b1 b2 b3 : Nat} (h0 : 224 <= b0) (h0' : b0 < 240) (hn : 2 < n) (h1 : 128 <= b1) (h1' : b1 <= 191) (h2 : 128 <= b2) (h2' : b2 <= 191) :
    ((((b0 - 224) * 64 + b1 - 128) * 64 + b2 - 128 < 2048 \/ 1114111 < ((b0 - 224) * 64 + b1 - 128) * 64 + b2 - 128 \/ (55296 <= ((b0 - 224) * 64 + b1 - 128) * 64 + b2 - 128 /\ ((b0 - 224) * 64 + b1 - 128) * 64 + b2 - 128 < 57344)) /\ Lib.decodeN n b0 b1 b2 b3 = (65533, 1)) \/
    (¬ (((b0 - 224) * 64 + b1 - 128) * 64 + b2 - 128 < 2048 \/ 1114111 < ((b0 - 224) * 64 + b1 - 128) * 64 + b2 - 128 \/ (55296 <= ((b0 - 224) * 64 + b1 - 128) * 64 + b2 - 128 /\ ((b0 - 224) * 64 + b1 - 128) * 64 + b2 - 128 < 57344)) /\ (Lib.decodeN n b0 b1 b2 b3).2 = 3) := by
 unfold Lib.decodeN
 repeat' split
 all_goals first | (exfalso; omega) | exact Or.inr ⟨by omega, rfl⟩ | exact Or.inl ⟨by omega, rfl⟩
theorem dec3 {n b0 b1 b2 b3 : Nat} (h0 : 240 <= b0) (h0' : b0 < 245) (hn : 3 < n) (h1 : 128 <= b1) (h1' : b1 <= 191) (h2 : 128 <= b2) (h2' : b2 <= 191) (h3 : 128 <= b3) (h3' : b3 <= 191) :
    (((((b0 - 240) * 64 + b1 - 128) * 64 + b2 - 128) * 64 + b3 - 128 < 65536 \/ 1114111 < (((b0 - 240) * 64 + b1 - 128) * 64 + b2 - 128) * 64 + b3 - 128 \/ (55296 <= (((b0 - 240) * 64 + b1 - 128) * 64 + b2 - 128) * 64 + b3 - 128 /\ (((b0 - 240) * 64 + b1 - 128) * 64 + b2 - 128) * 64 + b3 - 128 < 57344)) /\ Lib.decodeN n b0 b1 b2 b3 = (65533, 1)) \/
    (¬ ((((b0 - 240) * 64 + b1 - 128) * 64 + b2 - 128) * 64 + b3 - 128 < 65536 \/ 1114111 < (((b0 - 240) * 64 + b1 - 128) * 64 + b2 - 128) * 64 + b3 - 128 \/ (55296 <= (((b0 - 240) * 64 + b1 - 128) * 64 + b2 - 128) * 64 + b3 - 128 /\ (((b0 - 240) * 64 + b1 - 128) * 64 + b2 - 128) * 64 + b3 - 128 < 57344)) /\ (Lib.decodeN n b0 b1 b2 b3).2 = 4) := by
 unfold Lib.decodeN
 repeat' split
 all_goals first | (exfalso; omega) | exact Or.inr ⟨by omega, rfl⟩ | exact Or.inl ⟨by omega, rfl⟩
theorem jM1 {L : List UInt8} {i m least c : Nat} (hi : i < L.length) (hl : Lead (bAt L i) m least c) (hc : ∀ k, 1 <= k -> k <= m -> i + k < L.length /\ 128 <= bAt L (i + k) /\ bAt L (i + k) <= 191) :
    Lib.validD (L.drop i) = if zun (fun k => bAt L (i + k)) c m < least \/ 1114111 < zun (fun k => bAt L (i + k)) c m \/ (55296 <= zun (fun k => bAt L (i + k)) c m /\ zun (fun k => bAt L (i + k)) c m < 57344) then false else Lib.validD (L.drop (i + 1 + m)) := by
 rw [ydI hi];have key : ∀ {p : Prop} [Decidable p] (d : Nat × Nat), ((p /\ d = (65533, 1)) \/ (¬ p /\ d.2 = m + 1)) -> 1 <= m -> (if d.1 = 65533 /\ d.2 = 1 then false else Lib.validD (L.drop (i + d.2))) = if p then false else Lib.validD (L.drop (i + 1 + m)) := by
  rintro p _ d (⟨hp, rfl⟩ | ⟨hp, hd⟩) hm
  . rw [if_pos hp, if_pos ⟨rfl, rfl⟩]
  . rw [if_neg hp, if_neg (by omega), hd, show i + (m + 1) = i + 1 + m by omega]
 rcases hl.out with ⟨rfl, rfl, q1, q2, rfl⟩ | ⟨rfl, rfl, q1, q2, rfl⟩ | ⟨rfl, rfl, q1, q2, rfl⟩
 . have h1 := hc 1 (by omega) (by omega);exact key _ (dec1 q1 q2 (by omega) h1.2.1 h1.2.2) (by omega)
 . have h1 := hc 1 (by omega) (by omega);have h2 := hc 2 (by omega) (by omega);exact key _ (dec2 q1 q2 (by omega) h1.2.1 h1.2.2 h2.2.1 h2.2.2) (by omega)
 . have h1 := hc 1 (by omega) (by omega);have h2 := hc 2 (by omega) (by omega);have h3 := hc 3 (by omega) (by omega);exact key _ (dec3 q1 q2 (by omega) h1.2.1 h1.2.2 h2.2.1 h2.2.2 h3.2.1 h3.2.2) (by omega)
end
end Go.Proofs.YtdoeejhdenifpaaGreatDoor
