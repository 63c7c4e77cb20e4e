import Derived.Test.YtdoeejhdenifpaaGreatDoorB1
import Derived.Sort.Statements
import Derived.Shelf.SlSortCmp.WholeK
import Derived.Sort.LotA
import Derived.MapKept
import Derived.RangeFuncNested
import Derived.Deep.RegionHeld
import Derived.RangeFuncCalls
import Derived.Deep.MidRow
import Derived.Laws.Tables
import Derived.OwnWalkIn
import Derived.BigFrameIn
namespace Go.Proofs.YtdoeejhdenifpaaGreatDoor
section
open Go.RowKit Go.Sort
def jix (a b : Ad) : Int := orI (cmpI a.2 b.2) (cmpI a.1 b.1)
def adLt (a b : Ad) : Bool := decide (a.2 < b.2) || (decide (a.2 = b.2) && decide (a.1 < b.1))
theorem z35 (a b : Ad) : decide (jix a b < 0) = adLt a b := by
 unfold jix adLt orI cmpI;by_cases h1 : a.2 < b.2
 . have : ¬ a.2 = b.2 := (by omega);simp [h1]
 . by_cases h2 : b.2 < a.2
   . have : ¬ a.2 = b.2 := (by omega);simp [h1, h2, this]
   . have : a.2 = b.2 := (by omega);by_cases h3 : a.1 < b.1
     . simp [this, h3]
     . by_cases h4 : b.1 < a.1 <;> simp [this, h3, h4]
theorem yFF (a b : Ad) : adLt a b = true ↔ a.2 < b.2 \/ a.2 = b.2 /\ a.1 < b.1 := by simp [adLt]
theorem jme (a b : Ad) : adLt a b = false ↔ ¬ (a.2 < b.2 \/ a.2 = b.2 /\ a.1 < b.1) := by rw [<- yFF]; simp
theorem swo_ad : SWO adLt where
 irrefl x := by rw [jme]; omega
 trans x y z h1 h2 := by rw [yFF] at *; omega
 ntrans x y z h1 h2 := by rw [jme] at *; omega
theorem tot_ad (x y : Ad) (h1 : adLt x y = false) (h2 : adLt y x = false) : x = y := by
 rw [jme] at *; rw [Prod.ext_iff]; omega
def yoF {α : Type} (lt : α -> α -> Bool) (l : List α) : List α := l.mergeSort fun x y => !lt y x
theorem jPW (x : Ad) : (adC x).length = 2 := rfl
theorem j4A (x : Ad) : ∀ v ∈ adC x, v.oneCell' = true := by intro v hv; simp [adC] at hv; rcases hv with rfl | rfl <;> rfl
end
section
open Go.RowKit Go.Sort Go.MapKept
section
variable {α : Type} {enc : α -> List Value} {k : Nat}
theorem jHe [Inhabited α] {w : World} {g : Nat} {T : TypeId} {cur : Array Value} {l : List α} (hk : ∀ x, (enc x).length = k) (hg : w.heap[g]? = some (.cells cur T (0, 0))) (ht : cur.toList.take (l.length * k) = l.flatMap enc) : HoldsK enc k w g 0 l.toArray := by
 intro t hts;rw [size_flatK] at hts;have htl : t < l.length * k := by simpa using hts
 have k0 : 0 < k := by rcases Nat.eq_zero_or_pos k with h | h; · subst h; simp at htl
                       . exact h
 have hj : t / k < l.length := (by rw [Nat.div_lt_iff_lt_mul k0]; exact htl);have hi : t % k < k := Nat.mod_lt _ k0;refine ⟨?_, ?_⟩
 . rw [get_flatK enc k _ t hts, Nat.zero_add, cell_of_row w g t cur T (0, 0) hg];have hf := zLf hk l (t / k) (t % k) l[t / k] (by simp [hj]) hi;rw [Nat.div_add_mod' t k, <- ht, List.getElem?_take, if_pos htl] at hf;have e1 : (enc (l.toArray[t / k]!)) = enc l[t / k] := (by rw [getElem!_pos _ _ (by simpa using hj)]; simp);rw [e1];have hl2 : t % k < (enc l[t / k]).length := (by rw [hk]; exact hi);rw [getElem!_pos (enc l[t / k]) (t % k) hl2];rw [j_ hl2] at hf;simpa using hf
 . simp [World.frozen?, hg]
theorem jHA (F cur : Array Value) (h : F.size <= cur.size) : (putCells id 0 F cur).size = cur.size /\ (putCells id 0 F cur).toList.take F.size = F.toList := by
 refine ⟨by simp [putCells], ?_⟩;apply List.ext_getElem?;intro i;rw [List.getElem?_take];by_cases hi : i < F.size
 . have hc : i < cur.size := (by omega);rw [if_pos hi, Array.getElem?_toList, Array.getElem?_toList];simp only [putCells, Array.getElem?_mapIdx, Array.getElem?_eq_getElem hc, Option.map_some, Nat.zero_le, Nat.zero_add, hi, and_self, if_true, id, Nat.sub_zero, Array.getElem?_eq_getElem hi];rw [getElem!_pos F i hi]
 . rw [if_neg hi];simp [Array.getElem?_eq_none (Nat.le_of_not_lt hi)]
theorem yo5 [Inhabited α] (hk : ∀ x, (enc x).length = k) (d : Array α) : (flatK enc k d).toList = d.toList.flatMap enc := by
 apply List.ext_getElem?;intro t;by_cases htl : t < d.size * k
 . have k0 : 0 < k := by rcases Nat.eq_zero_or_pos k with h | h; · subst h; simp at htl
                         . exact h
   have hj : t / k < d.size := (by rw [Nat.div_lt_iff_lt_mul k0]; exact htl);have hi : t % k < k := Nat.mod_lt _ k0;have hf := zLf hk d.toList (t / k) (t % k) d[t / k] (by simp [hj]) hi;rw [Nat.div_add_mod' t k] at hf;rw [hf, Array.getElem?_toList, Array.getElem?_eq_getElem (by simpa using htl), <- getElem!_pos (flatK enc k d) t (by simpa using htl), get_flatK enc k d t htl];rw [getElem!_pos d _ hj];have hl2 : t % k < (enc d[t / k]).length := (by rw [hk]; exact hi);rw [j_ hl2, getElem!_pos (enc d[t / k]) (t % k) hl2]
 . have h1 : (d.toList.flatMap enc).length = d.size * k := (by rw [yzv hk]; simp);rw [List.getElem?_eq_none (l := d.toList.flatMap enc) (by rw [h1]; omega), List.getElem?_eq_none (by simp; omega)]
theorem zxN (w : World) (m : Nat) : (Go.Sort.ahead w m).heap = w.heap := rfl
theorem zwC [Inhabited α] (hk : ∀ x, (enc x).length = k) {w : World} {g B : Nat} {T : TypeId} {cur : Array Value} {cap m : Nat} {d : Array α} {os : Array Obj} (hg : w.heap[g]? = some (.cells cur T (0, 0))) (hB : B <= g)
    (hn : d.size <= cap) (hc : cap <= maxLen) (hs : cur.size = cap * k) :
    (sortWorldK enc k w g 0 m d os).ownsRow B T k (.slice (some ⟨g, 0, none⟩) d.size cap) d.size (d.toList.flatMap enc) /\ w.grownBy (sortWorldK enc k w g 0 m d os) (some g) := by
 have hlt : g < w.heap.size := (g_ hg).1;have hF : (flatK enc k d).size <= cur.size := (by rw [size_flatK, hs]; exact Nat.mul_le_mul_right _ hn);obtain ⟨p1, p2⟩ := jHA (flatK enc k d) cur hF;have hh : (sortWorldK enc k w g 0 m d os).heap[g]? = some (.cells (putCells id 0 (flatK enc k d) cur) T (0, 0)) := by
  simp only [sortWorldK, grow, putRowK, putRow, mapBlock, zxN];rw [Array.getElem?_append_left (by simpa using hlt), Array.getElem?_modify, if_pos rfl, hg];rfl
 refine ⟨⟨by rw [yzv hk]; simp, Or.inr ⟨g, cap, _, rfl, hB, hh, hn, hc, by rw [p1, hs], ?_⟩⟩, ⟨rfl, rfl, rfl, ?_, fun i hi hne => ?_⟩⟩
 . rw [<- yo5 hk d, <- p2, size_flatK]
 . simp [sortWorldK, grow, putRowK, putRow, mapBlock]
 . simp only [sortWorldK, grow, putRowK, putRow, mapBlock, zxN];rw [Array.getElem?_append_left (by simpa using hi), Array.getElem?_modify, if_neg (fun e => hne (by rw [e]))]
end
end
section
open Go.RowKit Go.Sort
theorem jrx {w v : World} {cs : Array Value} {T : TypeId} (h : w.alloc (.cells cs T) = v) : ∃ k, w.heap.size = k /\ Xt w v /\ r_ v k cs T :=
 ⟨_, rfl, h ▸ (Xt.refl w).alloc _, h ▸ (MapKept.heap_alloc w _).1⟩
theorem rowX_ {w w' : World} (hx : Xt w w') {b : Nat} {o : Obj} (h : w.heap[b]? = some o) : w'.heap[b]? = some o := (hx.block b (Array.getElem?_eq_some_iff.1 h).1).trans h
theorem bx2 {w : World} {B : Nat} (hB : w.heap.size = B) (c0 c1 : Array Value) (T0 T1 : TypeId) : ∃ w0 w1, w.alloc (.cells c0 T0) = w0 /\ w0.heap.size = B + 1 /\ w0.alloc (.cells c1 T1) = w1 /\ w1.heap.size = B + 1 + 1 /\ Hid (Xt w w1) /\ Hid (w1.heap[B]? = some (.cells c0 T0 (0, 0))) /\ Hid (w1.heap[B + 1]? = some (.cells c1 T1 (0, 0))) := by
 subst hB;exact ⟨_, _, rfl, by simp, rfl, by simp, ((Xt.refl w).alloc _).alloc _, rowX_ ((Xt.refl _).alloc _) (MapKept.heap_alloc w _).1, by have h := (MapKept.heap_alloc (w.alloc (.cells c0 T0)) (.cells c1 T1)).1; rw [show (w.alloc (.cells c0 T0)).heap.size = w.heap.size + 1 from by simp] at h; exact h⟩
theorem bx4 {w : World} {B : Nat} (hB : w.heap.size = B) (c0 c1 c2 c3 : Array Value) (T0 T1 T2 T3 : TypeId) : ∃ w0 w1 w2 w3, w.alloc (.cells c0 T0) = w0 /\ w0.heap.size = B + 1 /\ w0.alloc (.cells c1 T1) = w1 /\ w1.heap.size = B + 1 + 1 /\ w1.alloc (.cells c2 T2) = w2 /\ w2.heap.size = B + 1 + 1 + 1 /\ w2.alloc (.cells c3 T3) = w3 /\ w3.heap.size = B + 1 + 1 + 1 + 1 /\ Hid (Xt w w3) /\ Hid (w3.heap[B]? = some (.cells c0 T0 (0, 0))) /\ Hid (w3.heap[B + 1]? = some (.cells c1 T1 (0, 0))) /\ Hid (w3.heap[B + 1 + 1]? = some (.cells c2 T2 (0, 0))) /\ Hid (w3.heap[B + 1 + 1 + 1]? = some (.cells c3 T3 (0, 0))) := by
 obtain ⟨w0, w1, e0, s0, e1, s1, hx, h0, h1⟩ := bx2 hB c0 c1 T0 T1;obtain ⟨w2, w3, e2, s2, e3, s3, hy, h2, h3⟩ := bx2 s1 c2 c3 T2 T3;exact ⟨w0, w1, w2, w3, e0, s0, e1, s1, e2, s2, e3, s3, hx.out.trans hy.out, rowX_ hy.out h0.out, rowX_ hy.out h1.out, h2, h3⟩
end
section
open Go.RowKit
section
variable {α : Type} {n : Nat} {P : Program}
def zXS (n : Nat) (P : Program) (g : Nat) (lb : Array Value) (encs : α -> Array Value) (Kp : World -> World -> Prop) (T : World -> α -> World -> Prop) (S Sp : List α -> Prop) (N : Nat) (w0 : World) : Prop :=
 ∀ (l : Nat) (J Jx : List α -> World -> Prop) (W : World), Below w0.heap.size w0 W -> AbidesFrom W.heap.size J -> AbidesFrom W.heap.size Jx ->
  (∀ pre x W1, J pre W1 -> (∃ V, J pre V /\ T V x W1) -> pre.length < N -> YieldAt Fence.wide (n - 1) P l (encs x) W1 fun e W' => (e = .returned (.bool true) /\ J (pre ++ [x]) W' /\ Kp W1 W') \/ (e = .returned (.bool false) /\ Jx (pre ++ [x]) W')) ->
  J [] W ->
  CallsIn Fence.wide n P g (#[.func (.yield l) #[] #[]] ++ lb) W fun e W' => (∃ v, e = .returned v) /\ ((∃ xs, S xs /\ J xs W') \/ (∃ pre, Sp pre /\ Jx pre W'))
structure Books (D : Nat) (L : Loop) (W : World) : Prop where
 loop : W.heap[D + 1]? = some (.loop L)
 late : W.heap[D]? = some (.deferred (some []))
theorem Books.lt {D : Nat} {L : Loop} {W : World} (h : Books D L W) : D + 1 < W.heap.size := (g_ h.loop).1
theorem Books.keep {D : Nat} {L : Loop} {W W' : World} (h : Books D L W) (k : KeepsFrom D W W') : Books D L W' := ⟨k.same _ _ (by omega) h.loop rfl, k.same _ _ (Nat.le_refl _) h.late rfl⟩
theorem Books.turn {D : Nat} {L L' : Loop} {W : World} (h : Books D L W) : Books D L' (W.putObj (D + 1) (.loop L')) := ⟨World.putObj_heap_same h.lt, (World.putObj_heap_other (by omega)).trans h.late⟩
theorem Books.abide {D : Nat} {L : Loop} {W W' : World} {row : Option Nat} (h : Books D L W) (hg : W.grownBy W' row) (hr : ∀ r, row = some r -> ∃ o : Obj, W.heap[r]? = some o /\ o.isWalk = true) : Books D L W' := by
 have key : ∀ (k : Nat) (o : Obj), W.heap[k]? = some o -> o.isWalk = false -> W'.heap[k]? = some o := fun k o hk ho => by
  refine (hg.block k (g_ hk).1 (fun e => ?_)).trans hk;obtain ⟨o', ho', hw⟩ := hr k e.symm;rw [hk] at ho'; cases ho'; rw [ho] at hw; cases hw
 exact ⟨key _ _ h.loop rfl, key _ _ h.late rfl⟩
theorem jF4 {g : Operand} {ps : Array Tmp} {assign body : Code} {Q : Exit -> Act -> World -> Prop} {a : Act} {w : World} (h1 : 1 <= n) {gf : Nat} {lb : Array Value} (hg : a.eval g = .func (.func gf) #[] lb) (eg : ∀ args w, (callFunc gf args).run P w = .ok (.enter gf args) w)
    {encs : α -> Array Value} {Kp : World -> World -> Prop} {T : World -> α -> World -> Prop} {S Sp : List α -> Prop} {N : Nat} {w0 : World} (hseq : zXS (n - 1) P gf lb encs Kp T S Sp N w0)
    (hKt : ∀ {A B C : World}, Kp A B -> Kp B C -> Kp A C) (hKb : ∀ (W : World) (l : Nat) (o o' : Obj), w.heap.size <= l -> W.heap[l]? = some o -> o.isCells = false -> o.isWalk = false -> Kp W (W.putObj l o')) (hb0 : Below w0.heap.size w0 w) (hps : ∀ x, (encs x).size = ps.size)
    (I : List α -> World -> Prop) (Ix : Code -> List α -> World -> Prop) (hI : OwnFrom w.heap.size I) (hIx : ∀ c, OwnFrom w.heap.size (Ix c)) (h0 : I [] w) (Ax : α -> Act -> World -> Prop) (hAx : ∀ x a', OwnFrom w.heap.size (fun (_ : Unit) W => Ax x a' W))
    (hassign : ∀ (l : Nat) (pre : List α) (x : α) (W : World) (K : Act -> World -> Prop), I pre W -> (∃ V, I pre V /\ T V x W) -> (∀ a' W', KeepsFrom w.heap.size W W' -> Kp W W' -> I pre W' -> Ax x a' W' -> K a' W') ->
     assign.wpIn (Fence.wide.inRound l) (n - 1 - 1) P (Exit.then K (fun _ _ _ => False)) { tmps := (ps.zip (encs x)).foldl (fun t (p, v) => t.setIfInBounds p v) a.tmps, defers := [] } W)
    (hbody : ∀ (l : Nat) (pre : List α) (x : α) (a' : Act) (W : World), w.heap.size <= l -> (∃ r, W.heap[l]? = some (.loop r)) -> I pre W -> Ax x a' W -> pre.length < N -> body.wpIn (Fence.wide.inRound l) (n - 1 - 1) P (ownPostG w.heap.size Kp I Ix (pre ++ [x]) W) a' W)
    (hdone : ∀ (D : Nat) (xs : List α) (W : World), w.heap.size <= D -> S xs -> I xs W -> W.heap[D]? = some (.deferred (some [])) -> Q .normal { a with defers := { target := .collected D, args := #[] } :: a.defers } W)
    (hstop : ∀ (D : Nat) (c : Code) (pre : List α) (W : World), w.heap.size <= D -> Sp pre -> Ix c pre W -> W.heap[D]? = some (.deferred (some [])) -> c.wpIn Fence.wide n P Q { a with defers := { target := .collected D, args := #[] } :: a.defers } W) :
    (Code.rangeFunc g ps assign body).wpIn Fence.wide n P Q a w := by
 refine wpIn_rangeFunc fun fn hfn => ?_
 let L : LoopState -> Option Code -> Loop := fun st pe => { state := st, pending := pe, fn, tmps := a.tmps, params := ps, assign, body, defers := w.heap.size }
 obtain ⟨V, hV⟩ := e_ ((w.alloc (.deferred (some []))).alloc (.loop (L .ready none)));have hVB : Books w.heap.size (L .ready none) V := by
  rw [<- hV];refine ⟨?_, (Below.heap_alloc _ _ _ (by simp)).trans (World.alloc_heap_new w _)⟩;have := World.alloc_heap_new (w.alloc (.deferred (some []))) (.loop (L .ready none))
  rwa [World.size_alloc] at this
 have hVs : V.heap.size = w.heap.size + 2 := (by rw [<- hV]; simp);have hVI : I [] V := (by rw [<- hV]; exact hI.alloc _ (hI.alloc _ h0));have hVb : Below w0.heap.size w0 V := (by rw [<- hV]; exact hb0.trans ((((Below.refl _ w).alloc (Nat.le_refl _) _).alloc (by simp) _).mono hb0.size));refine ⟨w.heap.size + 1, [{ target := .collected w.heap.size, args := #[] }], V, { target := .fn (.func gf) lb, args := #[.func (.yield (w.heap.size + 1)) #[] #[]] }, V, gf, #[.func (.yield (w.heap.size + 1)) #[] #[]] ++ lb, V, ?_, ?_, fun _ _ => trivial, by simp [invoke, go_sem, eg], fun _ => h1, ?_⟩
 . rw [<- hV]; exact run_enterLoop_outer _ _ _ _ _
 . simp only [resolve, hg]; simp [go_sem]
 have far : ∀ {A : World} {row : Option Nat}, (∀ r, row = some r -> V.heap.size <= r /\ ∃ o : Obj, A.heap[r]? = some o /\ o.isWalk = true) -> ∀ r, row = some r -> w.heap.size <= r /\ ∃ o : Obj, A.heap[r]? = some o /\ o.isCells = false := fun hr r e => by
  obtain ⟨hB, o, ho, hw⟩ := hr r e;exact ⟨by omega, o, ho, Obj.not_cells_of_walk hw⟩
 refine (hseq (w.heap.size + 1) (fun pre W => I pre W /\ Books w.heap.size (L .ready none) W) (fun pre W => ∃ c, Ix c pre W /\ Books w.heap.size (L .done (some c)) W) V hVb
  (fun s A B row hs hg' hr => ⟨hI s A B row hs.1 hg' (far hr), hs.2.abide hg' fun r e => (hr r e).2⟩)
  (fun s A B row hs hg' hr => let ⟨c, hc, hb⟩ := hs; ⟨c, hIx c s A B row hc hg' (far hr), hb.abide hg' fun r e => (hr r e).2⟩) ?_ ⟨hVI, hVB⟩).mono ?_
 . rintro pre x W ⟨hi, hb⟩ ⟨V0, hV0, ht⟩ hlen;have hy := run_yield (P := P) (args := encs x) hb.loop (hps x);refine ⟨fn, _, assign, body, hy, roundIn_of_wpIn hfn (hassign _ pre x W _ hi ⟨V0, hV0.1, ht⟩ ?_)⟩;intro a' Wa hka hpa hia haa;have hba := hb.keep hka;refine ⟨_, run_beginRound hba.loop rfl, ?_⟩;have hbb : Books w.heap.size { L .ready none with state := .busy } (Wa.putObj (w.heap.size + 1) (.loop { L .ready none with state := .busy })) := hba.turn;have hpb : Kp Wa (Wa.putObj (w.heap.size + 1) (.loop { L .ready none with state := .busy })) := hKb _ _ _ _ (by omega) hba.loop rfl rfl
   refine wpIn_mono (hbody _ pre x a' _ (by omega) ⟨_, hbb.loop⟩ (hI.putObj _ hia (by omega) hba.loop rfl) ((hAx x a').putObj (s := ()) _ haa (by omega) hba.loop rfl) hlen) ?_;have out : ∀ (jump : Option Code) (Wz : World), KeepsFrom w.heap.size (Wa.putObj (w.heap.size + 1) (.loop { L .ready none with state := .busy })) Wz ->
       (Instr.endRound (w.heap.size + 1) jump).run P Wz = .ok (.bool jump.isNone) (Wz.putObj (w.heap.size + 1) (.loop (L (if jump.isNone then .ready else .done) jump))) /\ Wz.heap[w.heap.size + 1]? = some (.loop { L .ready none with state := .busy }) /\ Books w.heap.size (L (if jump.isNone then .ready else .done) jump) (Wz.putObj (w.heap.size + 1) (.loop (L (if jump.isNone then .ready else .done) jump))) := fun jump Wz hkz =>
    have hbz := hbb.keep hkz
    ⟨run_endRound (P := P) jump hbz.loop, hbz.loop, hbz.turn⟩
   have gone : ∀ (c : Code) (Wz : World), KeepsFrom w.heap.size (Wa.putObj (w.heap.size + 1) (.loop { L .ready none with state := .busy })) Wz -> Ix c (pre ++ [x]) Wz ->
       (Instr.endRound (w.heap.size + 1) (some c)).run P Wz = .ok (.bool false) (Wz.putObj (w.heap.size + 1) (.loop (L .done (some c)))) /\ ∃ c', Ix c' (pre ++ [x]) (Wz.putObj (w.heap.size + 1) (.loop (L .done (some c)))) /\ Books w.heap.size (L .done (some c')) (Wz.putObj (w.heap.size + 1) (.loop (L .done (some c)))) := fun c Wz hkz hiz => by
    obtain ⟨q1, q2, q3⟩ := out (some c) Wz hkz;exact ⟨q1, c, (hIx c).putObj _ hiz (by omega) q2 rfl, q3⟩
   rintro e az Wz hz;cases e with
   | normal =>
    obtain ⟨hkz, hpz, hiz⟩ := hz;obtain ⟨q1, q2, q3⟩ := out none Wz hkz;exact ⟨_, _, q1, .inl ⟨rfl, ⟨hI.putObj _ hiz (by omega) q2 rfl, q3⟩, hKt hpa (hKt (hKt hpb hpz) (hKb _ _ _ _ (by omega) q2 rfl rfl))⟩⟩
   | ret => obtain ⟨q1, q2⟩ := gone .ret Wz hz.1 hz.2; exact ⟨_, _, q1, .inr ⟨rfl, q2⟩⟩
   | exit id => obtain ⟨q1, q2⟩ := gone (.exit id) Wz hz.1 hz.2; exact ⟨_, _, q1, .inr ⟨rfl, q2⟩⟩
   | goto t => obtain ⟨q1, q2⟩ := gone (.goto t) Wz hz.1 hz.2; exact ⟨_, _, q1, .inr ⟨rfl, q2⟩⟩
   | panic ch => exact hz.elim
   | outgrown => exact hz.elim
 . rintro e Wz ⟨⟨v, rfl⟩, (⟨xs, hS, hi, hb⟩ | ⟨pre, hSp, c, hi, hb⟩)⟩
   . exact ⟨none, _, run_endLoop (P := P) hb.loop (by simp [L]), hdone _ xs _ (Nat.le_refl _) hS (hI.putObj _ hi (by omega) hb.loop rfl) ((World.putObj_heap_other (by omega)).trans hb.late)⟩
   . exact ⟨some c, _, run_endLoop (P := P) hb.loop (by simp [L]), hstop _ c pre _ (Nat.le_refl _) hSp ((hIx c).putObj _ hi (by omega) hb.loop rfl) ((World.putObj_heap_other (by omega)).trans hb.late)⟩
end
def yUX (Q : Exit -> Act -> World -> Prop) : Exit -> Act -> World -> Prop
 | .panic _, _, _ => False
 | e, a, w => Q e a w
theorem yqv {Q : Exit -> Act -> World -> Prop} : ∀ e a w, yUX Q e a w -> Q e a w := fun e a w h => by
 cases e <;> first | exact h | exact h.elim
theorem jbR {l n : Nat} {P : Program} {f : FuncId} {args : Array Value} {w : World} {R : Ending -> World -> Prop} (h : Calls P f args w R) : CallsIn (Fence.wide.inRound l) n P f args w R := CallsIn.inRound l (callsIn_wide.2 h)
theorem j3n {l n : Nat} {P : Program} {row : String} {args : Array Value} {w : World} {R : Value -> World -> Prop} (h : Rows P row args w R) : RowsIn (Fence.wide.inRound l) n P row args w R :=
 fun c cs _ => let ⟨v, w', r, s⟩ := h c cs; ⟨v, w', r, stepsIn_wide.2 s⟩
theorem jho {l n : Nat} {P : Program} {o : Oper} {a : Act} {K K' : Act -> World -> Prop} {Q : Exit -> Act -> World -> Prop} (hK : ∀ a w, K a w -> K' a w) (r : Result Next) (h : o.upon P a K Q r) : o.uponIn (Fence.wide.inRound l) n P a K' Q r := by
 cases r with
 | ok x w' =>
  cases x with
  | value v => exact hK _ _ h
  | skip => exact hK _ _ h
  | defer d => exact hK _ _ h
  | enter f args =>
   refine ⟨(by intro e; cases e), jbR (Calls.mono h ?_)⟩;intro e w2 h2;cases e with
   | returned v => exact hK _ _ h2
   | panicked c => exact h2
   | outgrown => exact h2
  | row row args => exact ⟨(by intro e; cases e), j3n (Rows.mono h fun _ _ h2 => hK _ _ h2)⟩
  | _ => exact h.elim
 | halt x w' => cases x <;> first | exact h | exact h.elim
theorem jky {l n : Nat} {P : Program} {o : Oper} {a : Act} {w : World} {K K' : Act -> World -> Prop} {Q : Exit -> Act -> World -> Prop} (hd : ∀ c, o.op ≠ .defer c) (hK : ∀ a w, K a w -> K' a w) (h : o.wp P a w K Q) : o.wpIn (Fence.wide.inRound l) n P a w K' Q := by
 refine ⟨fun _ _ => trivial, ?_⟩;rw [Oper.semAt_eq _ _ _ hd];exact jho hK _ h
theorem jEe {l n : Nat} {P : Program} {ops : Array Oper} {Q : Exit -> Act -> World -> Prop} (hd : ∀ (i : Nat) (o : Oper), ops[i]? = some o -> ∀ c, o.op ≠ .defer c) (hQ : ∀ a w, ¬ Q .outgrown a w) : ∀ (is : List Nat) (a : Act) (w : World), wpOps P ops Q is a w -> wpOpsIn (Fence.wide.inRound l) n P ops Q is a w
 | [], _, _, h => h
 | i :: rest, a, w, h => by
  unfold wpOpsIn;unfold wpOps at h;split
  . rename_i e; rw [e] at h; exact jEe hd hQ rest a w h
  . rename_i o e;rw [e] at h;simp only at h;split
    . rename_i hw;rw [if_pos hw] at h;rcases h with h | ⟨_, a', w', h⟩
      . exact jky (hd i o e) (fun a w h => jEe hd hQ rest a w h) h
      . exact absurd h (hQ a' w')
    . rename_i hw;rw [if_neg hw] at h;exact ⟨fun _ _ => trivial, jEe hd hQ rest _ w h⟩
def jEy (ops : Array Oper) : Bool := ops.all fun o => match o.op with | .defer _ => false | _ => true
theorem j2D {ops : Array Oper} (h : jEy ops = true) : ∀ (i : Nat) (o : Oper), ops[i]? = some o -> ∀ c, o.op ≠ .defer c := fun i o hi c e => by
 have := Array.all_eq_true_iff_forall_mem.1 h o (Array.mem_of_getElem? hi);rw [e] at this;cases this
theorem zM3 {l n id : Nat} {P : Program} {ops : Array Oper} {Q : Exit -> Act -> World -> Prop} {S : World -> Prop} {a : Act} {w : World} (hm : P.follows .mixedOrders = true) (hd : jEy ops = true) (hQ : ∀ a w, ¬ Q .outgrown a w) (hS : S w.drew)
    (h : S w.drew -> wpAnyH P .any ops Q S ops.size (Array.replicate ops.size false) a w.drew) : (Code.region id ops true).wpIn (Fence.wide.inRound l) n P Q a w :=
 wpIn_region_draw fun t => by
  simp only [Region.schedule, hm, Bool.true_or, if_true];exact jEe (j2D hd) hQ _ _ _ (wpAny_sound ops.size t _ a _ (wpAny_of_held _ _ _ _ (h hS)))
theorem ysI {P : Program} (w : World) (d : Nat) (t : TypeId) (ps rs : Array TypeId) (v : Bool) (fn : Fn) (fi ca : Array Value) (h : P.underlying t = some (.func ps rs v)) :
    (Op.equalIn (d + 1) t (.func fn fi ca) .nilFunc).run P w = .ok false w := by simp [Op.equalIn, run_underlying h]
theorem jGY {P : Program} (w : World) (t : TypeId) (ps rs : Array TypeId) (v : Bool) (fn : Fn) (fi ca : Array Value) (h : P.underlying t = some (.func ps rs v)) :
    (binOp .eql t (.func fn fi ca) .nilFunc).run P w = .ok (.bool false) w := by
 simp only [binOp];simp [show Op.equal t (.func fn fi ca) .nilFunc = Op.equalIn (9999 + 1) t (.func fn fi ca) .nilFunc from rfl, ysI w 9999 t ps rs v fn fi ca h]
theorem jad {P : Program} {o : Oper} {a : Act} {w : World} (ty : TypeId) (x : Operand) (ho : o.op = .load ty x) (g : Nat) (hx : a.eval x = v_ g) (t : TypeId) (cs : Array Value) (fr : Nat × Nat) (d : TypeDesc) (hg : w.heap[g]? = some (.cells cs t fr))
    (hu : P.underlying ty = some d) (hd : (match d with | .struct _ | .array _ _ => true | _ => false) = true) (hi : (P.info? ty).map (·.size) = some cs.size) : (execOp a.eval o).run P w = .ok (.value (.agg cs)) w := by
 unfold execOp;simp only [ho, hx, Instr.loadAt, Instr.sureAddr, Sem.run_bind, Sem.run_pure, Result.andThen_ok, l_ w g t ty cs fr d hg hu hd hi]
theorem ySb {P : Program} {o : Oper} {a : Act} {w : World} (ty : TypeId) (x : Operand) (ho : o.op = .load ty x) (b off : Nat) (hx : a.eval x = .pointer (some ⟨b, off, none⟩)) (cs : List Value) (d : TypeDesc) (hc : w.rangeAt b off cs)
    (hu : P.underlying ty = some d) (hd : d.isRow = true) (hi : (P.info? ty).map (·.size) = some cs.length) : (execOp a.eval o).run P w = .ok (.value (.agg cs.toArray)) w := by
 unfold execOp;simp only [ho, hx, Instr.loadAt, Instr.sureAddr, Sem.run_bind, Sem.run_pure, Result.andThen_ok, run_loadVar_mid w b off ty cs d hc hu hd hi]
section
variable {F : Fence} {n : Nat} {P : Program} {o : Oper} {a : Act} {w : World} {K : Act -> World -> Prop} {Q : Exit -> Act -> World -> Prop}
theorem jzi (ty : TypeId) (x : Operand) (ho : o.op = .load ty x) (g : Nat) (hx : a.eval x = v_ g) (t : TypeId) (cs : Array Value) (fr : Nat × Nat) (d : TypeDesc) (hg : w.heap[g]? = some (.cells cs t fr))
    (hu : P.underlying ty = some d) (hd : (match d with | .struct _ | .array _ _ => true | _ => false) = true) (hi : (P.info? ty).map (·.size) = some cs.size)
    (h : K (a.put o.dst (.agg cs)) w) : o.wpIn F n P a w K Q := by
 refine ⟨fun f hf => ?_, ?_⟩
 . simp [Oper.about, ho] at hf
 . rw [Oper.semAt_plain F _ _ (by rw [ho]; intro c hc'; cases hc')];unfold execOp;simp only [ho, hx, Instr.loadAt, Instr.sureAddr, Sem.run_bind, Sem.run_pure, Result.andThen_ok, l_ w g t ty cs fr d hg hu hd hi];exact h
theorem jGT (ty : TypeId) (x y : Operand) (ho : o.op = .store ty x y) (g : Nat) (cells : Array Value) (hx : a.eval x = v_ g) (hy : a.eval y = .agg cells)
    (t : TypeId) (old : Array Value) (hg : w.heap[g]? = some (.cells old t (0, 0))) (hi : (P.info? ty).map (·.size) = some cells.size)
    (hold : old.size = cells.size) (h1 : cells.all (·.oneCell') = true)
    (h : K (a.put o.dst undef) (w.setRow g cells)) : o.wpIn F n P a w K Q := by
 refine ⟨fun f hf => ?_, ?_⟩
 . simp [Oper.about, ho] at hf
 . rw [Oper.semAt_plain F _ _ (by rw [ho]; intro c hc'; cases hc')];unfold execOp;simp only [ho, hx, hy, Instr.storeAt, Instr.sureAddr, Sem.run_bind, Sem.run_pure, Result.andThen_ok, run_storeVar_row w g t ty old cells hg hi hold h1];exact h
end
section
variable {F : Fence} {n : Nat} {P : Program} {ops : Array Oper} {rest : List Oper} {o : Oper} {a : Act} {w : World} {Q : Exit -> Act -> World -> Prop}
theorem zm0 (hgd : o.guard = none) (ty : TypeId) (x y : Operand) (ho : o.op = .store ty x y) (g : Nat) (cells : Array Value) (hx : a.eval x = v_ g) (hy : a.eval y = .agg cells)
    (t : TypeId) (old : Array Value) (hg : w.heap[g]? = some (.cells old t (0, 0))) (hi : (P.info? ty).map (·.size) = some cells.size)
    (hold : old.size = cells.size) (h1 : cells.all (·.oneCell') = true)
    (h : wpListIn F n P ops Q rest (a.put o.dst undef) (w.setRow g cells)) : wpListIn F n P ops Q (o :: rest) a w :=
 wpListIn_plain hgd fun _ hK => jGT ty x y ho g cells hx hy t old hg hi hold h1 (hK _ _ h)
end
def FarFrom {β : Type} (B : Nat) (J : β -> World -> Prop) : Prop := ∀ s W W', J s W -> Below B W W' -> J s W'
section
variable {α : Type} {n : Nat} {P : Program}
theorem FarFrom.alloc {β : Type} {B : Nat} {J : β -> World -> Prop} (h : FarFrom B J) {s : β} {W : World} (o : Obj) (hs : J s W) (hB : B <= W.heap.size) : J s (W.alloc o) := h s W _ hs ((Below.refl _ _).alloc hB o)
theorem FarFrom.putObj {β : Type} {B : Nat} {J : β -> World -> Prop} (h : FarFrom B J) {s : β} {W : World} {l : Nat} (o' : Obj) (hs : J s W) (hl : B <= l) : J s (W.putObj l o') :=
 h s W _ hs ⟨(grownBy_putObj' W l o').os, (grownBy_putObj' W l o').tape, (grownBy_putObj' W l o').output, (grownBy_putObj' W l o').size, fun k hk => World.putObj_heap_other (by omega)⟩
theorem Books.far {D : Nat} {L : Loop} {W W' : World} (h : Books D L W) (hb : Below (D + 2) W W') : Books D L W' := ⟨(hb.block _ (by omega)).trans h.loop, (hb.block _ (by omega)).trans h.late⟩
end
structure Near (B : Nat) (W W' : World) : Prop where
 os : W'.os = W.os
 tape : W'.tape = W.tape
 output : W'.output = W.output
 size : W.heap.size <= W'.heap.size
 block : ∀ k, k < B -> W'.heap[k]? = W.heap[k]?
 small : ∀ k, W'.heap[k]? = W.heap[k]? \/ ∀ o u, W.cell? ⟨k, o, none⟩ = some u -> o <= 1
theorem Near.refl (B : Nat) (W : World) : Near B W W := ⟨rfl, rfl, rfl, Nat.le_refl _, fun _ _ => rfl, fun _ => Or.inl rfl⟩
theorem Near.trans {B : Nat} {X Y Z : World} (h : Near B X Y) (k : Near B Y Z) : Near B X Z :=
 ⟨k.os.trans h.os, k.tape.trans h.tape, k.output.trans h.output, Nat.le_trans h.size k.size, fun i hi => (k.block i hi).trans (h.block i hi), fun i => by
  rcases h.small i with e | e
  . rcases k.small i with e2 | e2
    . exact Or.inl (e2.trans e)
    . refine Or.inr fun o u hu => e2 o u ?_;exact (d_ (w := X) (a := ⟨i, o, none⟩) e).trans hu
  . exact Or.inr e⟩
theorem Near.mono {A B : Nat} {X Y : World} (h : Near B X Y) (hA : A <= B) : Near A X Y := ⟨h.os, h.tape, h.output, h.size, fun k hk => h.block k (by omega), h.small⟩
theorem Near.below {B : Nat} {X Y : World} (h : Near B X Y) : Below B X Y := ⟨h.os, h.tape, h.output, h.size, fun k hk => h.block k hk⟩
theorem Near.alloc {B : Nat} {X Y : World} (h : Near B X Y) (hB : B <= Y.heap.size) (o : Obj) : Near B X (Y.alloc o) :=
 ⟨h.os, h.tape, h.output, Nat.le_trans h.size (by simp), fun k hk => (Below.heap_alloc Y o _ (by omega)).trans (h.block k hk), fun k => by
  by_cases hk : k < Y.heap.size
  . rcases h.small k with e | e
    . exact Or.inl ((Below.heap_alloc Y o _ hk).trans e)
    . exact Or.inr e
  . refine Or.inr fun o u hu => ?_;have h1 : k < X.heap.size := b_ X _ hu;have h2 := h.size
    omega⟩
theorem Near.setCell {B k o : Nat} {X Y : World} (h : Near B X Y) (hk : B <= k) (hs : ∀ o u, X.cell? ⟨k, o, none⟩ = some u -> o <= 1) (v : Value) : Near B X (Y.setCell ⟨k, o, none⟩ v) :=
 ⟨h.os, h.tape, h.output, Nat.le_trans h.size (by simp), fun i hi => (s_ _ _ _ _ (by simp; omega)).trans (h.block i hi), fun i => by
  by_cases e : i = k
  . subst e; exact Or.inr hs
  . rcases h.small i with q | q
    . exact Or.inl ((s_ _ _ _ _ (by simpa using e)).trans q)
    . exact Or.inr q⟩
def NearFrom {β : Type} (B : Nat) (J : β -> World -> Prop) : Prop := ∀ s W W', J s W -> Near B W W' -> J s W'
section
variable {α : Type} {n : Nat} {P : Program}
def jUo (n : Nat) (P : Program) (g : Nat) (lb : Array Value) (encs : α -> Array Value) (Kp : World -> World -> Prop) (T : World -> α -> World -> Prop) (S Sp : List α -> Prop) (N : Nat) (w0 : World) : Prop :=
 ∀ (l : Nat) (J Jx : List α -> World -> Prop) (W : World), Below w0.heap.size w0 W -> NearFrom W.heap.size J -> NearFrom W.heap.size Jx ->
  (∀ pre x W1, J pre W1 -> (∃ V, J pre V /\ T V x W1) -> pre.length < N -> YieldAt Fence.wide (n - 1) P l (encs x) W1 fun e W' => (e = .returned (.bool true) /\ J (pre ++ [x]) W' /\ Kp W1 W') \/ (e = .returned (.bool false) /\ Jx (pre ++ [x]) W')) ->
  J [] W ->
  CallsIn Fence.wide n P g (#[.func (.yield l) #[] #[]] ++ lb) W fun e W' => (∃ v, e = .returned v) /\ ((∃ xs, S xs /\ J xs W') \/ (∃ pre, Sp pre /\ Jx pre W'))
theorem NearFrom.alloc {β : Type} {B : Nat} {J : β -> World -> Prop} (h : NearFrom B J) {s : β} {W : World} (o : Obj) (hs : J s W) (hB : B <= W.heap.size) : J s (W.alloc o) := h s W _ hs ((Near.refl _ _).alloc hB o)
theorem NearFrom.putObj {β : Type} {B : Nat} {J : β -> World -> Prop} (h : NearFrom B J) {s : β} {W : World} {l : Nat} (o' : Obj) (hs : J s W) (hl : B <= l) {o : Obj} (ho : W.heap[l]? = some o) (hc : o.isCells = false) : J s (W.putObj l o') :=
 h s W _ hs ⟨(grownBy_putObj' W l o').os, (grownBy_putObj' W l o').tape, (grownBy_putObj' W l o').output, (grownBy_putObj' W l o').size, fun k hk => World.putObj_heap_other (by omega), fun k => by
  by_cases e : k = l
  . subst e;refine Or.inr fun q u hu => ?_;rw [World.cell?] at hu;simp only [ho] at hu;cases o <;> simp_all [Obj.isCells]
  . exact Or.inl (World.putObj_heap_other e)⟩
theorem Books.near {D : Nat} {L : Loop} {W W' : World} (h : Books D L W) (hb : Near (D + 2) W W') : Books D L W' := ⟨(hb.block _ (by omega)).trans h.loop, (hb.block _ (by omega)).trans h.late⟩
theorem jbo {g : Operand} {ps : Array Tmp} {assign body : Code} {Q : Exit -> Act -> World -> Prop} {a : Act} {w : World} (h1 : 1 <= n) {gf : Nat} {lb : Array Value} (hg : a.eval g = .func (.func gf) #[] lb) (eg : ∀ args w, (callFunc gf args).run P w = .ok (.enter gf args) w)
    {encs : α -> Array Value} {Kp : World -> World -> Prop} {T : World -> α -> World -> Prop} {S Sp : List α -> Prop} {N : Nat} {w0 : World} (hseq : jUo (n - 1) P gf lb encs Kp T S Sp N w0)
    (hKt : ∀ {A B C : World}, Kp A B -> Kp B C -> Kp A C) (hKb : ∀ (W : World) (l : Nat) (o o' : Obj), w.heap.size <= l -> W.heap[l]? = some o -> o.isCells = false -> o.isWalk = false -> Kp W (W.putObj l o')) (hb0 : Below w0.heap.size w0 w) (hps : ∀ x, (encs x).size = ps.size)
    (I : List α -> World -> Prop) (Ix : Code -> List α -> World -> Prop) (hI : NearFrom w.heap.size I) (hIx : ∀ c, NearFrom w.heap.size (Ix c)) (h0 : I [] w) (Ax : α -> Act -> World -> Prop) (hAx : ∀ x a', OwnFrom w.heap.size (fun (_ : Unit) W => Ax x a' W))
    (hassign : ∀ (l : Nat) (pre : List α) (x : α) (W : World) (K : Act -> World -> Prop), I pre W -> (∃ V, I pre V /\ T V x W) -> (∀ a' W', KeepsFrom w.heap.size W W' -> Kp W W' -> I pre W' -> Ax x a' W' -> K a' W') ->
     assign.wpIn (Fence.wide.inRound l) (n - 1 - 1) P (Exit.then K (fun _ _ _ => False)) { tmps := (ps.zip (encs x)).foldl (fun t (p, v) => t.setIfInBounds p v) a.tmps, defers := [] } W)
    (hbody : ∀ (l : Nat) (pre : List α) (x : α) (a' : Act) (W : World), w.heap.size <= l -> (∃ r, W.heap[l]? = some (.loop r)) -> I pre W -> Ax x a' W -> pre.length < N -> body.wpIn (Fence.wide.inRound l) (n - 1 - 1) P (ownPostG w.heap.size Kp I Ix (pre ++ [x]) W) a' W)
    (hdone : ∀ (D : Nat) (xs : List α) (W : World), w.heap.size <= D -> S xs -> I xs W -> W.heap[D]? = some (.deferred (some [])) -> Q .normal { a with defers := { target := .collected D, args := #[] } :: a.defers } W)
    (hstop : ∀ (D : Nat) (c : Code) (pre : List α) (W : World), w.heap.size <= D -> Sp pre -> Ix c pre W -> W.heap[D]? = some (.deferred (some [])) -> c.wpIn Fence.wide n P Q { a with defers := { target := .collected D, args := #[] } :: a.defers } W) :
    (Code.rangeFunc g ps assign body).wpIn Fence.wide n P Q a w := by
 refine wpIn_rangeFunc fun fn hfn => ?_
 let L : LoopState -> Option Code -> Loop := fun st pe => { state := st, pending := pe, fn, tmps := a.tmps, params := ps, assign, body, defers := w.heap.size }
 obtain ⟨V, hV⟩ := e_ ((w.alloc (.deferred (some []))).alloc (.loop (L .ready none)));have hVB : Books w.heap.size (L .ready none) V := by
  rw [<- hV];refine ⟨?_, (Below.heap_alloc _ _ _ (by simp)).trans (World.alloc_heap_new w _)⟩;have := World.alloc_heap_new (w.alloc (.deferred (some []))) (.loop (L .ready none))
  rwa [World.size_alloc] at this
 have hVs : V.heap.size = w.heap.size + 2 := (by rw [<- hV]; simp);have hVI : I [] V := (by rw [<- hV]; exact hI.alloc _ (hI.alloc _ h0 (Nat.le_refl _)) (by simp));have hVb : Below w0.heap.size w0 V := (by rw [<- hV]; exact hb0.trans ((((Below.refl _ w).alloc (Nat.le_refl _) _).alloc (by simp) _).mono hb0.size));refine ⟨w.heap.size + 1, [{ target := .collected w.heap.size, args := #[] }], V, { target := .fn (.func gf) lb, args := #[.func (.yield (w.heap.size + 1)) #[] #[]] }, V, gf, #[.func (.yield (w.heap.size + 1)) #[] #[]] ++ lb, V, ?_, ?_, fun _ _ => trivial, by simp [invoke, go_sem, eg], fun _ => h1, ?_⟩
 . rw [<- hV]; exact run_enterLoop_outer _ _ _ _ _
 . simp only [resolve, hg]; simp [go_sem]
 refine (hseq (w.heap.size + 1) (fun pre W => I pre W /\ Books w.heap.size (L .ready none) W) (fun pre W => ∃ c, Ix c pre W /\ Books w.heap.size (L .done (some c)) W) V hVb
  (fun s A B hs hb => ⟨hI s A B hs.1 (hb.mono (by omega)), hs.2.near (hb.mono (by omega))⟩)
  (fun s A B hs hb => let ⟨c, hc, hk⟩ := hs; ⟨c, hIx c s A B hc (hb.mono (by omega)), hk.near (hb.mono (by omega))⟩) ?_ ⟨hVI, hVB⟩).mono ?_
 . rintro pre x W ⟨hi, hb⟩ ⟨V0, hV0, ht⟩ hlen;have hy := run_yield (P := P) (args := encs x) hb.loop (hps x);refine ⟨fn, _, assign, body, hy, roundIn_of_wpIn hfn (hassign _ pre x W _ hi ⟨V0, hV0.1, ht⟩ ?_)⟩;intro a' Wa hka hpa hia haa;have hba := hb.keep hka;refine ⟨_, run_beginRound hba.loop rfl, ?_⟩;have hbb : Books w.heap.size { L .ready none with state := .busy } (Wa.putObj (w.heap.size + 1) (.loop { L .ready none with state := .busy })) := hba.turn;have hpb : Kp Wa (Wa.putObj (w.heap.size + 1) (.loop { L .ready none with state := .busy })) := hKb _ _ _ _ (by omega) hba.loop rfl rfl
   refine wpIn_mono (hbody _ pre x a' _ (by omega) ⟨_, hbb.loop⟩ (hI.putObj _ hia (by omega) hba.loop rfl) ((hAx x a').putObj (s := ()) _ haa (by omega) hba.loop rfl) hlen) ?_;have out : ∀ (jump : Option Code) (Wz : World), KeepsFrom w.heap.size (Wa.putObj (w.heap.size + 1) (.loop { L .ready none with state := .busy })) Wz ->
       (Instr.endRound (w.heap.size + 1) jump).run P Wz = .ok (.bool jump.isNone) (Wz.putObj (w.heap.size + 1) (.loop (L (if jump.isNone then .ready else .done) jump))) /\ Wz.heap[w.heap.size + 1]? = some (.loop { L .ready none with state := .busy }) /\ Books w.heap.size (L (if jump.isNone then .ready else .done) jump) (Wz.putObj (w.heap.size + 1) (.loop (L (if jump.isNone then .ready else .done) jump))) := fun jump Wz hkz =>
    have hbz := hbb.keep hkz
    ⟨run_endRound (P := P) jump hbz.loop, hbz.loop, hbz.turn⟩
   have gone : ∀ (c : Code) (Wz : World), KeepsFrom w.heap.size (Wa.putObj (w.heap.size + 1) (.loop { L .ready none with state := .busy })) Wz -> Ix c (pre ++ [x]) Wz ->
       (Instr.endRound (w.heap.size + 1) (some c)).run P Wz = .ok (.bool false) (Wz.putObj (w.heap.size + 1) (.loop (L .done (some c)))) /\ ∃ c', Ix c' (pre ++ [x]) (Wz.putObj (w.heap.size + 1) (.loop (L .done (some c)))) /\ Books w.heap.size (L .done (some c')) (Wz.putObj (w.heap.size + 1) (.loop (L .done (some c)))) := fun c Wz hkz hiz => by
    obtain ⟨q1, q2, q3⟩ := out (some c) Wz hkz;exact ⟨q1, c, (hIx c).putObj _ hiz (by omega) q2 rfl, q3⟩
   rintro e az Wz hz;cases e with
   | normal =>
    obtain ⟨hkz, hpz, hiz⟩ := hz;obtain ⟨q1, q2, q3⟩ := out none Wz hkz;exact ⟨_, _, q1, .inl ⟨rfl, ⟨hI.putObj _ hiz (by omega) q2 rfl, q3⟩, hKt hpa (hKt (hKt hpb hpz) (hKb _ _ _ _ (by omega) q2 rfl rfl))⟩⟩
   | ret => obtain ⟨q1, q2⟩ := gone .ret Wz hz.1 hz.2; exact ⟨_, _, q1, .inr ⟨rfl, q2⟩⟩
   | exit id => obtain ⟨q1, q2⟩ := gone (.exit id) Wz hz.1 hz.2; exact ⟨_, _, q1, .inr ⟨rfl, q2⟩⟩
   | goto t => obtain ⟨q1, q2⟩ := gone (.goto t) Wz hz.1 hz.2; exact ⟨_, _, q1, .inr ⟨rfl, q2⟩⟩
   | panic ch => exact hz.elim
   | outgrown => exact hz.elim
 . rintro e Wz ⟨⟨v, rfl⟩, (⟨xs, hS, hi, hb⟩ | ⟨pre, hSp, c, hi, hb⟩)⟩
   . exact ⟨none, _, run_endLoop (P := P) hb.loop (by simp [L]), hdone _ xs _ (Nat.le_refl _) hS (hI.putObj _ hi (by omega) hb.loop rfl) ((World.putObj_heap_other (by omega)).trans hb.late)⟩
   . exact ⟨some c, _, run_endLoop (P := P) hb.loop (by simp [L]), hstop _ c pre _ (Nat.le_refl _) hSp ((hIx c).putObj _ hi (by omega) hb.loop rfl) ((World.putObj_heap_other (by omega)).trans hb.late)⟩
end
end
end Go.Proofs.YtdoeejhdenifpaaGreatDoor
