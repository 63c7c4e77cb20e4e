import Derived.Test.YtdoeejhdenifpaaGreatDoorA8
import Derived.Shelf.SlMaps.Clone
import Derived.Shelf.SlIter.Keys
import Derived.RangeFuncNested
import Derived.RangeFuncBound
import Derived.RangeFuncCalls
import Derived.RangeFuncLeaves
import Derived.Shelf.RegionOpen
import Derived.OwnWalkIn
import Derived.TacticsInMore
import Derived.LoopNIn
import Derived.LoopIn
import Derived.Maps.AppendAt
import Derived.Shelf.Abstract
import Derived.Test.YtdoeejhdenifpaaGreatDoorProg
import Derived.Shelf.SlSortCmp.WholeK
import Derived.Shelf.SlicesE.Clone
import Derived.Test.YtdoeejhdenifpaaGreatDoorA1
import Derived.Sort.LotA
import Derived.Test.YtdoeejhdenifpaaGreatDoorA4
import Derived.Shelf.SlSortCmp.NoneTotal
namespace Go.Proofs.YtdoeejhdenifpaaGreatDoor
open Go.RowKit Go.Sort Go.Maps Go.Shelf
set_option maxHeartbeats 2000000 in
set_option maxRecDepth 100000 in
theorem mclone_any (b : Nat) (es : Array MapEntry) (clock : Nat) (w : World) (hb : w.heap[b]? = some (.map es clock)) :
    Calls Tryz.prog 72 #[.map (some b)] w fun e w' => e = .returned (.map (some w.heap.size)) ∧ w' = w.alloc (.map es clock) := by
 have hq := fun w => run_eql_map_nil_sl (P := Tryz.prog) w 100 _ _ (some b) Tryz.underlying100
 go_enter Tryz.func72, Tryz.ntmps72
 go_wp2
 rw [run_callFunc_extern Tryz.func113 (by kernel_rfl) (by kernel_rfl) (by kernel_rfl) (e := Extern.MapsClone.clone) (by kernel_rfl), run_maps_clone_sl w 100 hb]
 simp only [Result.andThen]
 rw [Oper.upon_value]
 go_wp2
 rw [run_typeAssert_map_sl _ 100 _ _ _ _ Tryz.underlying100]
 simp only [Result.andThen]
 rw [Oper.upon_value]
 go_wp2
 go_ret
 exact ⟨rfl, rfl⟩
section
variable {F : Fence} {n : Nat} {P : Program} (w : World) {ops : Array Oper} {rest : List Oper} {o : Oper} {a : Act} {Q : Exit → Act → World → Prop}
theorem wpListIn_range_it (hg : o.guard = none) (m : Operand) (t k e : TypeId) (hop : o.op = Op.range t m) (ht : P.underlying t = some (.map k e)) (b : Nat) (E : List (Ad × Value)) (hm : a.eval m = .map (some b)) (h : MapIs w b E)
    (hK : ∀ w', IterIs w' w.heap.size b E E none → Gr w w' → w'.heap.size = w.heap.size + 1 → wpListIn F n P ops Q rest (a.put o.dst (.pointer (some ⟨w.heap.size, 0, none⟩))) w') :
    wpListIn F n P ops Q (o :: rest) a w := by
 refine wpListIn_plain hg fun K' hK' => ?_
 obtain ⟨w', hrun, r1, r2, r3⟩ := h.range (P := P) ht
 unfold Oper.wpIn
 refine ⟨?_, ?_⟩
 · simp [Oper.about, hop]
 · rw [Oper.semAt_plain F _ _ (by rw [hop]; intro c hc'; cases hc')]
   simp [execOp, hop, hm, hrun, Result.andThen]
   exact hK' _ _ (hK w' r1 r2 r3)
theorem wpListIn_next_it (hg : o.guard = none) (it : Operand) (hop : o.op = Op.next it false) (r b : Nat) (E left : List (Ad × Value)) (cur : Option (Ad × Value)) (hit : a.eval it = .pointer (some ⟨r, 0, none⟩)) (h : IterIs w r b E left cur)
    (hDone : left = [] → wpListIn F n P ops Q rest (a.put o.dst (.tuple #[.bool false])) w)
    (hMore : ∀ (c d : Int) (v : Value) l1 l2 w1, left = l1 ++ ((c, d), v) :: l2 → IterIs w1 r b E (l1 ++ l2) (some ((c, d), v)) → w.grownBy w1 (some r) → w1.heap.size = w.heap.size →
     (Instr.entry (.pointer (some ⟨r, 0, none⟩))).run P w1 = .ok (.tuple #[.agg #[.int .i64 c, .int .i64 d], v]) w1 → wpListIn F n P ops Q rest (a.put o.dst (.tuple #[.bool true, .agg #[.int .i64 c, .int .i64 d], v])) w1) :
    wpListIn F n P ops Q (o :: rest) a w := by
 refine wpListIn_plain hg fun K' hK' => ?_
 unfold Oper.wpIn
 refine ⟨by simp [Oper.about, hop], ?_⟩
 rw [Oper.semAt_plain F _ _ (by rw [hop]; intro c hc'; cases hc')]
 rcases h.next (P := P) o.type with ⟨h0, hrun⟩ | ⟨x, l1, l2, w1, hl, hrun, hI, hgr, hsz⟩
 · simp [execOp, hop, hit, hrun, Result.andThen]
   exact hK' _ _ (hDone h0)
 · simp [execOp, hop, hit, hrun, Result.andThen]
   exact hK' _ _ (hMore x.1.1 x.1.2 x.2 l1 l2 w1 hl hI hgr hsz hI.entry)
end
theorem IterIs.walks {w w' : World} {r b : Nat} {E left : List (Ad × Value)} {cur : Option (Ad × Value)} (h : IterIs w r b E left cur) (hk : KeepsWalks w w') : IterIs w' r b E left cur := by
 obtain ⟨es, clock, seen, h1, h2, h3, h4, h5⟩ := h
 exact ⟨es, clock, seen, hk.same b _ h1 rfl, h2, h3, hk.same r _ h4 rfl, h5⟩
theorem IterIs.isWalk {w : World} {r b : Nat} {E left : List (Ad × Value)} {cur : Option (Ad × Value)} (h : IterIs w r b E left cur) : ∃ o : Obj, w.heap[r]? = some o ∧ o.isWalk = true := by
 obtain ⟨es, clock, seen, h1, h2, h3, h4, h5⟩ := h
 exact ⟨_, h4, rfl⟩
theorem Gr.grown {w w' : World} (h : Gr w w') : w.grownBy w' none := by
 obtain ⟨q, os, rfl⟩ := h
 exact ⟨rfl, rfl, rfl, by simp [World.drewN], fun k hk _ => heap_grow_old _ _ hk⟩
noncomputable def itLeft (w : World) (b r : Nat) : Nat := match w.heap[b]?, w.heap[r]? with
 | some (.map es _), some (.mapIter _ _ seen _) => (leftOf es seen).size
 | _, _ => 0
theorem IterIs.itLeft {w : World} {r b : Nat} {E left : List (Ad × Value)} {cur : Option (Ad × Value)} (h : IterIs w r b E left cur) : itLeft w b r = left.length := by
 obtain ⟨es, clock, seen, h1, h2, h3, h4, h5, _⟩ := h
 simp only [YtdoeejhdenifpaaGreatDoor.itLeft, h1, h4]
 have := congrArg List.length h5
 simpa using this
abbrev adW (x : Ad) : Value := .agg #[.int .i64 x.1, .int .i64 x.2]
set_option maxRecDepth 100000 in
set_option maxHeartbeats 2000000 in
theorem keys1_in (F : Fence) (n : Nat) (hf : F.fn 152) (hro : F.round = none) (hn : 1 ≤ n) (l Bm b : Nat) (E : List (Ad × Value)) (J Jx : List Ad → World → Prop)
    (hY : ∀ pre x W, J pre W → pre.length < E.length → YieldAt F (n - 1) Tryz.prog l #[adW x] W fun e W' => (e = .returned (.bool true) ∧ J (pre ++ [x]) W' ∧ KeepsWalks W W') ∨ (e = .returned (.bool false) ∧ Jx (pre ++ [x]) W'))
    (W : World) (hJ : AbidesFrom W.heap.size J) (hm : W.cell? ⟨Bm, 0, none⟩ = some (.map (some b))) (hown : MapIs W b E) (h0 : J [] W) :
    CallsIn F n Tryz.prog 152 #[.func (.yield l) #[] #[], .pointer (some ⟨Bm, 0, none⟩)] W fun e W' => (∃ v, e = .returned v) ∧ ((∃ ks : List Ad, ks.Perm (E.map (·.1)) ∧ J ks W') ∨ (∃ pre, True ∧ Jx pre W')) := by
 refine callsIn_of_wp Tryz.func152 rfl hf ?_ hro
 simp only [Tryz.ntmps152, List.size_toArray, List.length_cons, List.length_nil, Nat.reduceAdd, Nat.reduceSub, Array.replicate_succ, Array.replicate_zero, List.push_toArray, List.append_toArray, List.nil_append, List.cons_append]
 gi_wp2_with (first
  | (gi_at_range; refine wpListIn_range_it _ rfl _ 100 24 51 rfl Tryz.underlying100 b E rfl hown ?_; intro w0 hI0 hg0 hs0)
  | gi_in)
 go_frame
 gi_loopw [3] (fun _ wr => ∃ (left : List (Ad × Value)) (cur : Option (Ad × Value)) (ks : List Ad), IterIs wr W.heap.size b E left cur ∧ Hid ((ks ++ left.map (·.1)).Perm (E.map (·.1))) ∧ J ks wr ∧ wr.heap.size ≥ W.heap.size)
  (fun _ wr => itLeft wr b W.heap.size)
 case atStart => exact ⟨E, none, [], hI0, by unfold Hid; simp, hJ [] W w0 none h0 hg0.grown (fun r e => by cases e), by omega⟩
 case round =>
  obtain ⟨left, cur, ks, hI, HP, hJs, hsz⟩ := hrel
  gi_wp2_with (first
   | (gi_at_next; refine wpListIn_next_it _ rfl _ rfl _ _ _ _ _ rfl hI ?_ ?_)
   | gi_in)
  · intro hl0
    subst hl0
    gi_wp2
    go_end0
    exact ⟨⟨_, rfl⟩, Or.inl ⟨ks, by have := HP.out; simpa using this, hJs⟩⟩
  · intro c d v l1 l2 w1 hl hI1 hg1 hs1 hen
    have HL := Lib.hid hl
    have hkl : ks.length < E.length := by
     have := HP.out.length_eq
     rw [hl] at this; simp at this; omega
    have hJ1 : J ks w1 := hJ ks wr w1 (some W.heap.size) hJs hg1 (fun r e => by cases e; exact ⟨Nat.le_refl _, hI.isWalk⟩)
    have hJ2 : J ks (w1.alloc (.cells #[.int .i64 c, .int .i64 d] 24)) := hJ ks w1 _ none hJ1 (World.grownBy_alloc w1 _ none) (fun r e => by cases e)
    obtain ⟨fn, tmps, assign, body, hy, hR⟩ := hY ks (c, d) _ hJ2 hkl
    have hI2 : IterIs (w1.alloc (.cells #[.int .i64 c, .int .i64 d] 24)) W.heap.size b E (l1 ++ l2) (some ((c, d), v)) := hI1.walks (KeepsWalks.alloc _ _)
    clear hl hs1
    (try dsimp only at hy)
    gi_wp2
    refine hR.mono ?_
    rintro e W3 (⟨rfl, hJ3, hk3⟩ | ⟨rfl, hJ3⟩)
    rotate_left
    · gi_wp2
      refine bodyPost_ret (results_none rfl _ _ _) rfl ?_
      exact ⟨⟨_, rfl⟩, Or.inr ⟨_, trivial, hJ3⟩⟩
    gi_wp2
    have hI3 := hI2.walks hk3
    have hs3 := hk3.size
    go_roundw
    case rel =>
     refine ⟨l1 ++ l2, _, ks ++ [(c, d)], hI3, ?_, hJ3, by have := hg1.size; simp at hs3; omega⟩
     refine List.Perm.trans ?_ HP.out
     rw [HL.out]
     simp only [List.map_append, List.map_cons, List.append_assoc, List.singleton_append]
     exact List.Perm.append_left _ List.perm_middle.symm
    case measure => rw [hI3.itLeft, hI.itLeft, HL.out]; simp
theorem keys_in (F : Fence) (n : Nat) (hf : F.fn 118) (hro : F.round = none) (mb : Option Nat) (w : World) :
    CallsIn F n Tryz.prog 118 #[.map mb] w fun e w' => e = .returned (.func (.func 152) #[] #[.pointer (some ⟨w.heap.size, 0, none⟩)]) ∧ w' = w.alloc (.cells #[.map mb] 100) := by
 refine callsIn_of_wp Tryz.func118 rfl hf ?_ hro
 simp only [Tryz.ntmps118, List.size_toArray, List.length_cons, List.length_nil, Nat.reduceAdd, Nat.reduceSub, Array.replicate_succ, Array.replicate_zero, List.push_toArray, List.append_toArray, List.nil_append, List.cons_append]
 gi_wp2
 go_ret
 exact ⟨rfl, rfl⟩
theorem keys_stops (F : Fence) (n : Nat) (hf : F.fn 152) (hro : F.round = none) (hn : 1 ≤ n) (Bm b : Nat) (E : List (Ad × Value)) (w : World) (hBm : Bm < w.heap.size) (hm : w.cell? ⟨Bm, 0, none⟩ = some (.map (some b))) (hown : MapIs w b E) :
    SeqStopsK F n Tryz.prog 152 #[.pointer (some ⟨Bm, 0, none⟩)] (fun x : Ad => #[adW x]) KeepsWalks (fun ks => ks.Perm (E.map (·.1))) (fun _ => True) E.length w := fun l J Jx W hW hJ _ hY h0 =>
 keys1_in F n hf hro hn l Bm b E J Jx hY W hJ ((hW.cell (p := ⟨Bm, 0, none⟩) hBm).trans hm) (hown.of_heap (hW.block b hown.lt)) h0
end Go.Proofs.YtdoeejhdenifpaaGreatDoor
namespace Go.Proofs.YtdoeejhdenifpaaGreatDoor
open Go.Shelf Go.RowKit Go.Lib Go.Sort
def Tryz.sortAd_ren : Go.Shelf.Ren := ⟨fun | 6 => 151 | 15 => 167 | 14 => 166 | 28 => 187 | 29 => 188 | 20 => 179 | 21 => 180 | 22 => 181 | 23 => 182 | 24 => 183 | 25 => 184 | 26 => 185 | 27 => 186 | 46 => 194 | 47 => 195 | 48 => 196 | 49 => 197 | 50 => 198 | 57 => 199 | n => n, fun | 22 => 80 | 24 => 24 | 25 => 142 | 3 => 3 | 39 => 184 | 0 => 0 | 53 => 207 | 55 => 159 | 4 => 4 | 46 => 201 | 45 => 200 | 50 => 117 | 5 => 5 | 9 => 9 | 66 => 213 | 70 => 217 | 76 => 219 | 77 => 90 | n => n, fun | n => n⟩
theorem Tryz.sortAd : Go.Proofs.SlLaysF0.n6 Tryz.prog Tryz.sortAd_ren := {
 mixed := by kernel_rfl
 f6 := ⟨Tryz.f151.name, by decide, Tryz.func151.trans (congrArg some (by kernel_rfl))⟩
 f14 := ⟨Tryz.f166.name, by decide, Tryz.func166.trans (congrArg some (by kernel_rfl))⟩
 f15 := Tryz.func167.trans (congrArg some (by kernel_rfl))
 f20 := ⟨Tryz.f179.name, by decide, Tryz.func179.trans (congrArg some (by kernel_rfl))⟩
 f21 := ⟨Tryz.f180.name, by decide, Tryz.func180.trans (congrArg some (by kernel_rfl))⟩
 f22 := ⟨Tryz.f181.name, by decide, Tryz.func181.trans (congrArg some (by kernel_rfl))⟩
 f23 := ⟨Tryz.f182.name, by decide, Tryz.func182.trans (congrArg some (by kernel_rfl))⟩
 f24 := ⟨Tryz.f183.name, by decide, Tryz.func183.trans (congrArg some (by kernel_rfl))⟩
 f25 := ⟨Tryz.f184.name, by decide, Tryz.func184.trans (congrArg some (by kernel_rfl))⟩
 f26 := ⟨Tryz.f185.name, by decide, Tryz.func185.trans (congrArg some (by kernel_rfl))⟩
 f27 := ⟨Tryz.f186.name, by decide, Tryz.func186.trans (congrArg some (by kernel_rfl))⟩
 f28 := Tryz.func187.trans (congrArg some (by kernel_rfl))
 f29 := Tryz.func188.trans (congrArg some (by kernel_rfl))
 f46 := ⟨Tryz.f194.name, by decide, Tryz.func194.trans (congrArg some (by kernel_rfl))⟩
 f47 := Tryz.func195.trans (congrArg some (by kernel_rfl))
 f48 := Tryz.func196.trans (congrArg some (by kernel_rfl))
 f49 := ⟨Tryz.f197.name, by decide, Tryz.func197.trans (congrArg some (by kernel_rfl))⟩
 f50 := ⟨Tryz.f198.name, by decide, Tryz.func198.trans (congrArg some (by kernel_rfl))⟩
 f57 := ⟨Tryz.f199.name, by decide, Tryz.func199.trans (congrArg some (by kernel_rfl))⟩
 t0 := Tryz.underlying0
 a0 := Tryz.isAgg0
 z0 := Tryz.sizeOf0
 v0 := Tryz.zeroValue0
 t3 := Tryz.underlying3
 a3 := Tryz.isAgg3
 z3 := Tryz.sizeOf3
 v3 := Tryz.zeroValue3
 t4 := Tryz.underlying4
 a4 := Tryz.isAgg4
 z4 := Tryz.sizeOf4
 v4 := Tryz.zeroValue4
 t5 := Tryz.underlying5
 a5 := Tryz.isAgg5
 z5 := Tryz.sizeOf5
 v5 := Tryz.zeroValue5
 t9 := Tryz.underlying9
 a9 := Tryz.isAgg9
 z9 := Tryz.sizeOf9
 v9 := Tryz.zeroValue9
 t22 := Tryz.underlying80
 a22 := Tryz.isAgg80
 z22 := Tryz.sizeOf80
 v22 := Tryz.zeroValue80
 t25 := Tryz.underlying142
 a25 := Tryz.isAgg142
 z25 := Tryz.sizeOf142
 v25 := Tryz.zeroValue142
 t39 := Tryz.underlying184
 a39 := Tryz.isAgg184
 z39 := Tryz.sizeOf184
 v39 := Tryz.zeroValue184
 t45 := Tryz.underlying200
 a45 := Tryz.isAgg200
 z45 := Tryz.sizeOf200
 v45 := Tryz.zeroValue200
 t46 := Tryz.underlying201
 a46 := Tryz.isAgg201
 z46 := Tryz.sizeOf201
 v46 := Tryz.zeroValue201
 t50 := Tryz.underlying117
 a50 := Tryz.isAgg117
 z50 := Tryz.sizeOf117
 v50 := Tryz.zeroValue117
 t53 := Tryz.underlying207
 a53 := Tryz.isAgg207
 z53 := Tryz.sizeOf207
 v53 := Tryz.zeroValue207
 t55 := Tryz.underlying159
 a55 := Tryz.isAgg159
 z55 := Tryz.sizeOf159
 v55 := Tryz.zeroValue159
 t66 := Tryz.underlying213
 a66 := Tryz.isAgg213
 z66 := Tryz.sizeOf213
 v66 := Tryz.zeroValue213
 t70 := Tryz.underlying217
 a70 := Tryz.isAgg217
 z70 := Tryz.sizeOf217
 v70 := Tryz.zeroValue217
 t76 := Tryz.underlying219
 a76 := Tryz.isAgg219
 z76 := Tryz.sizeOf219
 v76 := Tryz.zeroValue219
 t77 := Tryz.underlying90
 a77 := Tryz.isAgg90
 z77 := Tryz.sizeOf90
 v77 := Tryz.zeroValue90 }
end Go.Proofs.YtdoeejhdenifpaaGreatDoor
namespace Go.Proofs.YtdoeejhdenifpaaGreatDoor
open Go.RowKit Go.Sort Go.MapKept
section
variable {α : Type} {enc : α → List Value} {k : Nat}
theorem holdsK_of [Inhabited α] {w : World} {g : Nat} {T : TypeId} {cur : Array Value} {l : List α} (hk : ∀ x, (enc x).length = k) (hg : w.heap[g]? = some (.cells cur T (0, 0))) (ht : cur.toList.take (l.length * k) = l.flatMap enc) : HoldsK enc k w g 0 l.toArray := by
 intro t hts
 rw [size_flatK] at hts
 have htl : t < l.length * k := by simpa using hts
 have k0 : 0 < k := by rcases Nat.eq_zero_or_pos k with h | h; · subst h; simp at htl
                       · exact h
 have hj : t / k < l.length := by rw [Nat.div_lt_iff_lt_mul k0]; exact htl
 have hi : t % k < k := Nat.mod_lt _ k0
 refine ⟨?_, ?_⟩
 · rw [get_flatK enc k _ t hts, Nat.zero_add, cell_of_row w g t cur T (0, 0) hg]
   have hf := flat_get hk l (t / k) (t % k) l[t / k] (by simp [hj]) hi
   rw [Nat.div_add_mod' t k, ← ht, List.getElem?_take, if_pos htl] at hf
   have e1 : (enc (l.toArray[t / k]!)) = enc l[t / k] := by rw [getElem!_pos _ _ (by simpa using hj)]; simp
   rw [e1]
   have hl2 : t % k < (enc l[t / k]).length := by rw [hk]; exact hi
   rw [getElem!_pos (enc l[t / k]) (t % k) hl2]
   rw [List.getElem?_eq_getElem hl2] at hf
   simpa using hf
 · simp [World.frozen?, hg]
theorem putCells_take (F cur : Array Value) (h : F.size ≤ cur.size) : (putCells id 0 F cur).size = cur.size ∧ (putCells id 0 F cur).toList.take F.size = F.toList := by
 refine ⟨by simp [putCells], ?_⟩
 apply List.ext_getElem?
 intro i
 rw [List.getElem?_take]
 by_cases hi : i < F.size
 · have hc : i < cur.size := by omega
   rw [if_pos hi, Array.getElem?_toList, Array.getElem?_toList]
   simp only [putCells, Array.getElem?_mapIdx, Array.getElem?_eq_getElem hc, Option.map_some, Nat.zero_le, Nat.zero_add, hi, and_self, if_true, id, Nat.sub_zero, Array.getElem?_eq_getElem hi]
   rw [getElem!_pos F i hi]
 · rw [if_neg hi]
   simp [Array.getElem?_eq_none (Nat.le_of_not_lt hi)]
theorem flatK_toList [Inhabited α] (hk : ∀ x, (enc x).length = k) (d : Array α) : (flatK enc k d).toList = d.toList.flatMap enc := by
 apply List.ext_getElem?
 intro t
 by_cases htl : t < d.size * k
 · have k0 : 0 < k := by rcases Nat.eq_zero_or_pos k with h | h; · subst h; simp at htl
                         · exact h
   have hj : t / k < d.size := by rw [Nat.div_lt_iff_lt_mul k0]; exact htl
   have hi : t % k < k := Nat.mod_lt _ k0
   have hf := flat_get hk d.toList (t / k) (t % k) d[t / k] (by simp [hj]) hi
   rw [Nat.div_add_mod' t k] at hf
   rw [hf, Array.getElem?_toList, Array.getElem?_eq_getElem (by simpa using htl), ← getElem!_pos (flatK enc k d) t (by simpa using htl), get_flatK enc k d t htl]
   rw [getElem!_pos d _ hj]
   have hl2 : t % k < (enc d[t / k]).length := by rw [hk]; exact hi
   rw [List.getElem?_eq_getElem hl2, getElem!_pos (enc d[t / k]) (t % k) hl2]
 · have h1 : (d.toList.flatMap enc).length = d.size * k := by rw [flat_len hk]; simp
   rw [List.getElem?_eq_none (l := d.toList.flatMap enc) (by rw [h1]; omega), List.getElem?_eq_none (by simp; omega)]
theorem ah_heap (w : World) (m : Nat) : (Go.Sort.ahead w m).heap = w.heap := rfl
theorem owns_sortWorld [Inhabited α] (hk : ∀ x, (enc x).length = k) {w : World} {g B : Nat} {T : TypeId} {cur : Array Value} {cap m : Nat} {d : Array α} {os : Array Obj} (hg : w.heap[g]? = some (.cells cur T (0, 0))) (hB : B ≤ g)
    (hn : d.size ≤ cap) (hc : cap ≤ maxLen) (hs : cur.size = cap * k) :
    (sortWorldK enc k w g 0 m d os).ownsRow B T k (.slice (some ⟨g, 0, none⟩) d.size cap) d.size (d.toList.flatMap enc) ∧ w.grownBy (sortWorldK enc k w g 0 m d os) (some g) := by
 have hlt : g < w.heap.size := (Array.getElem?_eq_some_iff.1 hg).1
 have hF : (flatK enc k d).size ≤ cur.size := by rw [size_flatK, hs]; exact Nat.mul_le_mul_right _ hn
 obtain ⟨p1, p2⟩ := putCells_take (flatK enc k d) cur hF
 have hh : (sortWorldK enc k w g 0 m d os).heap[g]? = some (.cells (putCells id 0 (flatK enc k d) cur) T (0, 0)) := by
  simp only [sortWorldK, grow, putRowK, putRow, mapBlock, ah_heap]
  rw [Array.getElem?_append_left (by simpa using hlt), Array.getElem?_modify, if_pos rfl, hg]
  rfl
 refine ⟨⟨by rw [flat_len hk]; simp, Or.inr ⟨g, cap, _, rfl, hB, hh, hn, hc, by rw [p1, hs], ?_⟩⟩, ⟨rfl, rfl, rfl, ?_, fun i hi hne => ?_⟩⟩
 · rw [← flatK_toList hk d, ← p2, size_flatK]
 · simp [sortWorldK, grow, putRowK, putRow, mapBlock]
 · simp only [sortWorldK, grow, putRowK, putRow, mapBlock, ah_heap]
   rw [Array.getElem?_append_left (by simpa using hi), Array.getElem?_modify, if_neg (fun e => hne (by rw [e]))]
end
end Go.Proofs.YtdoeejhdenifpaaGreatDoor
namespace Go.Proofs.YtdoeejhdenifpaaGreatDoor
open Go.Shelf Go.RowKit Go.Lib Go.Sort
theorem ltOf_ad : ltOf adCmp = adLt := by funext a b; exact adCmp_lt a b
theorem sortAd_row (g cap : Nat) (l : List Ad) (w : World) (hH : HoldsK adC 2 w g 0 l.toArray) (hg : g < w.heap.size) (hsz : l.length < 4611686018427387904) :
    Calls Tryz.prog 151 #[.slice (some ⟨g, 0, none⟩) l.length cap, .func (.func 119) #[] #[]] w fun e w' => e = .returned (.tuple #[]) ∧ ∃ n os, w' = sortWorldK adC 2 w g 0 n (sortL adLt l).toArray os := by
 have eg : ∀ args w, (callFunc 119 args).run Tryz.prog w = .ok (.enter 119 args) w := enters_of Tryz.func119 (by kernel_rfl) rfl
 have hcmp : CmpLays Tryz.prog 119 #[] adC 2 adCmp g 0 l.toArray.size w := fun _ _ _ _ x y => order_any x.1 x.2 y.1 y.2 _
 have hcon := AnyQ.slices_SortFunc Tryz.sortAd 2 Tryz.isAgg24 Tryz.sizeOf24 adC adC_len adC_one adCmp (by rw [ltOf_ad]; exact swo_ad) 119 #[] g 0 cap l.toArray w eg hcmp hH hg (by simpa using hsz)
 change Calls Tryz.prog 151 _ _ _ at hcon
 rw [show l.toArray.size = l.length from by simp] at hcon
 refine hcon.mono fun e w' ⟨he, d', n, os, hp, hs, hw⟩ => ⟨he, n, os, ?_⟩
 rw [hw]
 congr 1
 rw [ltOf_ad] at hs
 have := sorted_unique_holds swo_ad (fun x y h1 h2 => tot_ad x y h1 h2) l.toArray d' (by simpa using hp) (by simpa using hs)
 rw [show d' = d'.toList.toArray from by simp, this]; rfl
theorem sortL_len {α : Type} (lt : α → α → Bool) (l : List α) : (sortL lt l).length = l.length := by simp [sortL]
theorem sortAd_own {B : Nat} {v : Value} {l : List Ad} {w : World} (h : OwnL w B 24 2 adC v l) (hsz : l.length < 4611686018427387904) :
    Calls Tryz.prog 151 #[v, .func (.func 119) #[] #[]] w fun e w' => e = .returned (.tuple #[]) ∧ OwnL w' B 24 2 adC v (sortL adLt l) ∧ w.grownBy w' v.ownBlock := by
 have h0 := h
 obtain ⟨h1, h2⟩ := h
 rcases h2 with ⟨rfl, hn⟩ | ⟨g, cap, cur, rfl, hb, hg, hn, hc, hs, ht⟩
 · have hl : l = [] := List.length_eq_zero_iff.1 hn
   subst hl
   have hcon := AnyF.slices_SortFunc_none Tryz.sortAd none 0 (.func (.func 119) #[] #[]) w
   change Calls Tryz.prog 151 _ _ _ at hcon
   refine hcon.mono fun e w' ⟨he, hw⟩ => ?_
   subst hw
   exact ⟨he, by simpa [sortL] using h0, ⟨rfl, rfl, rfl, Nat.le_refl _, fun _ _ _ => rfl⟩⟩
 · refine (sortAd_row g cap l w (holdsK_of adC_len hg ht) (Array.getElem?_eq_some_iff.1 hg).1 hsz).mono fun e w' ⟨he, n, os, hw⟩ => ?_
   have := owns_sortWorld (m := n) (os := os) (d := (sortL adLt l).toArray) adC_len hg hb (by simpa [sortL_len] using hn) hc hs
   subst hw
   exact ⟨he, by simpa [OwnL, sortL_len] using this.1, this.2⟩
end Go.Proofs.YtdoeejhdenifpaaGreatDoor
namespace Go.Proofs.YtdoeejhdenifpaaGreatDoor
open Go.RowKit Go.Sort Go.Maps Go.Shelf
attribute [local go_sem] Oper.semAt_some
theorem OwnL.own_from {α : Type} {enc : α → List Value} {X Y : World} {base : Nat} {e : TypeId} {size : Nat} {v : Value} {l : List α} {row : Option Nat} (h : OwnL X base e size enc v l) (hg : X.grownBy Y row) (hr : ∀ r, row = some r → ∃ o : Obj, X.heap[r]? = some o ∧ o.isCells = false) : OwnL Y base e size enc v l := by
 refine World.ownsRow.kept h hg ?_
 rcases h.2 with ⟨rfl, _⟩ | ⟨g, cap, cur, rfl, _, hgb, _⟩
 · exact .inl rfl
 · refine .inr fun e' => ?_
   obtain ⟨o, ho, hc⟩ := hr g (by simpa [Value.ownBlock] using e'.symm)
   rw [hgb] at ho; cases ho; cases hc
theorem infoAd : (Tryz.prog.info? 24).map (fun i => (i.zero, i.size, i.bytes)) = some (some (.agg #[.int .i64 0, .int .i64 0]), 2, 16) := by kernel_rfl
set_option maxRecDepth 100000 in
set_option maxHeartbeats 4000000 in
theorem appendSeq_in (g : Nat) (lb : Array Value) (eg : ∀ args w, (callFunc g args).run Tryz.prog w = .ok (.enter g args) w) (S Sp : List Ad → Prop) (N : Nat) (hN : N ≤ 8192) (n : Nat) (hn : 2 ≤ n) (w : World) (hseq : SeqStopsK Fence.wide (n - 1) Tryz.prog g lb (fun x : Ad => #[adW x]) KeepsWalks S Sp N w) :
    CallsIn Fence.wide n Tryz.prog 165 #[.slice none 0 0, .func (.func g) #[] lb] w fun e w' => ∃ (v : Value) (ks : List Ad), e = .returned v ∧ S ks ∧ OwnL w' w.heap.size 24 2 adC v ks ∧ Below w.heap.size w w' := by
 obtain ⟨i0, hi, hz0, hz1, hz2⟩ := info_parts infoAd
 refine callsIn_of_wp_marks Tryz.func165 rfl trivial ?_ rfl
 simp only [Tryz.ntmps165, List.size_toArray, List.length_cons, List.length_nil, Nat.reduceAdd, Nat.reduceSub, Array.replicate_succ, Array.replicate_zero, List.push_toArray, List.append_toArray, List.nil_append, List.cons_append]
 gi_wp2
 obtain ⟨W0, hW0⟩ : ∃ W0, w.alloc (.cells #[.slice none 0 0] 80) = W0 := ⟨_, rfl⟩
 have bS : Boxed W0 w.heap.size 80 (.slice none 0 0) := by rw [← hW0]; exact Boxed.new w _ _
 have hB0 : Below w.heap.size w W0 := by rw [← hW0]; exact (Below.refl _ w).alloc (Nat.le_refl _) _
 have hsz : W0.heap.size = w.heap.size + 1 := by rw [← hW0]; simp
 rw [hW0]
 clear hW0
 refine wpIn_rangeFunc_ownH (F := Fence.wide) rfl (by omega) (gf := g) (lb := lb) rfl trivial eg hseq walksK_t walksK_b hB0 (fun _ => rfl)
  (fun pre W => (∃ v, Boxed W w.heap.size 80 v ∧ OwnL W w.heap.size 24 2 adC v pre) ∧ Below w.heap.size w W)
  (fun _ _ _ => False)
  (OwnFrom.and (fun s X Y row hs hg hr => by
   obtain ⟨v, hv, ho⟩ := hs
   exact ⟨v, boxed_own w.heap.size 80 (fun (_ : Unit) => v) () X Y row hv hg (fun r e => (hr r e).2), ho.own_from hg (fun r e => (hr r e).2)⟩) (ownFrom_below (Nat.le_refl _) (by omega)))
  (fun _ _ _ _ _ hs _ _ => hs)
  ⟨⟨_, bS, World.ownsRow_nil _ _ _ _⟩, hB0⟩
  (fun x a' W => ∃ Bx, W.heap[Bx]? = some (.cells #[.int .i64 x.1, .int .i64 x.2] 24 (0, 0)) ∧ a' = { tmps := #[.slice none 0 0, .func (.func g) #[] lb, .pointer (some ⟨w.heap.size, 0, none⟩), undef, .slice none 0 0, .pointer (some ⟨Bx, 0, none⟩), .func (.func g) #[] lb, .agg #[.int .i64 x.1, .int .i64 x.2], undef, undef, undef, undef, undef], defers := [] })
  (fun x a' _ X Y row hs hg hr => by
   obtain ⟨Bx, h1, h2⟩ := hs
   refine ⟨Bx, (hg.block Bx (Array.getElem?_eq_some_iff.1 h1).1 (fun e => ?_)).trans h1, h2⟩
   obtain ⟨_, o, ho, hc⟩ := hr Bx e.symm
   rw [h1] at ho; cases ho; cases hc)
  ?assign ?body ?done ?stop
 case assign =>
  rintro l pre x W K ⟨⟨v, hv, ho⟩, hB⟩ hK
  gi_wp2
  exact hK _ _ ((KeepsOthers.alloc _ _).from _) (KeepsWalks.alloc _ _) ⟨⟨v, hv.alloc _, ho.alloc _⟩, hB.alloc hB.size _⟩ ⟨W.heap.size, World.alloc_heap_new W _, rfl⟩
 case body =>
  rintro l pre x a' W hl ⟨r, hr⟩ ⟨⟨v, hv, ho⟩, hB⟩ ⟨Bx, hBx, rfl⟩ hlt
  have hc0 : W.cell? ⟨Bx, 0, none⟩ = some (.int .i64 x.1) := by simp [World.cell?, hBx]
  have hc1 : W.cell? ⟨Bx, 1, none⟩ = some (.int .i64 x.2) := by simp [World.cell?, hBx]
  have hcv := hv.cell
  have hle := hB.size
  gi_wp2_with (first
   | (gi_at_builtin; refine wpListIn_append_own _ rfl _ _ 80 rfl w.heap.size 24 i0 _ 2 16 Tryz.underlying80 hi hz0 hz1 hz2 rfl (by decide) _ _ _ rfl (World.ownsRow.alloc (w := W) ho _) ⟨W.heap.size, 0, none⟩ 1 1 [.int .i64 x.1, .int .i64 x.2] rfl rfl (news_at W [.int .i64 x.1, .int .i64 x.2] 24 rfl) (adC_one x) (by unfold maxLen; omega) (by omega) (by simp; omega) ?_; intro v' w1 hown' hgrow _; obtain ⟨g', cap', rfl⟩ := ownsRow_succ hown'; obtain ⟨hv1, hv2, hr2, hk2, hb2⟩ := hv.appended (by decide) ho hle (Nat.le_refl _) hown' hgrow; have hc1' := hv1.cell; have hf1 := hv1.frozen)
   | gi_in)
  exact ⟨hk2.from _, ⟨hk2.size, fun k o hk hw => hk2.same k o hk (Obj.not_cells_of_walk hw)⟩, ⟨_, hv2, by unfold OwnL; simpa [adC] using hr2⟩, hB.trans hb2⟩
 case done =>
  rintro D xs W hD hS ⟨⟨v, hv, ho⟩, hB⟩ hK
  have hcv := hv.cell
  gi_wp2
  refine ⟨by simp, .inl ⟨_, _, rfl, run_takeDeferred hK, ?_⟩⟩
  exact ⟨_, results_tmp rfl _ _ _, v, xs, rfl, hS, ho.own_from (grownBy_putObj' W D _) (fun r e => by cases e; exact ⟨_, hK, rfl⟩), hB.trans (belowK_b (w := w) (Nat.le_refl _) W D _ _ (by omega) hK rfl rfl)⟩
 case stop =>
  rintro D c pre W hD hS hF
  exact hF.elim
set_option maxRecDepth 100000 in
set_option maxHeartbeats 2000000 in
theorem collect_in (g : Nat) (lb : Array Value) (eg : ∀ args w, (callFunc g args).run Tryz.prog w = .ok (.enter g args) w) (S Sp : List Ad → Prop) (N : Nat) (hN : N ≤ 8192) (n : Nat) (hn : 3 ≤ n) (w : World) (hseq : SeqStopsK Fence.wide (n - 1 - 1) Tryz.prog g lb (fun x : Ad => #[adW x]) KeepsWalks S Sp N w) :
    CallsIn Fence.wide n Tryz.prog 150 #[.func (.func g) #[] lb] w fun e w' => ∃ (v : Value) (ks : List Ad), e = .returned v ∧ S ks ∧ OwnL w' w.heap.size 24 2 adC v ks ∧ Below w.heap.size w w' := by
 refine callsIn_of_wp Tryz.func150 rfl trivial ?_ rfl
 simp only [Tryz.ntmps150, List.size_toArray, List.length_cons, List.length_nil, Nat.reduceAdd, Nat.reduceSub, Array.replicate_succ, Array.replicate_zero, List.push_toArray, List.append_toArray, List.nil_append, List.cons_append]
 have h1 : 1 ≤ n := by omega
 have hf : Fence.wide.fn 165 := trivial
 gi_wp2_with (gi_at_call 165; refine (appendSeq_in g lb eg S Sp N hN (n - 1) (by omega) w hseq).mono ?_; rintro e w' ⟨v, ks, rfl, hS, ho, hb⟩)
 go_ret
 exact ⟨v, ks, rfl, hS, ho, hb⟩
set_option maxRecDepth 100000 in
set_option maxHeartbeats 2000000 in
theorem sortedFunc_in (g : Nat) (lb : Array Value) (eg : ∀ args w, (callFunc g args).run Tryz.prog w = .ok (.enter g args) w) (S Sp : List Ad → Prop) (N : Nat) (hN : N ≤ 8192) (hSN : ∀ ks, S ks → ks.length ≤ 8192) (n : Nat) (hn : 4 ≤ n) (w : World) (hseq : SeqStopsK Fence.wide (n - 1 - 1 - 1) Tryz.prog g lb (fun x : Ad => #[adW x]) KeepsWalks S Sp N w) :
    CallsIn Fence.wide n Tryz.prog 117 #[.func (.func g) #[] lb, .func (.func 119) #[] #[]] w fun e w' => ∃ (v : Value) (ks : List Ad), e = .returned v ∧ S ks ∧ OwnL w' w.heap.size 24 2 adC v (sortL adLt ks) ∧ Below w.heap.size w w' := by
 refine callsIn_of_wp Tryz.func117 rfl trivial ?_ rfl
 simp only [Tryz.ntmps117, List.size_toArray, List.length_cons, List.length_nil, Nat.reduceAdd, Nat.reduceSub, Array.replicate_succ, Array.replicate_zero, List.push_toArray, List.append_toArray, List.nil_append, List.cons_append]
 have h1 : 1 ≤ n := by omega
 have hf : Fence.wide.fn 150 := trivial
 have hf2 : Fence.wide.fn 151 := trivial
 gi_wp2_with (gi_at_call 150; refine (collect_in g lb eg S Sp N hN (n - 1) (by omega) w hseq).mono ?_; rintro e w1 ⟨v, ks, rfl, hS, ho, hb⟩)
 have hl := hSN ks hS
 have hcs := callsIn_wide (n := n - 1).2 (sortAd_own ho (by omega))
 gi_wp2_with (gi_at_call 151; refine hcs.mono ?_; rintro e w2 ⟨rfl, ho2, hg2⟩)
 go_ret
 exact ⟨v, ks, rfl, hS, ho2, Below.grown hb hg2 hb.size (fun k hk => (World.ownsRow.lt ho k hk).1)⟩
end Go.Proofs.YtdoeejhdenifpaaGreatDoor
namespace Go.Proofs.YtdoeejhdenifpaaGreatDoor
open Go.RowKit Go.Sort Go.Maps Go.Shelf
def keptO (A : Nat → Bool) (k : Nat) : Obj → Bool
 | .cells _ e _ => e == 24 || e == 99 || e == 29 || A (2 * e)
 | .map _ _ => !A (2 * k + 1)
 | o => o.isWalk
structure KeepsT (A : Nat → Bool) (W W' : World) : Prop where
 size : W.heap.size ≤ W'.heap.size
 same : ∀ (k : Nat) (o : Obj), W.heap[k]? = some o → keptO A k o = true → W'.heap[k]? = some o
theorem KeepsT.refl (A : Nat → Bool) (W : World) : KeepsT A W W := ⟨Nat.le_refl _, fun _ _ h _ => h⟩
theorem KeepsT.trans {A : Nat → Bool} {X Y Z : World} (h : KeepsT A X Y) (k : KeepsT A Y Z) : KeepsT A X Z := ⟨Nat.le_trans h.size k.size, fun i o hi ho => k.same i o (h.same i o hi ho) ho⟩
theorem KeepsT.of_xt {A : Nat → Bool} {W W' : World} (h : Xt W W') : KeepsT A W W' := ⟨h.size, fun k _o hk _ => (h.block k (Array.getElem?_eq_some_iff.1 hk).1).trans hk⟩
theorem KeepsT.of_grown {A : Nat → Bool} {W W' : World} {row : Option Nat} (h : W.grownBy W' row) (hr : ∀ j o, row = some j → W.heap[j]? = some o → keptO A j o = false) : KeepsT A W W' :=
 ⟨h.size, fun k o hk ho => (h.block k (Array.getElem?_eq_some_iff.1 hk).1 (fun e => by rw [hr k o e.symm hk] at ho; cases ho)).trans hk⟩
theorem MapIs.keptT {A : Nat → Bool} {w w' : World} {b : Nat} {E : List (Ad × Value)} (h : MapIs w b E) (hk : KeepsT A w w') (hA : A (2 * b + 1) = false) : MapIs w' b E := by
 obtain ⟨es, clock, h1, h2⟩ := h
 exact ⟨es, clock, hk.same b _ h1 (by simp [keptO, hA]), h2⟩
theorem OwnL.keptT {A : Nat → Bool} {w w' : World} {B : Nat} {v : Value} {l : List Ad} (h : OwnL w B 24 2 adC v l) (hk : KeepsT A w w') : OwnL w' B 24 2 adC v l := by
 refine ⟨h.1, ?_⟩
 rcases h.2 with q | ⟨g, cap, cur, q1, q2, q3, q4⟩
 · exact Or.inl q
 · exact Or.inr ⟨g, cap, cur, q1, q2, hk.same g _ q3 (by simp [keptO]), q4⟩
theorem Xt.grownN {W W' : World} (h : Xt W W') : W.grownBy W' none := ⟨h.os, h.tape, h.output, h.size, fun k hk _ => h.block k hk⟩
structure ItSt (A : Nat → Bool) (n₀ : Nat) (w0 : World) (wf : Nat) (wl : Array Value) (Bw mb kb : Nat) (E : List (Ad × Value)) (v : Value) (keys : List Ad) (wr : World) : Prop where
 below : Below n₀ w0 wr
 want : wr.heap[Bw]? = some (.cells #[.func (.func wf) #[] wl] 99 (0, 0))
 was : MapIs wr mb E
 keys : OwnL wr kb 24 2 adC v keys
 free : A (2 * mb + 1) = false
theorem ItSt.step {A : Nat → Bool} {n₀ : Nat} {w0 : World} {wf : Nat} {wl : Array Value} {Bw mb kb : Nat} {E : List (Ad × Value)} {v : Value} {keys : List Ad} {wr wr' : World} (h : ItSt A n₀ w0 wf wl Bw mb kb E v keys wr) (hb : Below n₀ wr wr') (hk : KeepsT A wr wr') : ItSt A n₀ w0 wf wl Bw mb kb E v keys wr' :=
 ⟨h.below.trans hb, hk.same _ _ h.want (by simp [keptO]), h.was.keptT hk h.free, h.keys.keptT hk, h.free⟩
theorem ItSt.xt {A : Nat → Bool} {n₀ : Nat} {w0 : World} {wf : Nat} {wl : Array Value} {Bw mb kb : Nat} {E : List (Ad × Value)} {v : Value} {keys : List Ad} {wr wr' : World} (h : ItSt A n₀ w0 wf wl Bw mb kb E v keys wr) (hn : n₀ ≤ w0.heap.size) (hx : Xt wr wr') : ItSt A n₀ w0 wf wl Bw mb kb E v keys wr' :=
 h.step (hx.mono (Nat.le_trans hn h.below.size)) (KeepsT.of_xt hx)
abbrev TE := Ad × ContT × Option Addr
abbrev teV (x : TE) : Array Value := #[adW x.1, copyCV x.2.1 x.2.2]
def toldT (V : World) (x : TE) (w : World) : Prop := Xt V w ∧ smallT x.2.1.t ∧ ∃ n, ArgsS (fun b => V.heap.size ≤ b) w n (.slice x.2.2 x.2.1.t.args.length x.2.1.t.args.length) (copyL x.2.1.t.args)
def toldM (M : GM) (V : World) (x : TE) (w : World) : Prop := toldT V x w ∧ (x.1, x.2.1) ∈ M.map (fun y => (y.1, y.2.1))
theorem rowCells_own {X Y : World} {row : Option Nat} {B : Nat} {cs : Array Value} {T : TypeId} {fz : Nat × Nat} (h : X.heap[B]? = some (.cells cs T fz)) (hg : X.grownBy Y row) (hr : ∀ r, row = some r → ∃ o : Obj, X.heap[r]? = some o ∧ o.isCells = false) : Y.heap[B]? = some (.cells cs T fz) := by
 refine (hg.block B (Array.getElem?_eq_some_iff.1 h).1 (fun e => ?_)).trans h
 obtain ⟨o, ho, hc⟩ := hr B e.symm
 rw [h] at ho; cases ho; cases hc
theorem cellsIn_walk {w w' : World} {row : Option Nat} (hg : w.grownBy w' row) (hr : ∀ r, row = some r → ∃ o : Obj, w.heap[r]? = some o ∧ o.isCells = false) : CellsIn w w' := fun b o u hu => by
 refine (World.cell?_of_block (w := w) (a := ⟨b, o, none⟩) (hg.block b (World.block_lt_of_cell? w _ hu) (fun e => ?_))).trans hu
 obtain ⟨ob, h1, h2⟩ := hr b e.symm
 simp only [World.cell?, h1] at hu
 cases ob <;> simp_all [Obj.isCells]
theorem keepsFrom_xt {w w' : World} (hx : Xt w w') (B : Nat) : KeepsFrom B w w' := ⟨hx.size, fun k _ _ hk _ => (hx.block k (Array.getElem?_eq_some_iff.1 hk).1).trans hk⟩
end Go.Proofs.YtdoeejhdenifpaaGreatDoor
/- A slice of one's own, opened. -/
namespace Go.Proofs.YtdoeejhdenifpaaGreatDoor
open Go.RowKit Go.Sort Go.Maps Go.Shelf
theorem OwnL.slice {α : Type} {w : World} {B : Nat} {T : TypeId} {k : Nat} {enc : α → List Value} {v : Value} {l : List α} (h : OwnL w B T k enc v l) {n : Nat} (hn : l.length = n) : ∃ a c, v = .slice a n c ∧ n ≤ c ∧ c ≤ 9223372036854775807 := by
 rcases h.2 with ⟨rfl, h0⟩ | ⟨g, cap, cur, rfl, _, _, h1, h2, _⟩
 · exact ⟨none, 0, by rw [← hn, h0], by omega, by omega⟩
 · exact ⟨_, cap, by rw [← hn], by omega, by simp only [maxLen] at h2; omega⟩
theorem keys_at {w : World} {B : Nat} {va : Option Addr} {n vc : Nat} {l : List Ad} (h : OwnL w B 24 2 adC (.slice va n vc) l) {i : Nat} {x : Ad} (hx : l[i]? = some x) : ∃ b off, va = some ⟨b, off, none⟩ ∧ w.cell? ⟨b, off + i * 2, none⟩ = some (.int .i64 x.1) ∧ w.cell? ⟨b, off + i * 2 + 1, none⟩ = some (.int .i64 x.2) := by
 obtain ⟨a, cap, e, _, _, hc⟩ := OwnL.sl h adC_len
 cases e
 obtain ⟨b, off, rfl, hcell⟩ := hc (by intro e; subst e; simp at hx)
 exact ⟨b, off, rfl, hcell i x hx 0 _ rfl, hcell i x hx 1 _ rfl⟩
end Go.Proofs.YtdoeejhdenifpaaGreatDoor
