import Derived.Test.YtagfgkcipomopaaW11
import Derived.Test.YtagfgkcipomopaaL8
namespace Go.Proofs.Ytagfgkcipomopaa
open Go.RowKit Go.Sort

/-! ### Ready -/
def setA (l : List Ad) : List Ad := compL (sortL adLt l)
def readyS (M : Mp) (l : List Ad) (picks : List Int) : Int × List Ad :=
  if l.all (fun a => validB a.1 a.2) = false then (20, []) else
    match readyGo M picks (setA l).length (setA l) [] with
    | none => (40, [])
    | some o => (0, o)
def ReadyR (w : World) (r : Int × List Ad) (e : Ending) (w' : World) : Prop := ∃ v, e = .returned (.tuple #[v, .int .i64 r.1]) ∧ OwnL w' w.heap.size 34 2 adC v r.2 ∧ Xt w w'
theorem setA_nodup (l : List Ad) : (setA l).Nodup := setA_nodup' l
theorem setA_len (l : List Ad) : (setA l).length ≤ l.length := by
  unfold setA compL Lib.compactUpTo
  rw [List.length_map]
  refine Nat.le_trans (List.length_filter_le ..) ?_
  rw [List.length_range, sortL_len]; exact Nat.le_refl _
theorem not_take {α : Type} {l : List α} (h : l.Nodup) {k : Nat} {x : α} (hx : l[k]? = some x) : x ∉ l.take k := by
  intro hm
  obtain ⟨i, hi⟩ := List.mem_iff_getElem?.1 hm
  rw [List.getElem?_take] at hi
  split at hi
  · rename_i hik
    obtain ⟨h1, h2⟩ := List.getElem?_eq_some_iff.1 hi
    obtain ⟨h3, h4⟩ := List.getElem?_eq_some_iff.1 hx
    exact (List.pairwise_iff_getElem.1 h) i k h1 h3 hik (h2.trans h4.symm)
  · cases hi
/-- 'wait[a]++' and 'wait[a]--', whatever comes first. -/
def StepR (w : World) (b : Nat) (x : Ad) (n m : Int) (E : List (Ad × Value)) : Prop :=
  ∃ w1 w2 st, (Instr.lookup 71 (.map (some b)) (.agg #[.int .i64 x.1, .int .i64 x.2]) false).run Try.prog w = .ok (.int .i64 n) w ∧
    (Instr.mapEntry 71 (.map (some b)) (.agg #[.int .i64 x.1, .int .i64 x.2])).run Try.prog w = .ok (.tuple #[.int .i64 n, .int .i64 st]) w1 ∧
    (Instr.lookup 71 (.map (some b)) (.agg #[.int .i64 x.1, .int .i64 x.2]) false).run Try.prog w1 = .ok (.int .i64 n) w1 ∧
    (Instr.entryStore 71 (.map (some b)) (.int .i64 st) (.int .i64 m)).run Try.prog w1 = .ok () w2 ∧
    Hid (MapIs w2 b (upE x (.int .i64 m) E) ∧ w.grownBy w2 (some b) ∧ w2.heap.size = w.heap.size)
theorem step_run {w : World} {b : Nat} {E : List (Ad × Value)} (h : MapIs w b E) (x : Ad) (n m : Int) (hn : (lk x E).getD (.int .i64 0) = .int .i64 n) : StepR w b x n m E := by
  obtain ⟨w1, st, h1, h2, h3, h4, h5⟩ := h.entryAt (P := Try.prog) adrKey Try.underlying71 zero3 x
  obtain ⟨w2, k1, k2, k3, k4⟩ := h5 (.int .i64 m)
  have l0 := h.lookup (P := Try.prog) adrKey Try.underlying71 zero3 x
  have l1 := h2.lookup (P := Try.prog) adrKey Try.underlying71 zero3 x
  rw [hn] at h1 l0 l1
  have e1 : (lk x (upE x (.int .i64 n) E)).getD (.int .i64 0) = .int .i64 n := by rw [lk_up, if_pos rfl]; rfl
  rw [e1] at l1
  exact ⟨w1, w2, st, l0, h1, l1, k1, k2, ⟨k3.os.trans h3.os, k3.tape.trans h3.tape, k3.output.trans h3.output, by omega, fun k hk hne => (k3.block k (by omega) hne).trans (h3.block k hk hne)⟩, k4⟩
theorem cell_grown {w w' : World} {b k o : Nat} (h : w.grownBy w' (some b)) (hk : k < w.heap.size) (hne : k ≠ b) : w'.cell? ⟨k, o, none⟩ = w.cell? ⟨k, o, none⟩ :=
  World.cell?_of_block (w := w) (a := ⟨k, o, none⟩) (h.block k hk (fun e => hne (by cases e; rfl)))
theorem Xt.grownBy {a b c : World} {m : Nat} (h : Xt a b) (k : b.grownBy c (some m)) (hm : a.heap.size ≤ m) : Xt a c :=
  ⟨k.os.trans h.os, k.tape.trans h.tape, k.output.trans h.output, Nat.le_trans h.size k.size, fun i hi => (k.block i (Nat.lt_of_lt_of_le hi h.size) (fun e => by cases e; omega)).trans (RowKit.Below.block h i hi)⟩
theorem Xt.ownG {α : Type} {enc : α → List Value} {a b c : World} {B : Nat} {T : TypeId} {k : Nat} {v : Value} {l : List α} (h : Xt a b) (ho : OwnL b B T k enc v l) (hB : a.heap.size ≤ B) (hg : b.grownBy c v.ownBlock) : Xt a c :=
  Below.grown h hg h.size (fun q hq => Nat.le_trans hB (World.ownsRow.lt ho q hq).1)
theorem wrap_succ {ii : Nat} (h : ii < 8796093022209) : IntKind.i64.wrap ((ii : Int) + 1) = (ii : Int) + 1 := by rw [IntKind.wrap_i64]; omega
def slAt : Value → Option Addr
  | .slice a _ _ => a
  | _ => none
def slCap : Value → Nat
  | .slice _ _ c => c
  | _ => 0
def slLen : Value → Nat
  | .slice _ n _ => n
  | _ => 0
theorem inC_len (n : Int) : (inC n).length = 1 := rfl
theorem inC_one (n : Int) : ∀ u ∈ inC n, u.oneCell' = true := by intro u hu; simp [inC] at hu; subst hu; rfl
theorem gb_trans {a b c : World} {r : Option Nat} (h : a.grownBy b r) (k : b.grownBy c r) : a.grownBy c r :=
  ⟨k.os.trans h.os, k.tape.trans h.tape, k.output.trans h.output, Nat.le_trans h.size k.size, fun i hi hne => (k.block i (Nat.lt_of_lt_of_le hi h.size) hne).trans (h.block i hi hne)⟩
theorem readyS_ok {M : Mp} {l : List Ad} {picks : List Int} {o : List Ad} (hv : (l.all fun a => validB a.1 a.2) = true) (h : readyGo M picks (setA l).length (setA l) [] = some o) : readyS M l picks = (0, o) := by
  unfold readyS; rw [if_neg (by rw [hv]; simp), h]
theorem readyS_no {M : Mp} {l : List Ad} {picks : List Int} (hv : (l.all fun a => validB a.1 a.2) = true) (h : readyGo M picks (setA l).length (setA l) [] = none) : readyS M l picks = (40, []) := by
  unfold readyS; rw [if_neg (by rw [hv]; simp), h]
theorem readyGo_none {M : Mp} {picks : List Int} {n : Nat} {left out : List Ad} (hn : left ≠ []) (hm : mayL (freeM M left) left 0 = []) : readyGo M picks (n + 1) left out = none := by
  unfold readyGo; rw [if_neg hn]; simp [hm]
theorem readyGo_some {M : Mp} {picks : List Int} {n : Nat} {left out : List Ad} {i : Nat} {x : Ad} (hn : left ≠ []) (hm : mayL (freeM M left) left 0 ≠ []) (hi : ((mayL (freeM M left) left 0).getD (pickK picks out.length (mayL (freeM M left) left 0).length).toNat 0).toNat = i) (hx : left[i]? = some x) :
    readyGo M picks (n + 1) left out = readyGo M picks n (left.eraseIdx i) (out ++ [x]) := by
  conv => lhs; unfold readyGo
  rw [if_neg hn]; simp only [hm, if_false, hi]
  rw [List.getD_eq_getElem?_getD, hx]; rfl
theorem pick_pos {p m : Int} (hm : 0 < m) (hm2 : m ≤ 8796093022208) : ∃ K : Nat, (wrap64 (p.tmod m + m)).tmod m = (K : Int) ∧ (K : Int) < m ∧ (p.tmod m + m).tmod m = (K : Int) := by
  have h1 : p.tmod m < m := Int.tmod_lt_of_pos p hm
  have h2 : -m < p.tmod m := by
    have h := Int.tmod_lt_of_pos (-p) hm
    rw [Int.neg_tmod] at h; omega
  have hw : wrap64 (p.tmod m + m) = p.tmod m + m := by unfold wrap64; omega
  have h3 : 0 ≤ (p.tmod m + m).tmod m := Int.tmod_nonneg m (by omega)
  have h4 : (p.tmod m + m).tmod m < m := Int.tmod_lt_of_pos _ hm
  refine ⟨((p.tmod m + m).tmod m).toNat, by rw [hw]; omega, by omega, by omega⟩
/-- What Delete leaves. -/
def DelS (w3 : World) (B g n1 : Nat) (l : List Ad) (e : Ending) (w4 : World) : Prop :=
  ∃ a c, e = .returned (.slice a n1 c) ∧ Hid (OwnL w4 B 34 2 adC (.slice a n1 c) l ∧ w3.grownBy w4 (some g) ∧ (Value.slice a n1 c).ownBlock = some g)
theorem del_for {B g cap i n1 : Nat} {l : List Ad} {w3 : World} (hn : l.length = n1 + 1) (hR : RowL w3 g 34 cap 2 adC l) (hB : B ≤ g) (hcap : cap ≤ maxLen) (hi : i ≤ n1) :
    Calls Try.prog 41 #[.slice (some ⟨g, 0, none⟩) (n1 + 1) cap, .int .i64 i, .int .i64 ((i : Int) + 1)] w3.drew (DelS w3 B g n1 (l.eraseIdx i)) := by
  have hR' : RowL w3.drew g 34 cap 2 adC l := hR
  refine (delAd_at B g cap l i n1 w3.drew hn hR' hB hcap hi).mono ?_
  rintro e w4 ⟨v', rfl, hown, hg, hob⟩
  have hl : (l.eraseIdx i).length = n1 := by rw [List.length_eraseIdx_of_lt (by omega)]; omega
  obtain ⟨a, c, rfl, _⟩ := hown.sl adC_len
  rw [hl] at hown hob ⊢
  exact ⟨a, c, rfl, hown, ⟨hg.os, hg.tape, hg.output, hg.size, hg.block⟩, hob⟩
/-- What stands at the head of the last loop. -/
structure RdW (w wr : World) (bw : Nat) (M : Mp) (picks : List Int) (S : List Ad) (vl vo : Value) (left out : List Ad) (E : List (Ad × Value)) : Prop where
  ownl : OwnL wr w.heap.size 34 2 adC vl left
  lb : ∀ g, vl.ownBlock = some g → g < bw
  owno : OwnL wr (bw + 1) 34 2 adC vo out
  map : MapIs wr bw E
  wait : WaitIs E left (fun a => cntM M a left)
  xt : Xt w wr
  base : w.heap.size ≤ bw
  many : left.length + out.length = S.length
  nodup : left.Nodup
  go : readyGo M picks left.length left out = readyGo M picks S.length S []
set_option maxRecDepth 100000 in
set_option maxHeartbeats 4000000 in
theorem ready_any (pb bm : Nat) (F : Nat → Prop) (M : Mp) (v u : Value) (l : List Ad) (picks : List Int) (w : World) (h : Lk w pb bm F M) (hF : ∀ b, F b → b < w.heap.size) (hv : SlOf w adC 2 v l) (hu : SlOf w inC 1 u picks) (hl : l.length ≤ 8796093022208) :
    Calls Try.prog 11 #[.pointer (some ⟨pb, 0, none⟩), v, u] w (ReadyR w (readyS M l picks)) := by
  obtain ⟨i0, hi, hz0, hz1, hz2⟩ := info_parts info34
  obtain ⟨j0, hj, hy0, hy1, hy2⟩ := info_parts info3
  have H := Lib.hid h
  have HF := Lib.hid hF
  have HV := Lib.hid hv
  have HU := Lib.hid hu
  obtain ⟨sa, cap, rfl, q1, q2, hcc⟩ := hv
  have HC := Lib.hid hcc
  obtain ⟨su, cu, rfl, pu1, pu2, puc⟩ := hu
  have HPC := Lib.hid puc
  clear h hF hcc puc
  go_enter Try.func11, Try.ntmps11
  go_wp2_with fail
  go_loopw [28] (fun i wr => ∃ k : Nat, k ≤ l.length ∧ i = .int .i64 k ∧ Hid ((l.take k).all (fun a => validB a.1 a.2) = true) ∧ Gr w wr) (fun i _ => l.length - (intOf i).toNat)
  case atStart => exact ⟨0, Nat.zero_le _, rfl, by unfold Hid; simp, Gr.refl _⟩
  case round =>
    obtain ⟨k, hk, rfl, HK, hg⟩ := hrel
    by_cases hlt : k < l.length
    · obtain ⟨b', off, rfl, hcell⟩ := HC.out (by intro h; simp [h] at hlt)
      obtain ⟨x, hx⟩ : ∃ x, l[k]? = some x := ⟨l[k], by simp [hlt]⟩
      obtain ⟨hgc, hgf⟩ := hg.xt.cells
      obtain ⟨d0, d1⟩ := ad_cells (hcell k x hx)
      have hb' : b' < w.heap.size := World.block_lt_of_cell? w _ d0
      have e : ∀ o, wr.cell? ⟨b', o, none⟩ = w.cell? ⟨b', o, none⟩ := fun o => hgc b' o hb'
      rw [← e] at d0 d1
      have z2 : b' < wr.heap.size := by have := hg.xt.sz; omega
      have HX := Lib.hid hx
      clear hcell e hgc hgf hb' hx
      cases hva : validB x.1 x.2
      · go_wp2_with fail
        refine (valid_any _ _ _).mono ?_
        rintro e w2 ⟨rfl, rfl⟩
        rw [hva]
        go_wp2_with fail
        go_ret2
        have hr : readyS M l picks = (20, []) := by unfold readyS; rw [if_pos (all_no HX.out hva)]
        rw [hr]
        exact ⟨_, rfl, World.ownsRow_nil _ _ _ _, ((hg.alloc _).alloc _).xt⟩
      · go_wp2_with fail
        refine (valid_any _ _ _).mono ?_
        rintro e w2 ⟨rfl, rfl⟩
        rw [hva]
        go_wp2_with fail
        go_roundw
        case rel => exact ⟨k + 1, by omega, by go_num, all_at HX.out HK.out hva, (hg.alloc _).alloc _⟩
        case measure => simp [intOf]; omega
    · have hkl : k = l.length := by omega
      subst hkl
      have HA : Hid (l.all (fun a => validB a.1 a.2) = true) := by have := HK.out; rwa [List.take_length] at this
      have HG := Lib.hid hg
      clear hg HK
      go_wp2_with fail
      refine (cloneAd_any _ l _ (HV.out.xt HG.out.xt) (by omega)).mono ?_
      rintro e w2 ⟨v1, rfl, hown1, hx1⟩
      go_wp2_with fail
      refine (sortAd_own hown1 (by omega)).mono ?_
      rintro e w3 ⟨rfl, hown2, hg3⟩
      go_wp2_with fail
      refine (compAd_own hown2).mono ?_
      rintro e w4 ⟨v2, rfl, hown4, hg4, hob⟩
      obtain ⟨s2, c2, rfl⟩ : ∃ s2 c2, v2 = .slice s2 (compL (sortL adLt l)).length c2 := by
        obtain ⟨s2, c2, hh, _⟩ := hown4.sl adC_len
        exact ⟨s2, c2, hh⟩
      have hrk := @run_makeMap Try.prog
      have HO4 := Lib.hid hown4
      have hB0 := HG.out.xt.sz
      have hx4 : Hid (Xt w w4) := ((HG.out.xt.trans hx1).ownG hown1 hB0 hg3).ownG hown2 hB0 hg4
      have HB4 : Hid (OwnL w4 w.heap.size 34 2 adC (.slice s2 (compL (sortL adLt l)).length c2) (compL (sortL adLt l))) := hown4.base hB0
      generalize hS : compL (sortL adLt l) = S at *
      have hSl : S.length ≤ 8796093022208 := by
        have := setA_len l; unfold setA at this; rw [hS] at this; omega
      have hSn : S.Nodup := by have := setA_nodup l; unfold setA at this; rwa [hS] at this
      have HSn := Lib.hid hSn
      obtain ⟨s2', c2', e2, r1, r2, hc4⟩ := hown4.sl adC_len
      cases e2
      have HC4 := Lib.hid hc4
      clear hown1 hx1 hown2 hg3 hown4 hg4 hob hSn hc4
      go_wp2_with fail
      clear hrk
      have hwm : MapIs (w4.alloc (Obj.map #[] 0)) w4.heap.size [] := MapIs.made w4
      obtain ⟨wA, hwA⟩ : ∃ wA, w4.alloc (Obj.map #[] 0) = wA := ⟨_, rfl⟩
      have hxA : Xt w4 wA := by rw [← hwA]; exact (Xt.refl _).alloc _
      have hsA : wA.heap.size = w4.heap.size + 1 := by rw [← hwA]; simp
      rw [hwA] at hwm ⊢
      clear hwA
      obtain ⟨bw, hbw⟩ : ∃ bw, w4.heap.size = bw := ⟨_, rfl⟩
      rw [hbw] at hwm hsA ⊢
      go_loopw [45] (fun i wr => ∃ k : Nat, k ≤ S.length ∧ i = .int .i64 k ∧ ∃ E, Hid (MapIs wr bw E) ∧ Hid (WaitIs E S (fun a => if a ∈ S.take k then cntM M a S else 0)) ∧ Hid (Xt w4 wr)) (fun i _ => S.length - (intOf i).toNat)
      case atStart => exact ⟨0, Nat.zero_le _, rfl, [], hwm, (by intro a ha; simp [lk]), hxA⟩
      case round =>
        obtain ⟨k, hk, rfl, E, HM, HW, HX⟩ := hrel
        by_cases hlt : k < S.length
        · obtain ⟨b', off, rfl, hcell⟩ := HC4.out (by intro h; simp [h] at hlt)
          obtain ⟨x, hx⟩ : ∃ x, S[k]? = some x := ⟨S[k], by simp [hlt]⟩
          obtain ⟨d0, d1⟩ := ad_cells (hcell k x hx)
          have hb' : b' < w4.heap.size := World.block_lt_of_cell? w4 _ d0
          have hcc := Lib.hid hcell
          have e : ∀ o, wr.cell? ⟨b', o, none⟩ = w4.cell? ⟨b', o, none⟩ := fun o => (HX.out.cells).1 b' o hb'
          rw [← e] at d0 d1
          have hz := HX.out.sz
          have z2 : b' < wr.heap.size := by omega
          have z3 : bw < wr.heap.size := HM.out.lt
          have HXx := Lib.hid hx
          clear hcell e hx hwm
          go_wp2_with fail
          obtain ⟨wB, hwB⟩ : ∃ wB, wr.alloc (Obj.cells #[Value.int IntKind.i64 x.fst, Value.int IntKind.i64 x.snd] 34) = wB := ⟨_, rfl⟩
          have hxB : Xt wr wB := by rw [← hwB]; exact (Xt.refl _).alloc _
          have hsB : wB.heap.size = wr.heap.size + 1 := by rw [← hwB]; simp
          have b0 : wB.cell? ⟨wr.heap.size, 0, none⟩ = some (.int .i64 x.1) := by rw [← hwB]; simp
          have b1 : wB.cell? ⟨wr.heap.size, 1, none⟩ = some (.int .i64 x.2) := by rw [← hwB]; simp
          have HMB : Hid (MapIs wB bw E) := HM.out.of_heap (RowKit.Below.block hxB _ z3)
          have HXB : Hid (Xt w4 wB) := HX.out.trans hxB
          have HWB : Hid (WaitIs E S (fun a => if a ∈ S.take k then cntM M a S else if a = x then cntM M a (S.take 0) else 0)) := by
            refine HW.out.congr fun a ha => ?_
            split
            · rfl
            · split
              · rfl
              · rfl
          rw [hwB]
          clear hwB hxB HM HX HW d0 d1 z2
          obtain ⟨wr0, hwr0⟩ : ∃ n, wr.heap.size = n := ⟨_, rfl⟩
          rw [hwr0] at hsB b0 b1 z3 hz ⊢
          go_loopw [51] (fun i wr' => ∃ j : Nat, j ≤ S.length ∧ i = .int .i64 j ∧ ∃ E, Hid (MapIs wr' bw E) ∧ Hid (WaitIs E S (fun a => if a ∈ S.take k then cntM M a S else if a = x then cntM M a (S.take j) else 0)) ∧ Hid (Xt w4 wr') ∧ wr0 < wr'.heap.size ∧ wr'.cell? ⟨wr0, 0, none⟩ = some (.int .i64 x.1) ∧ wr'.cell? ⟨wr0, 1, none⟩ = some (.int .i64 x.2)) (fun i _ => S.length - (intOf i).toNat)
          case atStart => exact ⟨0, Nat.zero_le _, rfl, E, HMB, HWB, HXB, by omega, b0, b1⟩
          case round =>
            obtain ⟨j, hj', rfl, E1, HM1, HW1, HX1, hs1, b01, b11⟩ := hrel
            by_cases hlt1 : j < S.length
            · obtain ⟨y, hy⟩ : ∃ y, S[j]? = some y := ⟨S[j], by simp [hlt1]⟩
              obtain ⟨d0, d1⟩ := ad_cells (hcc.out j y hy)
              have e : ∀ o, wr.cell? ⟨b', o, none⟩ = w4.cell? ⟨b', o, none⟩ := fun o => (HX1.out.cells).1 b' o hb'
              rw [← e] at d0 d1
              have hz1 := HX1.out.sz
              have z2 : b' < wr.heap.size := by omega
              have z4 : bw < wr.heap.size := HM1.out.lt
              have HY := Lib.hid hy
              clear e hy b0 b1 hsB
              cases hon : onM M x y
              · go_wp2_with fail
                refine (on_lk pb bm F M x y _ ?_).mono ?_
                · exact (H.out.xt HF.out (hx4.out.trans HX1.out)).xt (fun b hb => by have := HF.out b hb; have := (hx4.out.trans HX1.out).sz; omega) ((Xt.refl _).alloc _)
                rintro e w2 ⟨rfl, hg2⟩
                rw [hon]
                have hx2 : Hid (Xt wr w2) := ((Xt.refl wr).alloc _).trans hg2.xt
                go_wp2_with fail
                go_roundw
                case rel =>
                  refine ⟨j + 1, by omega, by go_num, E1, HM1.out.of_heap (RowKit.Below.block hx2.out _ z4), ?_, HX1.out.trans hx2.out, by have := hx2.out.sz; omega, ((hx2.out.cells).1 _ _ (by omega)).trans b01, ((hx2.out.cells).1 _ _ (by omega)).trans b11⟩
                  refine HW1.out.congr fun a ha => ?_
                  by_cases hax : a = x
                  · subst hax; rw [cntM_take HY.out, hon]; rfl
                  · simp only [hax, if_false]
                case measure => simp [intOf]; omega
              · go_wp2_with fail
                refine (on_lk pb bm F M x y _ ?_).mono ?_
                · exact (H.out.xt HF.out (hx4.out.trans HX1.out)).xt (fun b hb => by have := HF.out b hb; have := (hx4.out.trans HX1.out).sz; omega) ((Xt.refl _).alloc _)
                rintro e w2 ⟨rfl, hg2⟩
                rw [hon]
                have hx2 : Hid (Xt wr w2) := ((Xt.refl wr).alloc _).trans hg2.xt
                have b02 : w2.cell? ⟨wr0, 0, none⟩ = some (.int .i64 x.1) := ((hx2.out.cells).1 _ _ (by omega)).trans b01
                have b12 : w2.cell? ⟨wr0, 1, none⟩ = some (.int .i64 x.2) := ((hx2.out.cells).1 _ _ (by omega)).trans b11
                have hm2 : MapIs w2.drew bw E1 := HM1.out.of_heap (RowKit.Below.block hx2.out _ z4)
                have hxno : x ∉ S.take k := not_take HSn.out HXx.out
                have hcn := cntM_le M x (S.take j)
                have hval : (lk x E1).getD (.int .i64 0) = .int .i64 (cntM M x (S.take j)) := by
                  rw [HW1.out x (List.mem_of_getElem? HXx.out)]
                  simp only [hxno, if_false, if_true]
                have hcn2 : cntM M x (S.take j) ≤ S.length := by rw [List.length_take] at hcn; omega
                obtain ⟨w5, w6, st, g1, g2, g3, g4, HG⟩ := step_run hm2 x (cntM M x (S.take j)) (cntM M x (S.take j) + 1) hval
                have HXN := Lib.hid hxno
                generalize hcc0 : cntM M x (S.take j) = c0 at *
                clear hval hm2 hcn b01 b11 hg2 d0 d1 hxno
                go_wp2_with fail
                go_region
                all_goals
                  go_wp2_with fail
                  go_roundw
                  case rel =>
                    obtain ⟨G1, G2, G3⟩ := HG.out
                    refine ⟨j + 1, by omega, by go_num, upE x (.int .i64 (c0 + 1)) E1, G1, ?_, (HX1.out.trans hx2.out).drew.grownBy G2 (by omega), by have := hx2.out.sz; rw [G3]; show _ < w2.heap.size; omega, (cell_grown G2 (by have := hx2.out.sz; show _ < w2.heap.size; omega) (by omega)).trans b02, (cell_grown G2 (by have := hx2.out.sz; show _ < w2.heap.size; omega) (by omega)).trans b12⟩
                    rw [show ((c0 : Int) + 1) = ((c0 + 1 : Nat) : Int) by omega]
                    refine HW1.out.up ?_ ?_
                    · simp only [HXN.out, if_false, if_true]; rw [cntM_take HY.out, hon, hcc0]; rfl
                    · intro a ha hax
                      simp only [hax, if_false]
                  case measure => simp [intOf]; omega
            · go_wp2_with fail
              go_roundw
              case rel =>
                refine ⟨k + 1, by omega, by go_num, E1, HM1.out, ?_, HX1.out⟩
                refine HW1.out.congr fun a ha => ?_
                have hjl : j = S.length := by omega
                subst hjl
                rw [List.take_length, List.take_add_one, HXx.out]
                simp only [Option.toList_some, List.mem_append, List.mem_singleton]
                by_cases h1 : a ∈ S.take k
                · simp [h1]
                · by_cases h2 : a = x
                  · simp [h1, h2]
                  · simp [h1, h2]
              case measure => simp [intOf]; omega
        · have hkl : k = S.length := by omega
          subst hkl
          have HW0 : Hid (WaitIs E S (fun a => cntM M a S)) := by
            refine HW.out.congr fun a ha => ?_
            rw [List.take_length, if_pos ha]
          go_wp2_with fail
          have HR : Hid (RdW w wr bw M picks S (.slice s2 S.length c2) (.slice none 0 0) S [] E) :=
            ⟨HB4.out.xt HX.out, fun g hg => by rw [← hbw]; exact (World.ownsRow.lt HB4.out g hg).2, World.ownsRow_nil _ _ _ _, HM.out, HW0.out, hx4.out.trans HX.out, by rw [← hbw]; exact hx4.out.sz, by simp, HSn.out, rfl⟩
          clear HM HW HW0 HX hwm HB4
          go_loopw [10, 16] (fun vl vo wr => ∃ (left out : List Ad) (E : List (Ad × Value)), Hid (RdW w wr bw M picks S vl vo left out E) ∧ vl = .slice (slAt vl) left.length (slCap vl) ∧ vo = .slice (slAt vo) out.length (slCap vo)) (fun vl _ _ => slLen vl)
          case atStart => exact ⟨S, [], E, HR, rfl, rfl⟩
          case round =>
            obtain ⟨left, out, E1, HR1, hvl, hvo⟩ := hrel
            generalize slAt u10 = al at *
            generalize slCap u10 = cl at *
            generalize slAt u16 = ao at *
            generalize slCap u16 = co at *
            subst hvl hvo
            by_cases hne : left = []
            · subst hne
              go_wp2_with fail
              go_ret2
              have hgo := HR1.out.go
              have : readyS M l picks = (0, out) := readyS_ok HA.out (by unfold setA; rw [hS, ← hgo]; simp [readyGo])
              rw [this]
              exact ⟨_, rfl, HR1.out.owno.base (by have := HR1.out.base; omega), HR1.out.xt⟩
            · obtain ⟨n1, hn1⟩ : ∃ n1, left.length = n1 + 1 := ⟨left.length - 1, by have := List.length_pos_iff.2 hne; omega⟩
              obtain ⟨g, cap1, hgv, hgb, hgc, hrow⟩ := RowL.of_own HR1.out.ownl adC_len hne
              have hgl : g < bw := HR1.out.lb g (by rw [hgv]; rfl)
              cases hgv
              have HROW := Lib.hid hrow
              have hbwr : bw < wr.heap.size := HR1.out.map.lt
              have hn1' : n1 + 1 + out.length ≤ 8796093022208 := by have := HR1.out.many; omega
              have HN1 := Lib.hid hn1
              have hc0 := HR1.out.map.lt
              rw [hn1]
              clear hn1 hrow
              go_wp2_with fail
              obtain ⟨wq, hwq⟩ : ∃ wq, wq = wr := ⟨_, rfl⟩
              subst hwq
              go_loopw [17, 72] (fun vm i wr' => ∃ j : Nat, j ≤ n1 + 1 ∧ i = .int .i64 j ∧ Hid (OwnL wr' wq.heap.size 3 1 inC vm (mayL (freeM M left) (left.take j) 0)) ∧ Hid (Xt wq wr')) (fun _ i _ => n1 + 1 - (intOf i).toNat)
              case atStart => exact ⟨0, Nat.zero_le _, rfl, World.ownsRow_nil _ _ _ _, Xt.refl _⟩
              case round =>
                obtain ⟨j, hj', rfl, HO5, HX5⟩ := hrel
                have hx5 := HX5.out
                have z5 := hx5.sz
                have hmB : MapIs wr bw E1 := HR1.out.map.of_heap (RowKit.Below.block hx5 _ hbwr)
                by_cases hlt5 : j < n1 + 1
                · obtain ⟨x, hx⟩ : ∃ x, left[j]? = some x := ⟨left[j]'(by rw [HN1.out]; exact hlt5), by simp⟩
                  obtain ⟨d0, d1⟩ := ad_cells (HROW.out.cell hx)
                  have e : ∀ o, wr.cell? ⟨g, o, none⟩ = wq.cell? ⟨g, o, none⟩ := fun o => (hx5.cells).1 g o (by omega)
                  rw [← e] at d0 d1
                  have z2 : g < wr.heap.size := by omega
                  have hval := HR1.out.wait x (List.mem_of_getElem? hx)
                  have hlk := (hmB.of_heap (w' := wr.alloc (.cells #[.int .i64 x.1, .int .i64 x.2] 34)) (Below.heap_alloc wr _ _ hmB.lt)).lookup (P := Try.prog) adrKey Try.underlying71 zero3 x
                  rw [hval] at hlk
                  simp only [adV] at hlk
                  have HX := Lib.hid hx
                  have hmt := mayL_take (f := freeM M left) hx
                  have HMT := Lib.hid hmt
                  have hml := mayL_len (freeM M left) (left.take j) 0
                  have hml2 : (mayL (freeM M left) (left.take j) 0).length ≤ 8796093022208 := by rw [List.length_take] at hml; omega
                  clear e hx hmt hml hval hmB
                  cases hf : freeM M left x
                  · obtain ⟨n, hn, hn0⟩ : ∃ n : Int, n = (cntM M x left : Int) ∧ ¬ n = 0 := ⟨_, rfl, by unfold freeM at hf; simp at hf; omega⟩
                    rw [← hn] at hlk
                    have hd : (n == 0) = false := by simp [hn0]
                    have hji : (j : Int) < (n1 : Int) + 1 := by omega
                    clear hn hn0
                    go_wp2_with fail
                    go_roundw
                    case rel =>
                      have hxa : Xt wr (wr.alloc (.cells #[.int .i64 x.1, .int .i64 x.2] 34)) := (Xt.refl _).alloc _
                      refine ⟨j + 1, by omega, by go_num, ?_, HX5.out.trans hxa⟩
                      rw [HMT.out, hf]
                      simp only [Bool.false_eq_true, if_false, List.append_nil]; exact HO5.out.xt hxa
                    case measure => simp [intOf]; omega
                  · have hn : cntM M x left = 0 := by unfold freeM at hf; simpa using hf
                    rw [hn] at hlk
                    have hji : (j : Int) < (n1 : Int) + 1 := by omega
                    have hown5 := HO5.out
                    have hxa : Xt wr (wr.alloc (.cells #[.int .i64 x.1, .int .i64 x.2] 34)) := (Xt.refl _).alloc _
                    generalize hfe : mayL (freeM M left) (left.take j) 0 = fs at hown5 hml2
                    have HFE := Lib.hid hfe
                    have hown5' : (wr.alloc (.cells #[.int .i64 x.1, .int .i64 x.2] 34)).ownsRow wq.heap.size 3 1 u17 fs.length (fs.flatMap inC) := hown5.xt hxa
                    have HO5' := Lib.hid hown5'
                    clear hn hfe hown5
                    go_wp2_with (at_builtin; refine wpList_append_own _ rfl _ _ 24 rfl wq.heap.size 3 j0 (.int .i64 0) 1 8 Try.underlying24 hj hy0 hy1 hy2 rfl (by decide) _ _ _ rfl (hown5'.alloc _) ⟨wr.heap.size + 1, 0, none⟩ 1 1 [.int .i64 j] rfl rfl (news_at _ [.int .i64 j] 3 (by simp)) (inC_one j) ?c4 ?c5 ?c6 ?_)
                    case c4 => unfold maxLen; omega
                    case c5 => omega
                    case c6 => first | omega | (simp; omega)
                    intro v' w3 hown3 hg3 _
                    have hgA : (wr.alloc (.cells #[.int .i64 x.1, .int .i64 x.2] 34)).grownBy w3 u17.ownBlock := (World.grownBy_alloc _ _ _).trans hg3
                    go_wp2_with fail
                    go_roundw
                    case rel =>
                      refine ⟨j + 1, by omega, by go_num, ?_, (HX5.out.trans hxa).ownG HO5'.out (Nat.le_refl _) hgA⟩
                      rw [HMT.out, hf, HFE.out]; exact OwnL.snoc hown3
                    case measure => simp [intOf]; omega
                · have hjl : j = n1 + 1 := by omega
                  subst hjl
                  have hto : (left.take (n1 + 1)) = left := by rw [← HN1.out, List.take_length]
                  rw [hto] at HO5
                  have hml := mayL_len (freeM M left) left 0
                  rw [HN1.out] at hml
                  clear hlt5 hj' hto
                  by_cases hmz : mayL (freeM M left) left 0 = []
                  · obtain ⟨am, cm, rfl, _⟩ := HO5.out.sl inC_len
                    rw [hmz]
                    go_wp2_with fail
                    go_ret2
                    have hgo := HR1.out.go
                    rw [HN1.out, readyGo_none hne hmz] at hgo
                    have : readyS M l picks = (40, []) := readyS_no HA.out (by unfold setA; rw [hS, ← hgo])
                    rw [this]
                    exact ⟨_, rfl, World.ownsRow_nil _ _ _ _, HR1.out.xt.trans hx5⟩
                  · obtain ⟨gm, capm, hgm, hgmb, hgmc, hrowm⟩ := RowL.of_own HO5.out inC_len hmz
                    cases hgm
                    have HRM := Lib.hid hrowm
                    have HMZ := Lib.hid hmz
                    have hm1 : 0 < (mayL (freeM M left) left 0).length := List.length_pos_iff.2 hmz
                    generalize hmay : mayL (freeM M left) left 0 = may at *
                    have HMay := Lib.hid hmay
                    have hmi : (0 : Int) < (may.length : Int) := by omega
                    have hmi0 : ((may.length : Int) == 0) = false := by rw [beq_eq_false_iff_ne]; omega
                    have hmn : ¬ (may.length : Int) = 0 := by omega
                    clear hmay hrowm hmz
                    by_cases hp : out.length < picks.length
                    · obtain ⟨bu, ou, rfl, hcu⟩ := HPC.out (by intro h; simp [h] at hp)
                      obtain ⟨p, hpp⟩ : ∃ p, picks[out.length]? = some p := ⟨picks[out.length], by simp [hp]⟩
                      have pc0 := hcu _ _ hpp 0 (.int .i64 p) rfl
                      rw [Nat.mul_one, Nat.add_zero] at pc0
                      have hbu : bu < w.heap.size := World.block_lt_of_cell? w _ pc0
                      have pc1 : wr.cell? ⟨bu, ou + out.length, none⟩ = some (.int .i64 p) := (((HR1.out.xt.trans hx5).cells).1 _ _ hbu).trans pc0
                      obtain ⟨K, hK, hKm, hKp⟩ := pick_pos (p := p) hmi (by omega)
                      have hKm : K < may.length := by omega
                      have HPK : Hid (pickK picks out.length may.length = (K : Int)) := by
                        have hpe : picks[out.length] = p := (List.getElem?_eq_some_iff.1 hpp).2
                        show _ = _
                        unfold pickK; rw [dif_pos hp, hpe, hKp]
                      clear hcu hpp hKp
                      obtain ⟨ii, hii, hiin⟩ : ∃ ii : Nat, may[K]? = some (ii : Int) ∧ ii < n1 + 1 := by
                        obtain ⟨a, ha⟩ : ∃ a, may[K]? = some a := ⟨may[K]'hKm, by simp⟩
                        obtain ⟨ii, rfl, h2⟩ := mayL_mem (i := 0) (l := left) (f := freeM M left) (by rw [HMay.out]; exact List.mem_of_getElem? ha)
                        exact ⟨ii, by rw [ha]; simp, by rw [← HN1.out]; exact h2⟩
                      obtain ⟨x, hx⟩ : ∃ x, left[ii]? = some x := ⟨left[ii]'(by rw [HN1.out]; exact hiin), by simp⟩
                      have HII := Lib.hid hii
                      have HX := Lib.hid hx
                      have k0 := HRM.out.cell hii 0 (.int .i64 ii) rfl
                      rw [Nat.mul_one, Nat.add_zero] at k0
                      obtain ⟨d0, d1⟩ := ad_cells (HROW.out.cell hx)
                      have e : ∀ o, wr.cell? ⟨g, o, none⟩ = wq.cell? ⟨g, o, none⟩ := fun o => (hx5.cells).1 g o (by omega)
                      rw [← e] at d0 d1
                      have hgw : g < wr.heap.size := by omega
                      have hgmw : gm < wr.heap.size := World.block_lt_of_cell? wr _ k0
                      have hKi : (K : Int) < (may.length : Int) := by omega
                      have hii2 : (ii : Int) < (n1 : Int) + 1 := by omega
                      have hii3 : IntKind.i64.wrap ((ii : Int) + 1) = (ii : Int) + 1 := wrap_succ (Nat.lt_of_lt_of_le hiin (by omega))
                      have HII3 := Lib.hid hii3
                      clear hii3
                      have hown5 : (wr.alloc (.cells #[.int .i64 x.1, .int .i64 x.2] 34)).ownsRow (bw + 1) 34 2 (.slice ao out.length co) out.length (out.flatMap adC) := (HR1.out.owno.xt hx5).xt ((Xt.refl _).alloc _)
                      have HO6 := Lib.hid hown5
                      have b0 : (wr.alloc (.cells #[.int .i64 x.1, .int .i64 x.2] 34)).cell? ⟨wr.heap.size, 0, none⟩ = some (.int .i64 x.1) := by simp
                      have b1 : (wr.alloc (.cells #[.int .i64 x.1, .int .i64 x.2] 34)).cell? ⟨wr.heap.size, 1, none⟩ = some (.int .i64 x.2) := by simp
                      have hpi : (out.length : Int) < (picks.length : Int) := by omega
                      clear hii hx e hp
                      go_wp2_with (at_builtin; refine wpList_append_own _ rfl _ _ 23 rfl (bw + 1) 34 i0 (.agg #[.int .i64 0, .int .i64 0]) 2 16 Try.underlying23 hi hz0 hz1 hz2 rfl (by decide) _ _ _ rfl (hown5.alloc _) ⟨wr.heap.size + 1, 0, none⟩ 1 1 [.int .i64 x.1, .int .i64 x.2] rfl rfl (news_at _ [.int .i64 x.1, .int .i64 x.2] 34 (by simp)) (adC_one x) ?c4 ?c5 ?c6 ?_)
                      case c4 => unfold maxLen; omega
                      case c5 => omega
                      case c6 => first | omega | (simp; omega)
                      intro v' w3 hown3 hg3 _
                      have hr : ∀ k, (Value.slice ao out.length co).ownBlock = some k → bw + 1 ≤ k ∧ k < wq.heap.size := World.ownsRow.lt HR1.out.owno
                      have hG1 : (wr.alloc (.cells #[.int .i64 x.1, .int .i64 x.2] 34)).grownBy w3 (Value.slice ao out.length co).ownBlock := (World.grownBy_alloc _ _ _).trans hg3
                      have hG : wr.grownBy w3 (Value.slice ao out.length co).ownBlock := (World.grownBy_alloc _ _ _).trans hG1
                      have hkeep : ∀ b, b < wr.heap.size → (b ≤ bw ∨ wq.heap.size ≤ b) → w3.heap[b]? = wr.heap[b]? := fun b hb h => hG.block b hb (fun e => by have := hr b e.symm; omega)
                      have hs3 : wr.heap.size < w3.heap.size := by have := hG1.size; simp at this; omega
                      have hbx : w3.heap[wr.heap.size]? = (wr.alloc (.cells #[.int .i64 x.1, .int .i64 x.2] 34)).heap[wr.heap.size]? := hG1.block _ (by simp) (fun e => by have := hr _ e.symm; omega)
                      have b03 : w3.cell? ⟨wr.heap.size, 0, none⟩ = some (.int .i64 x.1) := (World.cell?_of_block (w := wr.alloc (.cells #[.int .i64 x.1, .int .i64 x.2] 34)) (a := ⟨wr.heap.size, 0, none⟩) hbx).trans b0
                      have b13 : w3.cell? ⟨wr.heap.size, 1, none⟩ = some (.int .i64 x.2) := (World.cell?_of_block (w := wr.alloc (.cells #[.int .i64 x.1, .int .i64 x.2] 34)) (a := ⟨wr.heap.size, 1, none⟩) hbx).trans b1
                      have k3 : w3.cell? ⟨gm, K, none⟩ = some (.int .i64 ii) := (World.cell?_of_block (w := wr) (a := ⟨gm, K, none⟩) (hkeep gm hgmw (Or.inr hgmb))).trans k0
                      have hrow3 : RowL w3 g 34 cl 2 adC left := HROW.out.of_heap ((hkeep g hgw (Or.inl (by omega))).trans (RowKit.Below.block hx5 g (by omega)))
                      have hdel := Lib.hid (del_for (i := ii) HN1.out hrow3 hgb hgc (by omega))
                      have hm3 : Hid (MapIs w3 bw E1) := HR1.out.map.of_heap ((hkeep bw (by omega) (Or.inl (Nat.le_refl _))).trans (RowKit.Below.block hx5 bw hbwr))
                      have hx3 : Hid (Xt w w3) := (HR1.out.xt.trans hx5).ownG (HR1.out.owno.xt hx5) (by have := HR1.out.base; omega) hG
                      have ho3 : Hid (OwnL w3 (bw + 1) 34 2 adC v' (out ++ [x])) := OwnL.snoc hown3
                      have HKEEP := Lib.hid hkeep
                      have hwbw : w.heap.size ≤ bw := HR1.out.base
                      obtain ⟨w3s, hw3s⟩ : ∃ n, wr.heap.size = n := ⟨_, rfl⟩
                      rw [hw3s] at b03 b13 hs3
                      have hbs : bw < w3s := by omega
                      have HW3S := Lib.hid hw3s
                      clear hG hG1 hg3 hown3 hkeep hbx hrow3 b0 b1 hr k0 d0 d1 hown5 pc1 pc0
                      have hadd : wrap64 ((ii : Int) + 1) = (ii : Int) + 1 := by unfold wrap64; omega
                      go_wp2_with fail
                      rw [hw3s]
                      clear hw3s
                      refine wp_region_still_tail 10 (by kernel_rfl) (by kernel_rfl) ?_
                      change wpStill _ _ (World.drew _) _ _ _
                      simp only [List.take_succ_cons, List.take_zero, List.drop_succ_cons, List.drop_zero]
                      still_step
                      still_step
                      still_step
                      still_step
                      still_step
                      still_step
                      still_step
                      still_step
                      still_step
                      still_step
                      refine wpStill_nil ?_
                      change wpList _ _ _ _ _ (World.drew _)
                      have hadd2 : IntKind.i64.wrap ((ii : Int) + 1) = (ii : Int) + 1 := HII3.out
                      refine wpList_step (fun K hK => ?_)
                      go_simp
                      refine hdel.out.mono ?_
                      rintro e w5 ⟨a5, c5, rfl, HH⟩
                      refine hK _ _ ?_
                      clear hK K
                      obtain ⟨hown5, hg5, hob5⟩ := HH.out
                      have HOW := Lib.hid hown5
                      have HOB := Lib.hid hob5
                      have HG5 := Lib.hid hg5
                      have hs5 := hg5.size
                      have hm5 : Hid (MapIs w5 bw E1) := hm3.out.of_heap (hg5.block bw (by omega) (fun e => by cases e; omega))
                      have b05 : w5.cell? ⟨w3s, 0, none⟩ = some (.int .i64 x.1) := (cell_grown hg5 hs3 (by omega)).trans b03
                      have b15 : w5.cell? ⟨w3s, 1, none⟩ = some (.int .i64 x.2) := (cell_grown hg5 hs3 (by omega)).trans b13
                      have ho5 : Hid (OwnL w5 (bw + 1) 34 2 adC v' (out ++ [x])) := World.ownsRow.kept ho3.out hg5 (own_ne ho3.out (by omega))
                      have hx5' : Hid (Xt w w5) := hx3.out.grownBy hg5 hgb
                      have HER : Hid ((left.eraseIdx ii).length = n1) := by
                        show (left.eraseIdx ii).length = n1
                        rw [List.length_eraseIdx_of_lt (by rw [HN1.out]; exact hiin), HN1.out]; omega
                      have HND : Hid ((left.eraseIdx ii).Nodup) := HR1.out.nodup.sublist (List.eraseIdx_sublist ..)
                      have HWT : Hid (WaitIs E1 (left.eraseIdx ii) (fun a => if a ∈ (left.eraseIdx ii).take 0 then cntM M a (left.eraseIdx ii) else cntM M a left)) := by
                        refine (HR1.out.wait.sub (fun a ha => List.mem_of_mem_eraseIdx ha)).congr fun a ha => ?_
                        simp
                      have HGO : Hid (readyGo M picks (left.eraseIdx ii).length (left.eraseIdx ii) (out ++ [x]) = readyGo M picks S.length S []) := by
                        show _ = _
                        rw [← HR1.out.go, HN1.out, readyGo_some hne (by rw [HMay.out]; exact HMZ.out) (i := ii) (x := x) ?_ HX.out, HER.out]
                        rw [HMay.out, HPK.out, List.getD_eq_getElem?_getD, Int.toNat_natCast, HII.out]; simp
                      have HCE : Hid (∀ a, cntM M a left = cntM M a (left.eraseIdx ii) + (if onM M a x then 1 else 0)) := fun a => cntM_erase HX.out
                      have hmany1 := HR1.out.many
                      have HMANY : Hid (n1 + 1 + out.length = S.length) := by have := HN1.out; show _ = _; omega
                      have hsb : w3s ≠ bw := by omega
                      have hs35 : w3s < w5.heap.size := by omega
                      have hbw5 : bw < w5.heap.size := by omega
                      have hgbw : g < bw := hgl
                      have hLmem : Hid (∀ a, a ∈ left.eraseIdx ii → a ∈ left) := fun a ha => List.mem_of_mem_eraseIdx ha
                      generalize hl1 : left.eraseIdx ii = left1 at *
                      have hnl : n1 ≤ 8796093022208 := by omega
                      obtain ⟨av, cv, ev, _⟩ := ho5.out.sl adC_len
                      have HEV := Lib.hid ev
                      clear ev
                      clear hown5 hob5 hg5 hm3 hx3 ho3 b03 b13 k3 hl1 hmany1 HH hdel
                      go_wp2_with fail
                      go_loopw [132] (fun i wr => ∃ j : Nat, j ≤ n1 ∧ i = .int .i64 j ∧ ∃ E, Hid (MapIs wr bw E) ∧ Hid (WaitIs E left1 (fun a => if a ∈ left1.take j then cntM M a left1 else cntM M a left)) ∧ Hid (w5.grownBy wr (some bw))) (fun i _ => n1 - (intOf i).toNat)
                      case atStart => exact ⟨0, Nat.zero_le _, rfl, E1, hm5, HWT, ⟨rfl, rfl, rfl, Nat.le_refl _, fun _ _ _ => rfl⟩⟩
                      case round =>
                        obtain ⟨j, hj', rfl, E6, HM6, HW6, HG6⟩ := hrel
                        have hs6 := HG6.out.size
                        by_cases hlt6 : j < n1
                        · have hne1 : left1 ≠ [] := by intro h; have := HER.out; rw [h] at this; simp at this; omega
                          obtain ⟨g', cap', hgv, _, _, hrow6⟩ := RowL.of_own HOW.out adC_len hne1
                          have ha5 : a5 = some ⟨g', 0, none⟩ := by injection hgv
                          subst ha5
                          have hgg : g' = g := by have h := HOB.out; simpa [Value.ownBlock] using h
                          subst hgg
                          obtain ⟨y, hy⟩ : ∃ y, left1[j]? = some y := ⟨left1[j]'(by rw [HER.out]; exact hlt6), by simp⟩
                          obtain ⟨d0, d1⟩ := ad_cells (hrow6.cell hy)
                          have hg5s : g' < w5.heap.size := by omega
                          rw [← cell_grown HG6.out hg5s (by omega)] at d0 d1
                          have b06 : wr.cell? ⟨w3s, 0, none⟩ = some (.int .i64 x.1) := (cell_grown HG6.out hs35 hsb).trans b05
                          have b16 : wr.cell? ⟨w3s, 1, none⟩ = some (.int .i64 x.2) := (cell_grown HG6.out hs35 hsb).trans b15
                          have z6 : g' < wr.heap.size := by omega
                          have z7 : w3s < wr.heap.size := by omega
                          have z8 : bw < wr.heap.size := by omega
                          have HY := Lib.hid hy
                          have hxw : Hid (Xt w wr) := hx5'.out.grownBy HG6.out hwbw
                          have HB7 := Lib.hid b05
                          have HB8 := Lib.hid b15
                          clear hy hrow6 b05 b15 hgv
                          cases hon : onM M y x
                          · go_wp2_with fail
                            refine (on_lk pb bm F M y x _ ?_).mono ?_
                            · exact (H.out.xt HF.out hxw.out).xt (fun b hb => by have := HF.out b hb; have := hxw.out.sz; omega) ((Xt.refl _).alloc _)
                            rintro e w2 ⟨rfl, hg2⟩
                            rw [hon]
                            have hx2 : Hid (Xt wr w2) := ((Xt.refl wr).alloc _).trans hg2.xt
                            go_wp2_with fail
                            go_roundw
                            case rel =>
                              refine ⟨j + 1, by omega, by go_num, E6, HM6.out.of_heap (RowKit.Below.block hx2.out _ z8), ?_, gb_trans HG6.out (hx2.out.grown _)⟩
                              refine HW6.out.congr fun a ha => ?_
                              rw [List.take_add_one, HY.out]
                              simp only [Option.toList_some, List.mem_append, List.mem_singleton]
                              by_cases h1 : a ∈ left1.take j
                              · simp only [h1, true_or, if_true]
                              · by_cases h2 : a = y
                                · simp only [h1, h2, or_true, if_true, if_false]
                                  have := HCE.out y; rw [hon] at this; simp at this
                                  split <;> omega
                                · simp only [h1, h2, or_self, if_false]
                            case measure => simp [intOf]; omega
                          · go_wp2_with fail
                            refine (on_lk pb bm F M y x _ ?_).mono ?_
                            · exact (H.out.xt HF.out hxw.out).xt (fun b hb => by have := HF.out b hb; have := hxw.out.sz; omega) ((Xt.refl _).alloc _)
                            rintro e w2 ⟨rfl, hg2⟩
                            rw [hon]
                            have hx2 : Hid (Xt wr w2) := ((Xt.refl wr).alloc _).trans hg2.xt
                            have c02 : w2.cell? ⟨wr.heap.size, 0, none⟩ = some (.int .i64 y.1) := ((hg2.xt.cells).1 _ _ (by simp)).trans (by simp)
                            have c12 : w2.cell? ⟨wr.heap.size, 1, none⟩ = some (.int .i64 y.2) := ((hg2.xt.cells).1 _ _ (by simp)).trans (by simp)
                            have hs2 : wr.heap.size < w2.heap.size := by have := hg2.xt.sz; simp at this; omega
                            have hm2 : MapIs w2.drew bw E6 := HM6.out.of_heap (RowKit.Below.block hx2.out _ z8)
                            have hyno : y ∉ left1.take j := not_take HND.out HY.out
                            have hval : (lk y E6).getD (.int .i64 0) = .int .i64 (cntM M y left) := by
                              rw [HW6.out y (List.mem_of_getElem? HY.out)]
                              simp only [hyno, if_false]
                            have hcn := cntM_le M y left
                            rw [HN1.out] at hcn
                            have hce := HCE.out y
                            rw [hon] at hce
                            simp only [if_true] at hce
                            obtain ⟨w7, w6, st, g1, g2, g3, g4, HG⟩ := step_run hm2 y (cntM M y left) (cntM M y left - 1) hval
                            have HYN := Lib.hid hyno
                            have HCE1 := Lib.hid hce
                            generalize hcc0 : cntM M y left = c0 at *
                            have hc1 : 1 ≤ (c0 : Int) := by omega
                            clear hval hm2 b06 b16 hg2 d0 d1 hyno hce
                            go_wp2_with fail
                            go_region
                            all_goals
                              go_wp2_with fail
                              go_roundw
                              case rel =>
                                obtain ⟨G1, G2, G3⟩ := HG.out
                                refine ⟨j + 1, by omega, by go_num, upE y (.int .i64 (c0 - 1)) E6, G1, ?_, gb_trans (gb_trans HG6.out ((hx2.out.drew).grown _)) G2⟩
                                have hc0 := HCE1.out
                                rw [show ((c0 : Int) - 1) = ((c0 - 1 : Nat) : Int) by omega]
                                refine HW6.out.up ?_ ?_
                                · rw [List.take_add_one, HY.out]
                                  simp only [Option.toList_some, List.mem_append, List.mem_singleton, or_true, if_true]
                                  omega
                                · intro a ha hay
                                  rw [List.take_add_one, HY.out]
                                  simp only [Option.toList_some, List.mem_append, List.mem_singleton, hay, or_false]
                              case measure => simp [intOf]; omega
                        · have hjn : j = n1 := by omega
                          subst hjn
                          go_wp2_with fail
                          go_roundw
                          case rel =>
                            refine ⟨left1, out ++ [x], E6, ⟨World.ownsRow.kept HOW.out HG6.out (Or.inr (by rw [HOB.out]; intro e; cases e; omega)), fun q hq => by rw [HOB.out] at hq; cases hq; exact hgbw, World.ownsRow.kept ho5.out HG6.out (own_ne ho5.out (by omega)), HM6.out, ?_, hx5'.out.grownBy HG6.out hwbw, hwbw, by rw [HER.out]; simp; have := HMANY.out; omega, HND.out, HGO.out⟩, by rw [HER.out]; rfl, by rw [HEV.out]; rfl⟩
                            refine HW6.out.congr fun a ha => ?_
                            have : left1.take j = left1 := by rw [← HER.out, List.take_length]
                            rw [this, if_pos ha]
                          case measure => simp [slLen]
                    · have HPK : Hid (pickK picks out.length may.length = 0) := by
                        show _ = _
                        unfold pickK; rw [dif_neg hp]
                      obtain ⟨ii, hii, hiin⟩ : ∃ ii : Nat, may[0]? = some (ii : Int) ∧ ii < n1 + 1 := by
                        obtain ⟨a, ha⟩ : ∃ a, may[0]? = some a := ⟨may[0]'hm1, by simp⟩
                        obtain ⟨ii, rfl, h2⟩ := mayL_mem (i := 0) (l := left) (f := freeM M left) (by rw [HMay.out]; exact List.mem_of_getElem? ha)
                        exact ⟨ii, by rw [ha]; simp, by rw [← HN1.out]; exact h2⟩
                      obtain ⟨x, hx⟩ : ∃ x, left[ii]? = some x := ⟨left[ii]'(by rw [HN1.out]; exact hiin), by simp⟩
                      have HII := Lib.hid hii
                      have HX := Lib.hid hx
                      have k0 := HRM.out.cell hii 0 (.int .i64 ii) rfl
                      simp only [Nat.mul_one, Nat.add_zero] at k0
                      obtain ⟨d0, d1⟩ := ad_cells (HROW.out.cell hx)
                      have e : ∀ o, wr.cell? ⟨g, o, none⟩ = wq.cell? ⟨g, o, none⟩ := fun o => (hx5.cells).1 g o (by omega)
                      rw [← e] at d0 d1
                      have hgw : g < wr.heap.size := by omega
                      have hgmw : gm < wr.heap.size := World.block_lt_of_cell? wr _ k0
                      have hKi : (0 : Int) < (may.length : Int) := by omega
                      have hii2 : (ii : Int) < (n1 : Int) + 1 := by omega
                      have hii3 : IntKind.i64.wrap ((ii : Int) + 1) = (ii : Int) + 1 := wrap_succ (Nat.lt_of_lt_of_le hiin (by omega))
                      have HII3 := Lib.hid hii3
                      clear hii3
                      have hown5 : (wr.alloc (.cells #[.int .i64 x.1, .int .i64 x.2] 34)).ownsRow (bw + 1) 34 2 (.slice ao out.length co) out.length (out.flatMap adC) := (HR1.out.owno.xt hx5).xt ((Xt.refl _).alloc _)
                      have HO6 := Lib.hid hown5
                      have b0 : (wr.alloc (.cells #[.int .i64 x.1, .int .i64 x.2] 34)).cell? ⟨wr.heap.size, 0, none⟩ = some (.int .i64 x.1) := by simp
                      have b1 : (wr.alloc (.cells #[.int .i64 x.1, .int .i64 x.2] 34)).cell? ⟨wr.heap.size, 1, none⟩ = some (.int .i64 x.2) := by simp
                      have hpi : ¬ (out.length : Int) < (picks.length : Int) := by omega
                      clear hii hx e hp
                      go_wp2_with (at_builtin; refine wpList_append_own _ rfl _ _ 23 rfl (bw + 1) 34 i0 (.agg #[.int .i64 0, .int .i64 0]) 2 16 Try.underlying23 hi hz0 hz1 hz2 rfl (by decide) _ _ _ rfl (hown5.alloc _) ⟨wr.heap.size + 1, 0, none⟩ 1 1 [.int .i64 x.1, .int .i64 x.2] rfl rfl (news_at _ [.int .i64 x.1, .int .i64 x.2] 34 (by simp)) (adC_one x) ?c4 ?c5 ?c6 ?_)
                      case c4 => unfold maxLen; omega
                      case c5 => omega
                      case c6 => first | omega | (simp; omega)
                      intro v' w3 hown3 hg3 _
                      have hr : ∀ k, (Value.slice ao out.length co).ownBlock = some k → bw + 1 ≤ k ∧ k < wq.heap.size := World.ownsRow.lt HR1.out.owno
                      have hG1 : (wr.alloc (.cells #[.int .i64 x.1, .int .i64 x.2] 34)).grownBy w3 (Value.slice ao out.length co).ownBlock := (World.grownBy_alloc _ _ _).trans hg3
                      have hG : wr.grownBy w3 (Value.slice ao out.length co).ownBlock := (World.grownBy_alloc _ _ _).trans hG1
                      have hkeep : ∀ b, b < wr.heap.size → (b ≤ bw ∨ wq.heap.size ≤ b) → w3.heap[b]? = wr.heap[b]? := fun b hb h => hG.block b hb (fun e => by have := hr b e.symm; omega)
                      have hs3 : wr.heap.size < w3.heap.size := by have := hG1.size; simp at this; omega
                      have hbx : w3.heap[wr.heap.size]? = (wr.alloc (.cells #[.int .i64 x.1, .int .i64 x.2] 34)).heap[wr.heap.size]? := hG1.block _ (by simp) (fun e => by have := hr _ e.symm; omega)
                      have b03 : w3.cell? ⟨wr.heap.size, 0, none⟩ = some (.int .i64 x.1) := (World.cell?_of_block (w := wr.alloc (.cells #[.int .i64 x.1, .int .i64 x.2] 34)) (a := ⟨wr.heap.size, 0, none⟩) hbx).trans b0
                      have b13 : w3.cell? ⟨wr.heap.size, 1, none⟩ = some (.int .i64 x.2) := (World.cell?_of_block (w := wr.alloc (.cells #[.int .i64 x.1, .int .i64 x.2] 34)) (a := ⟨wr.heap.size, 1, none⟩) hbx).trans b1
                      have k3 : w3.cell? ⟨gm, 0, none⟩ = some (.int .i64 ii) := (World.cell?_of_block (w := wr) (a := ⟨gm, 0, none⟩) (hkeep gm hgmw (Or.inr hgmb))).trans k0
                      have hrow3 : RowL w3 g 34 cl 2 adC left := HROW.out.of_heap ((hkeep g hgw (Or.inl (by omega))).trans (RowKit.Below.block hx5 g (by omega)))
                      have hdel := Lib.hid (del_for (i := ii) HN1.out hrow3 hgb hgc (by omega))
                      have hm3 : Hid (MapIs w3 bw E1) := HR1.out.map.of_heap ((hkeep bw (by omega) (Or.inl (Nat.le_refl _))).trans (RowKit.Below.block hx5 bw hbwr))
                      have hx3 : Hid (Xt w w3) := (HR1.out.xt.trans hx5).ownG (HR1.out.owno.xt hx5) (by have := HR1.out.base; omega) hG
                      have ho3 : Hid (OwnL w3 (bw + 1) 34 2 adC v' (out ++ [x])) := OwnL.snoc hown3
                      have HKEEP := Lib.hid hkeep
                      have hwbw : w.heap.size ≤ bw := HR1.out.base
                      obtain ⟨w3s, hw3s⟩ : ∃ n, wr.heap.size = n := ⟨_, rfl⟩
                      rw [hw3s] at b03 b13 hs3
                      have hbs : bw < w3s := by omega
                      have HW3S := Lib.hid hw3s
                      clear hG hG1 hg3 hown3 hkeep hbx hrow3 b0 b1 hr k0 d0 d1 hown5
                      have hadd : wrap64 ((ii : Int) + 1) = (ii : Int) + 1 := by unfold wrap64; omega
                      go_wp2_with fail
                      rw [hw3s]
                      clear hw3s
                      refine wp_region_still_tail 10 (by kernel_rfl) (by kernel_rfl) ?_
                      change wpStill _ _ (World.drew _) _ _ _
                      simp only [List.take_succ_cons, List.take_zero, List.drop_succ_cons, List.drop_zero]
                      still_step
                      still_step
                      still_step
                      still_step
                      still_step
                      still_step
                      still_step
                      still_step
                      still_step
                      still_step
                      refine wpStill_nil ?_
                      change wpList _ _ _ _ _ (World.drew _)
                      have hadd2 : IntKind.i64.wrap ((ii : Int) + 1) = (ii : Int) + 1 := HII3.out
                      refine wpList_step (fun K hK => ?_)
                      go_simp
                      refine hdel.out.mono ?_
                      rintro e w5 ⟨a5, c5, rfl, HH⟩
                      refine hK _ _ ?_
                      clear hK K
                      obtain ⟨hown5, hg5, hob5⟩ := HH.out
                      have HOW := Lib.hid hown5
                      have HOB := Lib.hid hob5
                      have HG5 := Lib.hid hg5
                      have hs5 := hg5.size
                      have hm5 : Hid (MapIs w5 bw E1) := hm3.out.of_heap (hg5.block bw (by omega) (fun e => by cases e; omega))
                      have b05 : w5.cell? ⟨w3s, 0, none⟩ = some (.int .i64 x.1) := (cell_grown hg5 hs3 (by omega)).trans b03
                      have b15 : w5.cell? ⟨w3s, 1, none⟩ = some (.int .i64 x.2) := (cell_grown hg5 hs3 (by omega)).trans b13
                      have ho5 : Hid (OwnL w5 (bw + 1) 34 2 adC v' (out ++ [x])) := World.ownsRow.kept ho3.out hg5 (own_ne ho3.out (by omega))
                      have hx5' : Hid (Xt w w5) := hx3.out.grownBy hg5 hgb
                      have HER : Hid ((left.eraseIdx ii).length = n1) := by
                        show (left.eraseIdx ii).length = n1
                        rw [List.length_eraseIdx_of_lt (by rw [HN1.out]; exact hiin), HN1.out]; omega
                      have HND : Hid ((left.eraseIdx ii).Nodup) := HR1.out.nodup.sublist (List.eraseIdx_sublist ..)
                      have HWT : Hid (WaitIs E1 (left.eraseIdx ii) (fun a => if a ∈ (left.eraseIdx ii).take 0 then cntM M a (left.eraseIdx ii) else cntM M a left)) := by
                        refine (HR1.out.wait.sub (fun a ha => List.mem_of_mem_eraseIdx ha)).congr fun a ha => ?_
                        simp
                      have HGO : Hid (readyGo M picks (left.eraseIdx ii).length (left.eraseIdx ii) (out ++ [x]) = readyGo M picks S.length S []) := by
                        show _ = _
                        rw [← HR1.out.go, HN1.out, readyGo_some hne (by rw [HMay.out]; exact HMZ.out) (i := ii) (x := x) ?_ HX.out, HER.out]
                        rw [HMay.out, HPK.out, List.getD_eq_getElem?_getD, Int.toNat_zero, HII.out]; simp
                      have HCE : Hid (∀ a, cntM M a left = cntM M a (left.eraseIdx ii) + (if onM M a x then 1 else 0)) := fun a => cntM_erase HX.out
                      have hmany1 := HR1.out.many
                      have HMANY : Hid (n1 + 1 + out.length = S.length) := by have := HN1.out; show _ = _; omega
                      have hsb : w3s ≠ bw := by omega
                      have hs35 : w3s < w5.heap.size := by omega
                      have hbw5 : bw < w5.heap.size := by omega
                      have hgbw : g < bw := hgl
                      have hLmem : Hid (∀ a, a ∈ left.eraseIdx ii → a ∈ left) := fun a ha => List.mem_of_mem_eraseIdx ha
                      generalize hl1 : left.eraseIdx ii = left1 at *
                      have hnl : n1 ≤ 8796093022208 := by omega
                      obtain ⟨av, cv, ev, _⟩ := ho5.out.sl adC_len
                      have HEV := Lib.hid ev
                      clear ev
                      clear hown5 hob5 hg5 hm3 hx3 ho3 b03 b13 k3 hl1 hmany1 HH hdel
                      go_wp2_with fail
                      go_loopw [132] (fun i wr => ∃ j : Nat, j ≤ n1 ∧ i = .int .i64 j ∧ ∃ E, Hid (MapIs wr bw E) ∧ Hid (WaitIs E left1 (fun a => if a ∈ left1.take j then cntM M a left1 else cntM M a left)) ∧ Hid (w5.grownBy wr (some bw))) (fun i _ => n1 - (intOf i).toNat)
                      case atStart => exact ⟨0, Nat.zero_le _, rfl, E1, hm5, HWT, ⟨rfl, rfl, rfl, Nat.le_refl _, fun _ _ _ => rfl⟩⟩
                      case round =>
                        obtain ⟨j, hj', rfl, E6, HM6, HW6, HG6⟩ := hrel
                        have hs6 := HG6.out.size
                        by_cases hlt6 : j < n1
                        · have hne1 : left1 ≠ [] := by intro h; have := HER.out; rw [h] at this; simp at this; omega
                          obtain ⟨g', cap', hgv, _, _, hrow6⟩ := RowL.of_own HOW.out adC_len hne1
                          have ha5 : a5 = some ⟨g', 0, none⟩ := by injection hgv
                          subst ha5
                          have hgg : g' = g := by have h := HOB.out; simpa [Value.ownBlock] using h
                          subst hgg
                          obtain ⟨y, hy⟩ : ∃ y, left1[j]? = some y := ⟨left1[j]'(by rw [HER.out]; exact hlt6), by simp⟩
                          obtain ⟨d0, d1⟩ := ad_cells (hrow6.cell hy)
                          have hg5s : g' < w5.heap.size := by omega
                          rw [← cell_grown HG6.out hg5s (by omega)] at d0 d1
                          have b06 : wr.cell? ⟨w3s, 0, none⟩ = some (.int .i64 x.1) := (cell_grown HG6.out hs35 hsb).trans b05
                          have b16 : wr.cell? ⟨w3s, 1, none⟩ = some (.int .i64 x.2) := (cell_grown HG6.out hs35 hsb).trans b15
                          have z6 : g' < wr.heap.size := by omega
                          have z7 : w3s < wr.heap.size := by omega
                          have z8 : bw < wr.heap.size := by omega
                          have HY := Lib.hid hy
                          have hxw : Hid (Xt w wr) := hx5'.out.grownBy HG6.out hwbw
                          have HB7 := Lib.hid b05
                          have HB8 := Lib.hid b15
                          clear hy hrow6 b05 b15 hgv
                          cases hon : onM M y x
                          · go_wp2_with fail
                            refine (on_lk pb bm F M y x _ ?_).mono ?_
                            · exact (H.out.xt HF.out hxw.out).xt (fun b hb => by have := HF.out b hb; have := hxw.out.sz; omega) ((Xt.refl _).alloc _)
                            rintro e w2 ⟨rfl, hg2⟩
                            rw [hon]
                            have hx2 : Hid (Xt wr w2) := ((Xt.refl wr).alloc _).trans hg2.xt
                            go_wp2_with fail
                            go_roundw
                            case rel =>
                              refine ⟨j + 1, by omega, by go_num, E6, HM6.out.of_heap (RowKit.Below.block hx2.out _ z8), ?_, gb_trans HG6.out (hx2.out.grown _)⟩
                              refine HW6.out.congr fun a ha => ?_
                              rw [List.take_add_one, HY.out]
                              simp only [Option.toList_some, List.mem_append, List.mem_singleton]
                              by_cases h1 : a ∈ left1.take j
                              · simp only [h1, true_or, if_true]
                              · by_cases h2 : a = y
                                · simp only [h1, h2, or_true, if_true, if_false]
                                  have := HCE.out y; rw [hon] at this; simp at this
                                  split <;> omega
                                · simp only [h1, h2, or_self, if_false]
                            case measure => simp [intOf]; omega
                          · go_wp2_with fail
                            refine (on_lk pb bm F M y x _ ?_).mono ?_
                            · exact (H.out.xt HF.out hxw.out).xt (fun b hb => by have := HF.out b hb; have := hxw.out.sz; omega) ((Xt.refl _).alloc _)
                            rintro e w2 ⟨rfl, hg2⟩
                            rw [hon]
                            have hx2 : Hid (Xt wr w2) := ((Xt.refl wr).alloc _).trans hg2.xt
                            have c02 : w2.cell? ⟨wr.heap.size, 0, none⟩ = some (.int .i64 y.1) := ((hg2.xt.cells).1 _ _ (by simp)).trans (by simp)
                            have c12 : w2.cell? ⟨wr.heap.size, 1, none⟩ = some (.int .i64 y.2) := ((hg2.xt.cells).1 _ _ (by simp)).trans (by simp)
                            have hs2 : wr.heap.size < w2.heap.size := by have := hg2.xt.sz; simp at this; omega
                            have hm2 : MapIs w2.drew bw E6 := HM6.out.of_heap (RowKit.Below.block hx2.out _ z8)
                            have hyno : y ∉ left1.take j := not_take HND.out HY.out
                            have hval : (lk y E6).getD (.int .i64 0) = .int .i64 (cntM M y left) := by
                              rw [HW6.out y (List.mem_of_getElem? HY.out)]
                              simp only [hyno, if_false]
                            have hcn := cntM_le M y left
                            rw [HN1.out] at hcn
                            have hce := HCE.out y
                            rw [hon] at hce
                            simp only [if_true] at hce
                            obtain ⟨w7, w6, st, g1, g2, g3, g4, HG⟩ := step_run hm2 y (cntM M y left) (cntM M y left - 1) hval
                            have HYN := Lib.hid hyno
                            have HCE1 := Lib.hid hce
                            generalize hcc0 : cntM M y left = c0 at *
                            have hc1 : 1 ≤ (c0 : Int) := by omega
                            clear hval hm2 b06 b16 hg2 d0 d1 hyno hce
                            go_wp2_with fail
                            go_region
                            all_goals
                              go_wp2_with fail
                              go_roundw
                              case rel =>
                                obtain ⟨G1, G2, G3⟩ := HG.out
                                refine ⟨j + 1, by omega, by go_num, upE y (.int .i64 (c0 - 1)) E6, G1, ?_, gb_trans (gb_trans HG6.out ((hx2.out.drew).grown _)) G2⟩
                                have hc0 := HCE1.out
                                rw [show ((c0 : Int) - 1) = ((c0 - 1 : Nat) : Int) by omega]
                                refine HW6.out.up ?_ ?_
                                · rw [List.take_add_one, HY.out]
                                  simp only [Option.toList_some, List.mem_append, List.mem_singleton, or_true, if_true]
                                  omega
                                · intro a ha hay
                                  rw [List.take_add_one, HY.out]
                                  simp only [Option.toList_some, List.mem_append, List.mem_singleton, hay, or_false]
                              case measure => simp [intOf]; omega
                        · have hjn : j = n1 := by omega
                          subst hjn
                          go_wp2_with fail
                          go_roundw
                          case rel =>
                            refine ⟨left1, out ++ [x], E6, ⟨World.ownsRow.kept HOW.out HG6.out (Or.inr (by rw [HOB.out]; intro e; cases e; omega)), fun q hq => by rw [HOB.out] at hq; cases hq; exact hgbw, World.ownsRow.kept ho5.out HG6.out (own_ne ho5.out (by omega)), HM6.out, ?_, hx5'.out.grownBy HG6.out hwbw, hwbw, by rw [HER.out]; simp; have := HMANY.out; omega, HND.out, HGO.out⟩, by rw [HER.out]; rfl, by rw [HEV.out]; rfl⟩
                            refine HW6.out.congr fun a ha => ?_
                            have : left1.take j = left1 := by rw [← HER.out, List.take_length]
                            rw [this, if_pos ha]
                          case measure => simp [slLen]
end Go.Proofs.Ytagfgkcipomopaa
