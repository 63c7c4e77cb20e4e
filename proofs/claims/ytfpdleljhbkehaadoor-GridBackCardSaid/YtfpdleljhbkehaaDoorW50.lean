/- GridBack's walk (made by mk50.py). -/
import Derived.Test.YtfpdleljhbkehaaDoorB3
import Derived.Test.YtfpdleljhbkehaaDoorW49
import Derived.Test.YtfpdleljhbkehaaDoorW34
import Derived.Test.YtfpdleljhbkehaaDoorB4
import Derived.Test.YtfpdleljhbkehaaDoorB5
import Derived.Deep.CutBlock
import Derived.Deep.DeepCutAuto
import Derived.StillTailTactics
namespace Go.Proofs.YtfpdleljhbkehaaDoor
open Go.RowKit Go.Sort Go.Maps Go.Shelf
attribute [local go_sem] Oper.semAt_some

/-- The same, and nothing goes wrong. -/
def noPanic (Q : Exit → Act → World → Prop) : Exit → Act → World → Prop
  | .panic _, _, _ => False
  | e, a, w => Q e a w
theorem noPanic_le {Q : Exit → Act → World → Prop} : ∀ e a w, noPanic Q e a w → Q e a w := fun e a w h => by
  cases e <;> first | exact h | exact h.elim
abbrev pis (l : List PI) : List (Ad × ContT) := l.map fun x => (x.a, x.c)
theorem smallT_light {c : ContT} (h : heavyB c = false) : smallT c.t := small_of_heavy h
theorem allP_take {l : List PI} {i : Nat} {x : PI} (hx : l[i]? = some x) : allP [] (pis (l.take (i + 1))) = putP (allP [] (pis (l.take i))) x.a x.c := by
  unfold pis
  rw [List.take_add_one, hx]
  simp [allP]
/-! ### the two turns' states -/
noncomputable def turnS (A : PG) (W : List (Ad × ContT)) : Nat → PG
  | 0 => A
  | 1 => turnP true A W
  | _ => turnP false (turnP true A W) W
theorem turnS_next (A : PG) (W : List (Ad × ContT)) {t : Nat} (h : t < 2) {b : Bool} (hb : ((t : Int) == 0) = b) : turnP b (turnS A W t) W = turnS A W (t + 1) := by
  have : t = 0 ∨ t = 1 := by omega
  rcases this with rfl | rfl
  · subst hb; rfl
  · subst hb; rfl
theorem turn_code {A B : PG} (hA : GOk A) (hB : GOk B) {t i : Nat} (ht : t < 2) {b : Bool} (hb : ((t : Int) == 0) = b) {x : Ad × ContT} (hx : (wayP A B)[i]? = some x) (hk : ((x.2.kind == 0) == b) = true) : codeP (turnP b (turnS A (wayP A B) t) ((wayP A B).take i)) x.1 x.2 = 0 := by
  have : t = 0 ∨ t = 1 := by omega
  rcases this with rfl | rfl
  · subst hb
    exact turn0_code hA hB (List.mem_of_getElem? hx) (by simpa using hk) _
  · subst hb
    exact turn1_code hA hB hx (by simpa using hk)
theorem turn_take {b : Bool} {P : PG} {W : List (Ad × ContT)} {i : Nat} {x : Ad × ContT} (hx : W[i]? = some x) : turnP b P (W.take (i + 1)) = if ((x.2.kind == 0) == b) = true then putP (turnP b P (W.take i)) x.1 x.2 else turnP b P (W.take i) := by
  rw [List.take_add_one, hx]
  exact turnP_snoc b P (W.take i) x
/-! ### pick, by its value -/
def pickZ (c n : Int) : Int := if c < 0 then -((c + 1).tmod n) else c % n
theorem wrap_idz {x : Int} (h0 : -9223372036854775808 ≤ x) (h1 : x ≤ 9223372036854775807) : IntKind.i64.wrap x = x := by rw [IntKind.wrap_i64]; omega
theorem pickZ_lt {c n : Int} (hn : 0 < n) : 0 ≤ pickZ c n ∧ pickZ c n < n := by
  unfold pickZ
  split
  · have a3 : 0 ≤ (-(c + 1)).tmod n := Int.tmod_nonneg _ (by omega)
    have a4 : (-(c + 1)).tmod n < n := Int.tmod_lt_of_pos _ hn
    rw [Int.neg_tmod] at a3 a4
    exact ⟨a3, a4⟩
  · exact ⟨Int.emod_nonneg _ (by omega), Int.emod_lt_of_pos _ hn⟩
set_option maxHeartbeats 1000000 in
theorem pickz_any (c n : Int) (w : World) (h0 : -9223372036854775808 ≤ c) (h1 : c ≤ 9223372036854775807) (hn : 0 < n) (hn1 : n ≤ 9223372036854775807) : Calls Tryd.prog 10 #[.int .i64 c, .int .i64 n] w fun e w' => e = .returned (.int .i64 (pickZ c n)) ∧ w = w' := by
  have hn0 : (n == 0) = false := by simp; omega
  have hn2 : ¬ n = 0 := by omega
  by_cases hc : c < 0
  · have hz : pickZ c n = -((c + 1).tmod n) := by unfold pickZ; rw [if_pos hc]
    have a1 : IntKind.i64.wrap (c + 1) = c + 1 := wrap_idz (by omega) (by omega)
    have a2 : IntKind.i64.wrap (-(c + 1)) = -(c + 1) := wrap_idz (by omega) (by omega)
    have a3 : 0 ≤ (-(c + 1)).tmod n := Int.tmod_nonneg _ (by omega)
    have a4 : (-(c + 1)).tmod n < n := Int.tmod_lt_of_pos _ hn
    have a5 : IntKind.i64.wrap ((-(c + 1)).tmod n) = (-(c + 1)).tmod n := wrap_idz (by omega) (by omega)
    have HZ := Lib.hid hz
    clear hz
    go_enter Tryd.func10, Tryd.ntmps10
    go_wp2_with fail
    go_ret
    refine ⟨?_, rfl⟩
    rw [HZ.out]
    first | rfl | simp
  · have hz : pickZ c n = c % n := by unfold pickZ; rw [if_neg hc]
    have a3 : 0 ≤ c.tmod n := Int.tmod_nonneg _ (by omega)
    have a4 : c.tmod n < n := Int.tmod_lt_of_pos _ hn
    have a5 : IntKind.i64.wrap (c.tmod n) = c.tmod n := wrap_idz (by omega) (by omega)
    have HZ := Lib.hid hz
    clear hz
    go_enter Tryd.func10, Tryd.ntmps10
    go_wp2_with fail
    go_ret
    refine ⟨?_, rfl⟩
    rw [HZ.out]
    first | rfl | simp
theorem pis_ok {l : List PI} {w : World} {v : Value} (h : PutsIn w v l) : ∀ x ∈ pis l, x.2.ok := fun x hx => by
  obtain ⟨y, hy, rfl⟩ := List.mem_map.1 hx
  exact (h.args y hy).1
theorem told_er {M : GM} {xs : List TE} (hS : toldS M (fun _ => true) xs) (h : GOk (er M)) : er (toP xs) = er M := by
  unfold toldS at hS
  rw [List.filter_eq_self.2 (fun _ _ => rfl)] at hS
  have e1 : er (toP xs) = (xs.map (fun x => (x.1, x.2.1))).map (fun x => (x.1, copyC x.2)) := by simp [er, toP, List.map_map, Function.comp_def]
  rw [e1, hS]
  show (er M).map (fun x => (x.1, copyC x.2)) = er M
  conv => rhs; rw [← List.map_id (er M)]
  exact List.map_congr_left fun x hx => by rw [(h.each x hx).2.2.2.1]; rfl
set_option maxRecDepth 100000 in
set_option maxHeartbeats 4000000 in
theorem gridBack_any (l k : List PI) (od : List Int) (lv kv ov : Value) (w : World) (hT : Tabs w) (hl : PutsIn w lv l) (hk : PutsIn w kv k) (ho : SlOf w inC 1 ov od) (hob : ∀ x ∈ od, -9223372036854775808 ≤ x ∧ x ≤ 9223372036854775807) :
    Calls Tryd.prog 4 #[lv, kv, ov] w fun e w' => e = .returned (.bool true) ∧ Xt w w' := by
  obtain ⟨la, lc, rfl, hlc, hlc2⟩ := hl.shape
  obtain ⟨ka, kc, rfl, hkc, hkc2⟩ := hk.shape
  have HT := Lib.hid hT
  have HL := Lib.hid hl
  have HK := Lib.hid hk
  have HO := Lib.hid ho
  have HOB := Lib.hid hob
  obtain ⟨oa, oc, rfl, hoc, hoc2, _⟩ := ho
  clear hT hl hk hob
  have hx0 : Xt w w := Xt.refl w
  refine (callsIn_wide (n := 25)).1 ?_
  refine callsIn_of_wp_marks Tryd.func4 rfl trivial ?_ rfl
  simp only [Tryd.ntmps4, List.size_toArray, List.length_cons, List.length_nil, Nat.reduceAdd, Nat.reduceSub, Array.replicate_succ, Array.replicate_zero, List.push_toArray, List.append_toArray, List.nil_append, List.cons_append]
  refine wpIn_wide.2 ?_
  refine wp_mono (Q := noPanic (bodyPostM Fence.wide 25 Tryd.prog Tryd.f4 fun e w' => e = .returned (.bool true) ∧ Xt w w')) ?_ noPanic_le
  go_wp2_with (first
    | (go_at_call 6; refine (awake_any _ (HT.out)).mono ?_; rintro e w1 ⟨rfl, hx1⟩; have HWA := Lib.hid hx1.size; clear hx0)
    | (go_at_call 7; refine (gnew_any _).mono ?_; rintro e w2 ⟨rfl, hGA, hg2⟩; have hx2 := hx1.trans hg2.xt; have hab := hGA.lt.2; clear hx1 hg2)
    | (go_at_call 7; refine (gnew_any _).mono ?_; rintro e w3 ⟨rfl, hGB, hg3⟩; have hx3 := hx2.trans hg3.xt; have hGA := hGA.xt hg3.xt; have hbc := hGB.lt.2; clear hx2 hg3)
    | (go_at_call 7; refine (gnew_any _).mono ?_; rintro e w4 ⟨rfl, hGC, hg4⟩; have hx4 := hx3.trans hg4.xt; have hGA := hGA.xt hg4.xt; have hGB := hGB.xt hg4.xt; clear hx3 hg4))
  have HGA := Lib.hid hGA
  have HGB := Lib.hid hGB
  have HGC := Lib.hid hGC
  have HX4 := Lib.hid hx4
  obtain ⟨ma, hma⟩ : ∃ ma, w1.heap.size = ma := ⟨_, rfl⟩
  obtain ⟨mb, hmb⟩ : ∃ mb, w2.heap.size = mb := ⟨_, rfl⟩
  obtain ⟨mc, hmc⟩ : ∃ mc, w3.heap.size = mc := ⟨_, rfl⟩
  simp only [hma, hmb, hmc] at HGA HGB HGC HWA hab hbc ⊢
  have hwa := HWA.out
  clear hGA hGB hGC hx4 hma hmb hmc HWA
  go_loopw [11] (fun s wr => ∃ (i : Nat) (M : GM), i ≤ l.length ∧ s = .int .i64 i ∧ Hid (GridIs wr (ma + 1) ma M) ∧ Hid (er M = allP [] (pis (l.take i))) ∧ Hid (GridIs wr (mb + 1) mb []) ∧ Hid (GridIs wr (mc + 1) mc []) ∧ Hid (Xt w wr)) (fun s _ => l.length - (intOf s).toNat)
  case atStart => exact ⟨0, [], Nat.zero_le _, rfl, HGA, rfl, HGB, HGC, HX4⟩
  case round =>
    clear HGA HGB HGC HX4
    obtain ⟨i, MA, hi, rfl, HGA, HEA, HGB, HGC, HX⟩ := hrel
    by_cases hlt : i < l.length
    · obtain ⟨x, hx⟩ : ∃ x, l[i]? = some x := ⟨l[i], by simp [hlt]⟩
      have hki : (i : Int) < (l.length : Int) := by omega
      obtain ⟨b, off, rfl, d0, d1, hr, hok, n, hin⟩ := (HL.out.xt HX.out).at hx
      have HTK := Lib.hid (allP_take hx)
      have HR := Lib.hid hr
      have HOK := Lib.hid hok
      have HIN := Lib.hid hin
      have HV := Lib.hid (heavy_any n x.c x.p x.cap wr hin)
      clear hx hr hok hin
      cases hhv : heavyB x.c
      rotate_left
      · rw [hhv] at HV
        go_wp2_with (first
          | (refine wpList_load_mid (P := Tryd.prog) rfl 33 _ rfl b (off + i * 23 + 2) rfl ((inC1 x).drop 2) _ HR.out Tryd.underlying33 rfl (by kernel_rfl) ?_)
          | (go_at_call 8; refine (HV.out).mono ?_; rintro e w5 ⟨rfl, hg5⟩; have HG5 := Lib.hid hg5; clear hg5))
        exact ⟨_, results_tmp rfl _ _ _, rfl, HX.out.trans HG5.out.xt⟩
      · rw [hhv] at HV
        have HSM := Lib.hid (smallT_light hhv)
        go_wp2_with (first
          | (refine wpList_load_mid (P := Tryd.prog) rfl 33 _ rfl b (off + i * 23 + 2) rfl ((inC1 x).drop 2) _ HR.out Tryd.underlying33 rfl (by kernel_rfl) ?_)
          | (go_at_call 8; refine (HV.out).mono ?_; rintro e w5 ⟨rfl, hg5⟩; have HX5 := Lib.hid hg5.xt; clear hg5))
        have hx5 := HX5.out.drew
        have e0 := (hx5.cellsIn _ _ _ d0)
        have e1 := (hx5.cellsIn _ _ _ d1)
        have HRR := Lib.hid (fun W (h : CellsIn w5.drew W) => (⟨h _ _ _ e0, h _ _ _ e1, fun j v hj => h _ _ _ (hx5.cellsIn _ _ _ (HR.out j v hj))⟩ : W.cell? ⟨b, off + i * 23, none⟩ = some (.int .i64 x.a.1) ∧ W.cell? ⟨b, off + i * 23 + 1, none⟩ = some (.int .i64 x.a.2) ∧ W.rangeAt b (off + i * 23 + 2) ((inC1 x).drop 2)))
        have HP := Lib.hid (gput_any n (ma + 1) ma MA x.a x.c x.p x.cap w5.drew (HGA.out.xt hx5) HOK.out (HT.out.xt (HX.out.trans hx5)) HSM.out (HIN.out.xt hx5))
        have HX6 := Lib.hid (HX.out.trans hx5)
        have HCI := Lib.hid (fun W (h : w5.drew.grownBy W (some ma)) => (HGA.out.xt hx5).cellsIn h)
        have OHGB := Lib.hid (fun W (h : w5.drew.grownBy W (some ma)) => (HGB.out.xt hx5).other (HGA.out.xt hx5) h (by omega))
        have OHGC := Lib.hid (fun W (h : w5.drew.grownBy W (some ma)) => (HGC.out.xt hx5).other (HGA.out.xt hx5) h (by omega))
        clear hx5
        refine wp_region_held_drew (S := fun W => W.cell? ⟨b, off + i * 23, none⟩ = some (.int .i64 x.a.1) ∧ W.cell? ⟨b, off + i * 23 + 1, none⟩ = some (.int .i64 x.a.2) ∧ W.rangeAt b (off + i * 23 + 2) ((inC1 x).drop 2)) (by kernel_rfl) (HRR.out _ (CellsIn.refl _)) (fun hHeld => ?_)
        refine wpAnyH_take (i := 0) (oi := _) (v := ?_) rfl (by kernel_rfl) (by kernel_rfl) (by kernel_rfl) (fun _ _ _ h => h) (Or.inl ⟨by rfl, ?_⟩) (by assumption) ?_
        rotate_left
        · intro w hSw; (try dsimp only at hSw); obtain ⟨k0, k1, kr⟩ := hSw; clear kr; go_simp; first | done | with_reducible rfl
        try simp only [Act.put, List.getElem_toArray, List.getElem_cons_zero, List.getElem_cons_succ, List.setIfInBounds_toArray, List.set_cons_zero, List.set_cons_succ]
        refine wpAnyH_take (i := 1) (oi := _) (v := ?_) rfl (by kernel_rfl) (by kernel_rfl) (by kernel_rfl) (fun _ _ _ h => h) (Or.inl ⟨by rfl, ?_⟩) (by assumption) ?_
        rotate_left
        · intro w hSw; (try dsimp only at hSw); obtain ⟨k0, k1, kr⟩ := hSw; clear kr; go_simp; first | done | with_reducible rfl
        try simp only [Act.put, List.getElem_toArray, List.getElem_cons_zero, List.getElem_cons_succ, List.setIfInBounds_toArray, List.set_cons_zero, List.set_cons_succ]
        refine wpAnyH_take (i := 2) (oi := _) (v := ?_) rfl (by kernel_rfl) (by kernel_rfl) (by kernel_rfl) (fun _ _ _ h => h) (Or.inl ⟨by rfl, ?_⟩) (by assumption) ?_
        rotate_left
        · intro w hSw; (try dsimp only at hSw); obtain ⟨k0, k1, kr⟩ := hSw; clear kr; go_simp; first | done | with_reducible rfl
        try simp only [Act.put, List.getElem_toArray, List.getElem_cons_zero, List.getElem_cons_succ, List.setIfInBounds_toArray, List.set_cons_zero, List.set_cons_succ]
        refine wpAnyH_take (i := 3) (oi := _) (v := ?_) rfl (by kernel_rfl) (by kernel_rfl) (by kernel_rfl) (fun _ _ _ h => h) (Or.inl ⟨by rfl, ?_⟩) (by assumption) ?_
        rotate_left
        · intro w hSw; (try dsimp only at hSw); obtain ⟨k0, k1, kr⟩ := hSw; clear kr; go_simp; first | done | with_reducible rfl
        try simp only [Act.put, List.getElem_toArray, List.getElem_cons_zero, List.getElem_cons_succ, List.setIfInBounds_toArray, List.set_cons_zero, List.set_cons_succ]
        refine wpAnyH_take (i := 4) (oi := _) (v := ?_) rfl (by kernel_rfl) (by kernel_rfl) (by kernel_rfl) (fun _ _ _ h => h) (Or.inl ⟨by rfl, ?_⟩) (by assumption) ?_
        rotate_left
        · intro w hSw; (try dsimp only at hSw); obtain ⟨k0, k1, kr⟩ := hSw; clear kr; go_simp; first | done | with_reducible rfl
        try simp only [Act.put, List.getElem_toArray, List.getElem_cons_zero, List.getElem_cons_succ, List.setIfInBounds_toArray, List.set_cons_zero, List.set_cons_succ]
        refine wpAnyH_take (i := 5) (oi := _) (v := ?_) rfl (by kernel_rfl) (by kernel_rfl) (by kernel_rfl) (fun _ _ _ h => h) (Or.inl ⟨by rfl, ?_⟩) (by assumption) ?_
        rotate_left
        · intro w hSw; (try dsimp only at hSw); obtain ⟨k0, k1, kr⟩ := hSw; clear kr; go_simp; first | done | with_reducible rfl
        try simp only [Act.put, List.getElem_toArray, List.getElem_cons_zero, List.getElem_cons_succ, List.setIfInBounds_toArray, List.set_cons_zero, List.set_cons_succ]
        refine wpAnyH_take (i := 6) (oi := _) (v := ?_) rfl (by kernel_rfl) (by kernel_rfl) (by kernel_rfl) (fun _ _ _ h => h) (Or.inl ⟨by rfl, ?_⟩) (by assumption) ?_
        rotate_left
        · intro w hSw; (try dsimp only at hSw); obtain ⟨k0, k1, kr⟩ := hSw; clear kr; go_simp; first | done | with_reducible rfl
        try simp only [Act.put, List.getElem_toArray, List.getElem_cons_zero, List.getElem_cons_succ, List.setIfInBounds_toArray, List.set_cons_zero, List.set_cons_succ]
        refine wpAnyH_take (i := 7) (oi := _) (v := ?_) rfl (by kernel_rfl) (by kernel_rfl) (by kernel_rfl) (fun _ _ _ h => h) (Or.inl ⟨by rfl, ?_⟩) (by assumption) ?_
        rotate_left
        · intro w hSw; (try dsimp only at hSw); obtain ⟨k0, k1, kr⟩ := hSw; clear kr; go_simp; first | done | with_reducible rfl
        try simp only [Act.put, List.getElem_toArray, List.getElem_cons_zero, List.getElem_cons_succ, List.setIfInBounds_toArray, List.set_cons_zero, List.set_cons_succ]
        refine wpAnyH_take (i := 8) (oi := _) (v := ?_) rfl (by kernel_rfl) (by kernel_rfl) (by kernel_rfl) (fun _ _ _ h => h) (Or.inl ⟨by rfl, ?_⟩) (by assumption) ?_
        rotate_left
        · intro w hSw; (try dsimp only at hSw); obtain ⟨k0, k1, kr⟩ := hSw; clear kr; go_simp; first | done | with_reducible rfl
        try simp only [Act.put, List.getElem_toArray, List.getElem_cons_zero, List.getElem_cons_succ, List.setIfInBounds_toArray, List.set_cons_zero, List.set_cons_succ]
        refine wpAnyH_take (i := 9) (oi := _) (v := ?_) rfl (by kernel_rfl) (by kernel_rfl) (by kernel_rfl) (fun _ _ _ h => h) (Or.inl ⟨by rfl, ?_⟩) (by assumption) ?_
        rotate_left
        · intro w hSw; (try dsimp only at hSw); obtain ⟨k0, k1, kr⟩ := hSw; clear kr; go_simp; first | done | with_reducible rfl
        try simp only [Act.put, List.getElem_toArray, List.getElem_cons_zero, List.getElem_cons_succ, List.setIfInBounds_toArray, List.set_cons_zero, List.set_cons_succ]
        refine wpAnyH_take (i := 10) (oi := _) (v := .agg ((inC1 x).drop 2).toArray) rfl (by kernel_rfl) (by kernel_rfl) (by kernel_rfl) (fun _ _ _ h => h) (Or.inl ⟨by rfl, ?_⟩) (by assumption) ?_
        · intro w hSw; exact exec_load_mid 33 _ (by rfl) b (off + i * 23 + 2) (by rfl) ((inC1 x).drop 2) _ hSw.2.2 Tryd.underlying33 rfl (by kernel_rfl)
        try simp only [Act.put, List.getElem_toArray, List.getElem_cons_zero, List.getElem_cons_succ, List.setIfInBounds_toArray, List.set_cons_zero, List.set_cons_succ]
        refine wpAnyH_ready (rs := [11]) (by kernel_rfl) (by simp) ?_
        refine AllReadyH.cons (o := _) rfl (fun K hK => ?_) AllReadyH.nil
        go_simp
        refine (HP.out).mono ?_
        rintro e w6 ⟨z, rfl, hG6, hg6⟩
        refine hK.out _ _ (HRR.out _ (HCI.out _ hg6)) (fun hHeld2 => ?_)
        clear hK K
        try simp only [Act.put, List.getElem_toArray, List.getElem_cons_zero, List.getElem_cons_succ, List.setIfInBounds_toArray, List.set_cons_zero, List.set_cons_succ]
        refine wpAnyH_done (by kernel_rfl) ?_ _
        have HG6 := Lib.hid hG6
        have Hg6 := Lib.hid hg6
        clear hG6 hg6 d0 d1 e0 e1 hHeld hHeld2
        go_wp2_with fail
        go_roundw
        case rel => exact ⟨i + 1, putTo MA x.a x.c z, by omega, by go_num, HG6.out, by unfold Hid; rw [er_put, HEA.out, HTK.out], OHGB.out _ Hg6.out, OHGC.out _ Hg6.out, HX6.out.grownB Hg6.out (fun m hm => by cases hm; omega)⟩
        case measure => simp [intOf]; omega
    · have he : i = l.length := by omega
      subst he
      have HEAE : Hid (er MA = allP [] (pis l)) := by unfold Hid; rw [HEA.out, List.take_length]
      have AX := HX
      clear HEA HX hi hlt
      go_wp2_with fail
      go_loopw [12] (fun s wr => ∃ (i : Nat) (M : GM), i ≤ k.length ∧ s = .int .i64 i ∧ Hid (GridIs wr (mb + 1) mb M) ∧ Hid (er M = allP [] (pis (k.take i))) ∧ Hid (GridIs wr (ma + 1) ma MA) ∧ Hid (GridIs wr (mc + 1) mc []) ∧ Hid (Xt w wr)) (fun s _ => k.length - (intOf s).toNat)
      case atStart => exact ⟨0, [], Nat.zero_le _, rfl, HGB, rfl, HGA, HGC, AX⟩
      case round =>
        clear HGB HGA HGC AX
        obtain ⟨i, MB, hi, rfl, HGB, HEB, HGA, HGC, HX⟩ := hrel
        by_cases hlt : i < k.length
        · obtain ⟨x, hx⟩ : ∃ x, k[i]? = some x := ⟨k[i], by simp [hlt]⟩
          have hki : (i : Int) < (k.length : Int) := by omega
          obtain ⟨b, off, rfl, d0, d1, hr, hok, n, hin⟩ := (HK.out.xt HX.out).at hx
          have HTK := Lib.hid (allP_take hx)
          have HR := Lib.hid hr
          have HOK := Lib.hid hok
          have HIN := Lib.hid hin
          have HV := Lib.hid (heavy_any n x.c x.p x.cap wr hin)
          clear hx hr hok hin
          cases hhv : heavyB x.c
          rotate_left
          · rw [hhv] at HV
            go_wp2_with (first
              | (refine wpList_load_mid (P := Tryd.prog) rfl 33 _ rfl b (off + i * 23 + 2) rfl ((inC1 x).drop 2) _ HR.out Tryd.underlying33 rfl (by kernel_rfl) ?_)
              | (go_at_call 8; refine (HV.out).mono ?_; rintro e w5 ⟨rfl, hg5⟩; have HG5 := Lib.hid hg5; clear hg5))
            exact ⟨_, results_tmp rfl _ _ _, rfl, HX.out.trans HG5.out.xt⟩
          · rw [hhv] at HV
            have HSM := Lib.hid (smallT_light hhv)
            go_wp2_with (first
              | (refine wpList_load_mid (P := Tryd.prog) rfl 33 _ rfl b (off + i * 23 + 2) rfl ((inC1 x).drop 2) _ HR.out Tryd.underlying33 rfl (by kernel_rfl) ?_)
              | (go_at_call 8; refine (HV.out).mono ?_; rintro e w5 ⟨rfl, hg5⟩; have HX5 := Lib.hid hg5.xt; clear hg5))
            have hx5 := HX5.out.drew
            have e0 := (hx5.cellsIn _ _ _ d0)
            have e1 := (hx5.cellsIn _ _ _ d1)
            have HRR := Lib.hid (fun W (h : CellsIn w5.drew W) => (⟨h _ _ _ e0, h _ _ _ e1, fun j v hj => h _ _ _ (hx5.cellsIn _ _ _ (HR.out j v hj))⟩ : W.cell? ⟨b, off + i * 23, none⟩ = some (.int .i64 x.a.1) ∧ W.cell? ⟨b, off + i * 23 + 1, none⟩ = some (.int .i64 x.a.2) ∧ W.rangeAt b (off + i * 23 + 2) ((inC1 x).drop 2)))
            have HP := Lib.hid (gput_any n (mb + 1) mb MB x.a x.c x.p x.cap w5.drew (HGB.out.xt hx5) HOK.out (HT.out.xt (HX.out.trans hx5)) HSM.out (HIN.out.xt hx5))
            have HX6 := Lib.hid (HX.out.trans hx5)
            have HCI := Lib.hid (fun W (h : w5.drew.grownBy W (some mb)) => (HGB.out.xt hx5).cellsIn h)
            have OHGA := Lib.hid (fun W (h : w5.drew.grownBy W (some mb)) => (HGA.out.xt hx5).other (HGB.out.xt hx5) h (by omega))
            have OHGC := Lib.hid (fun W (h : w5.drew.grownBy W (some mb)) => (HGC.out.xt hx5).other (HGB.out.xt hx5) h (by omega))
            clear hx5
            refine wp_region_held_drew (S := fun W => W.cell? ⟨b, off + i * 23, none⟩ = some (.int .i64 x.a.1) ∧ W.cell? ⟨b, off + i * 23 + 1, none⟩ = some (.int .i64 x.a.2) ∧ W.rangeAt b (off + i * 23 + 2) ((inC1 x).drop 2)) (by kernel_rfl) (HRR.out _ (CellsIn.refl _)) (fun hHeld => ?_)
            refine wpAnyH_take (i := 0) (oi := _) (v := ?_) rfl (by kernel_rfl) (by kernel_rfl) (by kernel_rfl) (fun _ _ _ h => h) (Or.inl ⟨by rfl, ?_⟩) (by assumption) ?_
            rotate_left
            · intro w hSw; (try dsimp only at hSw); obtain ⟨k0, k1, kr⟩ := hSw; clear kr; go_simp; first | done | with_reducible rfl
            try simp only [Act.put, List.getElem_toArray, List.getElem_cons_zero, List.getElem_cons_succ, List.setIfInBounds_toArray, List.set_cons_zero, List.set_cons_succ]
            refine wpAnyH_take (i := 1) (oi := _) (v := ?_) rfl (by kernel_rfl) (by kernel_rfl) (by kernel_rfl) (fun _ _ _ h => h) (Or.inl ⟨by rfl, ?_⟩) (by assumption) ?_
            rotate_left
            · intro w hSw; (try dsimp only at hSw); obtain ⟨k0, k1, kr⟩ := hSw; clear kr; go_simp; first | done | with_reducible rfl
            try simp only [Act.put, List.getElem_toArray, List.getElem_cons_zero, List.getElem_cons_succ, List.setIfInBounds_toArray, List.set_cons_zero, List.set_cons_succ]
            refine wpAnyH_take (i := 2) (oi := _) (v := ?_) rfl (by kernel_rfl) (by kernel_rfl) (by kernel_rfl) (fun _ _ _ h => h) (Or.inl ⟨by rfl, ?_⟩) (by assumption) ?_
            rotate_left
            · intro w hSw; (try dsimp only at hSw); obtain ⟨k0, k1, kr⟩ := hSw; clear kr; go_simp; first | done | with_reducible rfl
            try simp only [Act.put, List.getElem_toArray, List.getElem_cons_zero, List.getElem_cons_succ, List.setIfInBounds_toArray, List.set_cons_zero, List.set_cons_succ]
            refine wpAnyH_take (i := 3) (oi := _) (v := ?_) rfl (by kernel_rfl) (by kernel_rfl) (by kernel_rfl) (fun _ _ _ h => h) (Or.inl ⟨by rfl, ?_⟩) (by assumption) ?_
            rotate_left
            · intro w hSw; (try dsimp only at hSw); obtain ⟨k0, k1, kr⟩ := hSw; clear kr; go_simp; first | done | with_reducible rfl
            try simp only [Act.put, List.getElem_toArray, List.getElem_cons_zero, List.getElem_cons_succ, List.setIfInBounds_toArray, List.set_cons_zero, List.set_cons_succ]
            refine wpAnyH_take (i := 4) (oi := _) (v := ?_) rfl (by kernel_rfl) (by kernel_rfl) (by kernel_rfl) (fun _ _ _ h => h) (Or.inl ⟨by rfl, ?_⟩) (by assumption) ?_
            rotate_left
            · intro w hSw; (try dsimp only at hSw); obtain ⟨k0, k1, kr⟩ := hSw; clear kr; go_simp; first | done | with_reducible rfl
            try simp only [Act.put, List.getElem_toArray, List.getElem_cons_zero, List.getElem_cons_succ, List.setIfInBounds_toArray, List.set_cons_zero, List.set_cons_succ]
            refine wpAnyH_take (i := 5) (oi := _) (v := ?_) rfl (by kernel_rfl) (by kernel_rfl) (by kernel_rfl) (fun _ _ _ h => h) (Or.inl ⟨by rfl, ?_⟩) (by assumption) ?_
            rotate_left
            · intro w hSw; (try dsimp only at hSw); obtain ⟨k0, k1, kr⟩ := hSw; clear kr; go_simp; first | done | with_reducible rfl
            try simp only [Act.put, List.getElem_toArray, List.getElem_cons_zero, List.getElem_cons_succ, List.setIfInBounds_toArray, List.set_cons_zero, List.set_cons_succ]
            refine wpAnyH_take (i := 6) (oi := _) (v := ?_) rfl (by kernel_rfl) (by kernel_rfl) (by kernel_rfl) (fun _ _ _ h => h) (Or.inl ⟨by rfl, ?_⟩) (by assumption) ?_
            rotate_left
            · intro w hSw; (try dsimp only at hSw); obtain ⟨k0, k1, kr⟩ := hSw; clear kr; go_simp; first | done | with_reducible rfl
            try simp only [Act.put, List.getElem_toArray, List.getElem_cons_zero, List.getElem_cons_succ, List.setIfInBounds_toArray, List.set_cons_zero, List.set_cons_succ]
            refine wpAnyH_take (i := 7) (oi := _) (v := ?_) rfl (by kernel_rfl) (by kernel_rfl) (by kernel_rfl) (fun _ _ _ h => h) (Or.inl ⟨by rfl, ?_⟩) (by assumption) ?_
            rotate_left
            · intro w hSw; (try dsimp only at hSw); obtain ⟨k0, k1, kr⟩ := hSw; clear kr; go_simp; first | done | with_reducible rfl
            try simp only [Act.put, List.getElem_toArray, List.getElem_cons_zero, List.getElem_cons_succ, List.setIfInBounds_toArray, List.set_cons_zero, List.set_cons_succ]
            refine wpAnyH_take (i := 8) (oi := _) (v := ?_) rfl (by kernel_rfl) (by kernel_rfl) (by kernel_rfl) (fun _ _ _ h => h) (Or.inl ⟨by rfl, ?_⟩) (by assumption) ?_
            rotate_left
            · intro w hSw; (try dsimp only at hSw); obtain ⟨k0, k1, kr⟩ := hSw; clear kr; go_simp; first | done | with_reducible rfl
            try simp only [Act.put, List.getElem_toArray, List.getElem_cons_zero, List.getElem_cons_succ, List.setIfInBounds_toArray, List.set_cons_zero, List.set_cons_succ]
            refine wpAnyH_take (i := 9) (oi := _) (v := ?_) rfl (by kernel_rfl) (by kernel_rfl) (by kernel_rfl) (fun _ _ _ h => h) (Or.inl ⟨by rfl, ?_⟩) (by assumption) ?_
            rotate_left
            · intro w hSw; (try dsimp only at hSw); obtain ⟨k0, k1, kr⟩ := hSw; clear kr; go_simp; first | done | with_reducible rfl
            try simp only [Act.put, List.getElem_toArray, List.getElem_cons_zero, List.getElem_cons_succ, List.setIfInBounds_toArray, List.set_cons_zero, List.set_cons_succ]
            refine wpAnyH_take (i := 10) (oi := _) (v := .agg ((inC1 x).drop 2).toArray) rfl (by kernel_rfl) (by kernel_rfl) (by kernel_rfl) (fun _ _ _ h => h) (Or.inl ⟨by rfl, ?_⟩) (by assumption) ?_
            · intro w hSw; exact exec_load_mid 33 _ (by rfl) b (off + i * 23 + 2) (by rfl) ((inC1 x).drop 2) _ hSw.2.2 Tryd.underlying33 rfl (by kernel_rfl)
            try simp only [Act.put, List.getElem_toArray, List.getElem_cons_zero, List.getElem_cons_succ, List.setIfInBounds_toArray, List.set_cons_zero, List.set_cons_succ]
            refine wpAnyH_ready (rs := [11]) (by kernel_rfl) (by simp) ?_
            refine AllReadyH.cons (o := _) rfl (fun K hK => ?_) AllReadyH.nil
            go_simp
            refine (HP.out).mono ?_
            rintro e w6 ⟨z, rfl, hG6, hg6⟩
            refine hK.out _ _ (HRR.out _ (HCI.out _ hg6)) (fun hHeld2 => ?_)
            clear hK K
            try simp only [Act.put, List.getElem_toArray, List.getElem_cons_zero, List.getElem_cons_succ, List.setIfInBounds_toArray, List.set_cons_zero, List.set_cons_succ]
            refine wpAnyH_done (by kernel_rfl) ?_ _
            have HG6 := Lib.hid hG6
            have Hg6 := Lib.hid hg6
            clear hG6 hg6 d0 d1 e0 e1 hHeld hHeld2
            go_wp2_with fail
            go_roundw
            case rel => exact ⟨i + 1, putTo MB x.a x.c z, by omega, by go_num, HG6.out, by unfold Hid; rw [er_put, HEB.out, HTK.out], OHGA.out _ Hg6.out, OHGC.out _ Hg6.out, HX6.out.grownB Hg6.out (fun m hm => by cases hm; omega)⟩
            case measure => simp [intOf]; omega
        · have he : i = k.length := by omega
          subst he
          have HEBE : Hid (er MB = allP [] (pis k)) := by unfold Hid; rw [HEB.out, List.take_length]
          have BX := HX
          clear HEB HX hi hlt
          have hq := fun w f lb => run_eql_func_nil (P := Tryd.prog) w 49 _ _ _ (.func f) #[] lb Tryd.underlying49
          obtain ⟨W0, hW0⟩ : ∃ W0, (wr.alloc (.cells #[.pointer (some ⟨ma + 1, 0, none⟩)] 35)).alloc (.cells #[.func (.func 31) #[] #[]] 70) = W0 := ⟨_, rfl⟩
          have hs0 : W0.heap.size = wr.heap.size + 2 := by rw [← hW0]; simp
          have hx0 : Xt wr W0 := by rw [← hW0]; exact ((Xt.refl wr).alloc _).alloc _
          have hcw0 : W0.heap[wr.heap.size + 1]? = some (.cells #[.func (.func 31) #[] #[]] 70 (0, 0)) := by
            rw [← hW0]
            have := World.alloc_heap_new (wr.alloc (.cells #[.pointer (some ⟨ma + 1, 0, none⟩)] 35)) (.cells #[.func (.func 31) #[] #[]] 70)
            simpa using this
          have hcg0 : W0.heap[wr.heap.size]? = some (.cells #[.pointer (some ⟨ma + 1, 0, none⟩)] 35 (0, 0)) := by
            rw [← hW0]
            exact (((Xt.refl (wr.alloc _)).alloc _).block _ (by simp)).trans (MapKept.heap_alloc wr _).1
          go_wp2_with (go_at_call 14; refine ((callsIn_wide (n := 20)).1 (all_in 20 (by omega) _ _)).mono ?_; rintro e w' ⟨rfl, rfl⟩; rw [hW0])
          obtain ⟨W1, hW1⟩ : ∃ W1, W0.alloc (.cells #[.slice none 0 0] 44) = W1 := ⟨_, rfl⟩
          have hx01 : Xt W0 W1 := by rw [← hW1]; exact (Xt.refl W0).alloc _
          have hs1 : W1.heap.size = W0.heap.size + 1 := by rw [← hW1]; simp
          have hr14 : W1.heap[W0.heap.size]? = some (.cells #[.slice none 0 0] 44 (0, 0)) := by rw [← hW1]; exact World.alloc_heap_new W0 _
          have hcg1 : W1.cell? ⟨wr.heap.size, 0, none⟩ = some (.pointer (some ⟨ma + 1, 0, none⟩)) := by
            have := (hx01.block _ (by omega)).trans hcg0
            simp [World.cell?, this]
          have hcw1 := (hx01.block (wr.heap.size + 1) (by omega)).trans hcw0
          have HGA0 := HGA.out.xt hx0
          have HXW1 := Lib.hid (BX.out.trans (hx0.trans hx01))
          rw [hW1]
          clear hW1 hW0 hq hcw0 hcg0
          rw [hs0] at hr14 hs1
          generalize hA0 : Act.mk _ _ = a0
          refine (wpIn_wide (n := 25)).1 ?_
          refine rangeFunc_told (n := 25) (by omega) (gf := 50) (lb := #[.pointer (some ⟨wr.heap.size, 0, none⟩), .pointer (some ⟨wr.heap.size + 1, 0, none⟩)]) (by subst hA0; rfl) (enters_of Tryd.func50 (by kernel_rfl) rfl)
            (some1_told (fun _ => false) 31 #[] (enters_of Tryd.func31 (by kernel_rfl) rfl) (fun _ => true) (wr.heap.size + 2) W0 hs0.symm (fun _ => True) (fun _ _ _ _ _ => trivial) (fun a W _ => all1_any a W) (25 - 1) (by omega) wr.heap.size (wr.heap.size + 1) (ma + 1) ma MA HGA0 W1 (hx01.mono (by omega)) trivial (by omega) hcg1 hcw1)
            (fun h k => ⟨h.1.trans k.1, h.2.trans k.2⟩) (fun W l o o' hl ho hc hw => ⟨belowK_b (w := W1) (by omega) W l o o' hl ho hc hw, KeepsT.of_grown (grownBy_putObj' W l o') (fun j o2 e h2 => by cases e; rw [ho] at h2; cases h2; cases o <;> simp_all [keptO, Obj.isCells, Obj.isWalk])⟩) (Below.refl _ _) (fun _ => rfl)
            (fun pre W => (∃ v, W.heap[wr.heap.size + 2]? = some (.cells #[v] 44 (0, 0)) ∧ PutsOwn W (wr.heap.size + 3) v (toP pre)) ∧ Below (wr.heap.size + 2) W0 W)
            (fun _ _ _ => False)
            (OwnFrom.and (fun s X Y row hs hg hr => by
              obtain ⟨v, hv, hp⟩ := hs
              exact ⟨v, rowCells_own hv hg (fun r e => (hr r e).2), hp.walk hg (fun r e => (hr r e).2)⟩) (ownFrom_below (by omega) (by omega)))
            (fun _ _ _ _ _ hs _ _ => hs)
            ⟨⟨_, hr14, PutsOwn.nil _ _⟩, hx01.mono (by omega)⟩
            (fun x a' W => ∃ (z : CE) (Bx By lo : Nat), z.1 = copyC x.2.1 ∧ z.2 = x.2.2 ∧ W.heap[Bx]? = some (.cells #[.int .i64 x.1.1, .int .i64 x.1.2] 26 (0, 0)) ∧ W.heap[By]? = some (.cells #[.int .i64 z.1.kind, .int .i64 z.1.v.kind, .float .f64 z.1.v.x, .string z.1.v.s, .bool z.1.v.b, .int .i64 z.1.v.f, .int .i64 z.1.t.kind, .int .i64 z.1.t.op, .float .f64 z.1.t.x, .string z.1.t.s, .bool z.1.t.b, .int .i64 z.1.t.f, .int .i64 z.1.t.ref.a.1, .int .i64 z.1.t.ref.a.2, .bool z.1.t.ref.cf, .bool z.1.t.ref.rf, .int .i64 z.1.t.to.a.1, .int .i64 z.1.t.to.a.2, .bool z.1.t.to.cf, .bool z.1.t.to.rf, .slice z.2 z.1.t.args.length z.1.t.args.length] 33 (0, 0)) ∧ wr.heap.size + 3 ≤ Bx ∧ wr.heap.size + 3 ≤ By ∧ Bx < W.heap.size ∧ By < W.heap.size ∧ wr.heap.size + 3 ≤ lo ∧
              (smallT z.1.t ∧ ∃ n, ArgsS (fun b => lo ≤ b) W n (.slice z.2 z.1.t.args.length z.1.t.args.length) z.1.t.args) ∧ (∀ v, W.heap[wr.heap.size + 2]? = some (.cells #[v] 44 (0, 0)) → ∀ g, v.ownBlock = some g → g < lo) ∧
              a' = { tmps := (((a0.tmps.setIfInBounds 93 (adW x.1)).setIfInBounds 94 (ceV z)).setIfInBounds 15 (.pointer (some ⟨Bx, 0, none⟩))).setIfInBounds 16 (.pointer (some ⟨By, 0, none⟩)), defers := [] })
            (fun x a' _ X Y row hs hg hr => by
              obtain ⟨z, Bx, By, lo, e1, e2, h1, h2, h3, h4, h5, h6, h7, ⟨h8, n, h9⟩, h10, h11⟩ := hs
              have hgs := hg.size
              exact ⟨z, Bx, By, lo, e1, e2, rowCells_own h1 hg (fun r e => (hr r e).2), rowCells_own h2 hg (fun r e => (hr r e).2), h3, h4, by omega, by omega, h7, ⟨h8, n, h9.kept (cellsIn_walk hg (fun r e => (hr r e).2))⟩,
                fun v hv => h10 v ((hg.block (wr.heap.size + 2) (by omega) (fun e => by have := (hr _ e.symm).1; omega)).symm.trans hv), h11⟩)
            ?assign ?body ?done ?stop
          case stop =>
            rintro D c pre W hD hS hF
            exact hF.elim
          case assign =>
            rintro l0 pre x W K ⟨⟨v, hv, hP⟩, hB⟩ ⟨V, ⟨⟨v', hv', hP'⟩, hB'⟩, hxV, hsm, nT, hA⟩ hK
            subst hA0
            obtain ⟨⟨c, d⟩, tc, tp⟩ := x
            obtain ⟨z, hz1, hz2⟩ : ∃ z : CE, z.1 = copyC tc ∧ z.2 = tp := ⟨(copyC tc, tp), rfl, rfl⟩
            have hzv : copyCV tc tp = ceV z := by rw [← ceV_copy]; obtain ⟨z1, z2⟩ := z; simp only at hz1 hz2; rw [hz1, hz2]
            have hzA : smallT z.1.t ∧ ∃ n, ArgsS (fun b => V.heap.size ≤ b) W n (.slice z.2 z.1.t.args.length z.1.t.args.length) z.1.t.args := by
              rw [hz1, hz2]
              refine ⟨smallT_copy _ hsm, nT, ?_⟩
              show ArgsS _ _ _ (.slice tp (copyT tc.t).args.length (copyT tc.t).args.length) (copyT tc.t).args
              rw [copyT_len, copyT_args]
              exact hA
            have hvv : ∀ u, W.heap[wr.heap.size + 2]? = some (.cells #[u] 44 (0, 0)) → ∀ g, u.ownBlock = some g → g < V.heap.size := fun u hu g hg => by
              have e1 := (hxV.block _ (Array.getElem?_eq_some_iff.1 hv').1).symm.trans hu
              rw [hv'] at e1
              simp only [Option.some.injEq, Obj.cells.injEq, Array.mk.injEq, List.cons.injEq, and_true] at e1
              rw [← e1] at hg
              exact (World.ownsRow.lt hP'.own g hg).2
            have hVb := (Array.getElem?_eq_some_iff.1 hv').1
            have hWb := hB.size
            have HZ := Lib.hid (show z.1 = copyC tc ∧ z.2 = tp from ⟨hz1, hz2⟩)
            have HVV := Lib.hid hvv
            have HZA := Lib.hid hzA
            simp only [teV, hzv]
            clear hz1 hz2 hzv hvv hzA hA hsm hP' hv' hB'
            obtain ⟨wA, hwA, hbA, hsA, kA0, kA1⟩ := box1 W c d 26
            obtain ⟨wZ, wR, hwZ, hwR, hrZ, hrR, hxR, hsR, hxZ, hsZ⟩ := boxR wA z
            rw [hsA] at hrZ hwR hrR
            have hrA : wA.heap[W.heap.size]? = some (.cells #[.int .i64 c, .int .i64 d] 26 (0, 0)) := by rw [← hwA]; exact World.alloc_heap_new W _
            have hxWR := Lib.hid (Xt.trans hbA hxR)
            have HRA := Lib.hid ((hxR.block _ (by omega)).trans hrA)
            have HRZ := Lib.hid hrZ
            have HRR := Lib.hid hrR
            have HWR := Lib.hid hwR
            clear hrZ hwR hrR hrA kA0 kA1 hbA hxZ hxR
            gi_wp2_with (first | (refine wpListIn_store_row (P := Tryd.prog) rfl 33 _ _ rfl (W.heap.size + 1) #[.int .i64 z.1.kind, .int .i64 z.1.v.kind, .float .f64 z.1.v.x, .string z.1.v.s, .bool z.1.v.b, .int .i64 z.1.v.f, .int .i64 z.1.t.kind, .int .i64 z.1.t.op, .float .f64 z.1.t.x, .string z.1.t.s, .bool z.1.t.b, .int .i64 z.1.t.f, .int .i64 z.1.t.ref.a.1, .int .i64 z.1.t.ref.a.2, .bool z.1.t.ref.cf, .bool z.1.t.ref.rf, .int .i64 z.1.t.to.a.1, .int .i64 z.1.t.to.a.2, .bool z.1.t.to.cf, .bool z.1.t.to.rf, .slice z.2 z.1.t.args.length z.1.t.args.length] rfl rfl 33 _ HRZ.out (by kernel_rfl) rfl (by simp [Value.oneCell']) ?_; rw [HWR.out]))
            have hx := hxWR.out
            refine hK _ _ (keepsFrom_xt hx _) ⟨hx.mono (by omega), KeepsT.of_xt hx⟩ ⟨⟨v, (hx.block _ (Array.getElem?_eq_some_iff.1 hv).1).trans hv, hP.xt hx⟩, hB.trans (hx.mono (by omega))⟩ ?_
            have hsz := hx.size
            have hvl := (Array.getElem?_eq_some_iff.1 hv).1
            refine ⟨z, W.heap.size, W.heap.size + 1, V.heap.size, HZ.out.1, HZ.out.2, HRA.out, HRR.out, by omega, by omega, by omega, by omega, by omega, ⟨HZA.out.1, HZA.out.2.choose, HZA.out.2.choose_spec.kept hx.cellsIn⟩, fun u hu => HVV.out u ((hx.block _ hvl).symm.trans hu), ?_⟩
            simp only [List.setIfInBounds_toArray, List.set_cons_zero, List.set_cons_succ]
          case body =>
            rintro l0 pre x a' W hl0 ⟨r, hr⟩ ⟨⟨v, hv, hP⟩, hB⟩ ⟨z, Bx, By, lo, hz1, hz2, hBx, hBy, hlx, hly, hlx2, hly2, hlo, ⟨hzs, nz, hzA⟩, hov, rfl⟩ hlt
            subst hA0
            obtain ⟨⟨c, d⟩, tc, tp⟩ := x
            simp only at hBx hz1 hz2
            have hzP : toP (pre ++ [((c, d), tc, tp)]) = toP pre ++ [((c, d), z)] := by rw [toP_snoc]; obtain ⟨z1, z2⟩ := z; simp only at hz1 hz2; rw [hz1, hz2]
            have d0 : W.cell? ⟨Bx, 0, none⟩ = some (.int .i64 c) := by simp [World.cell?, hBx]
            have d1 : W.cell? ⟨Bx, 1, none⟩ = some (.int .i64 d) := by simp [World.cell?, hBx]
            have cv : W.cell? ⟨wr.heap.size + 2, 0, none⟩ = some v := by simp [World.cell?, hv]
            obtain ⟨wD, hwD⟩ : ∃ wD, W.alloc (.cells #[.int .i64 c, .int .i64 d, .int .i64 z.1.kind, .int .i64 z.1.v.kind, .float .f64 z.1.v.x, .string z.1.v.s, .bool z.1.v.b, .int .i64 z.1.v.f, .int .i64 z.1.t.kind, .int .i64 z.1.t.op, .float .f64 z.1.t.x, .string z.1.t.s, .bool z.1.t.b, .int .i64 z.1.t.f, .int .i64 z.1.t.ref.a.1, .int .i64 z.1.t.ref.a.2, .bool z.1.t.ref.cf, .bool z.1.t.ref.rf, .int .i64 z.1.t.to.a.1, .int .i64 z.1.t.to.a.2, .bool z.1.t.to.cf, .bool z.1.t.to.rf, .slice z.2 z.1.t.args.length z.1.t.args.length] 47) = wD := ⟨_, rfl⟩
            have hnews : ∀ (j : Nat) (u : Value), (putC ((c, d), z))[j]? = some u → wD.cell? ((⟨W.heap.size, 0, none⟩ : Addr).add j) = some u := by
              rw [← hwD]; exact news_at W (putC ((c, d), z)) 47 rfl
            have hxD : Xt W wD := by rw [← hwD]; exact (Xt.refl W).alloc _
            have hOD := hP.xt hxD
            have hBs := hB.size
            have hDs := hxD.size
            have hok : okPut (fun b => wr.heap.size + 3 ≤ b ∧ v.ownBlock ≠ some b) wD ((c, d), z) :=
              ⟨hzs, nz, (hzA.kept hxD.cellsIn).keep (fun b hb _ => ⟨by omega, fun e => by have := hov v hv b e; omega⟩) (fun _ _ _ _ => rfl)⟩
            have hvl := (Array.getElem?_eq_some_iff.1 hv).1
            have hll : (toP pre).length ≤ 1048576 := by have := HGA0.many; simp only [toP, List.length_map]; omega
            obtain ⟨v8, w8, hpush, HO8, hg8⟩ := putsOwn_push hOD (by omega) ((c, d), z) ⟨W.heap.size, 0, none⟩ hnews hok hll 44
            obtain ⟨va8, vc8, rfl, _, _⟩ := ownsRow_base (HO8.own.base (Nat.zero_le _))
            have e8 : (toP pre ++ [((c, d), z)]).length = (toP pre).length + 1 := by simp
            rw [e8] at hpush HO8
            have h8s := hg8.size
            have hkk := hOD.grown_keeps hg8 W1.heap.size
            have hnb : v.ownBlock ≠ some (wr.heap.size + 2) := fun e => by
              rcases own_ne hP.own (show wr.heap.size + 2 < wr.heap.size + 3 by omega) with h | h
              · rw [h] at e; cases e
              · exact h e
            have hv8 : w8.heap[wr.heap.size + 2]? = some (.cells #[v] 44 (0, 0)) := (hg8.block _ (by omega) (fun e => hnb e.symm)).trans ((hxD.block _ hvl).trans hv)
            have c8 : w8.cell? ⟨wr.heap.size + 2, 0, none⟩ = some v := by simp [World.cell?, hv8]
            have f8 : w8.frozen? ⟨wr.heap.size + 2, 0, none⟩ = false := by simp [World.frozen?, hv8]
            have hxb8 : Below (wr.heap.size + 2) W w8 := (hxD.mono (by omega) : Below (wr.heap.size + 2) W wD).grown hg8 (by omega) (fun m hm => by
              rcases own_ne hP.own (show wr.heap.size + 2 < wr.heap.size + 3 by omega) with h | h
              · rw [h] at hm; cases hm
              · have := (World.ownsRow.lt hP.own m (by first | exact hm | exact hm.symm)).1; omega)
            have hkD : KeepsFrom W1.heap.size W w8 := (keepsFrom_xt hxD _).trans hkk.1
            have hkT : KeepsT (fun _ => false) W w8 := (KeepsT.of_xt hxD).trans hkk.2
            have HO9 := HO8.cell (b := wr.heap.size + 2) (by omega) 0 (.slice va8 ((toP pre).length + 1) vc8)
            have HBY := Lib.hid hBy
            have HFIN : Hid (KeepsFrom W1.heap.size W (w8.setCell ⟨wr.heap.size + 2, 0, none⟩ (.slice va8 ((toP pre).length + 1) vc8)) ∧ (Below (wr.heap.size + 2) W (w8.setCell ⟨wr.heap.size + 2, 0, none⟩ (.slice va8 ((toP pre).length + 1) vc8)) ∧ KeepsT (fun _ => false) W (w8.setCell ⟨wr.heap.size + 2, 0, none⟩ (.slice va8 ((toP pre).length + 1) vc8))) ∧ (∃ v, (w8.setCell ⟨wr.heap.size + 2, 0, none⟩ (.slice va8 ((toP pre).length + 1) vc8)).heap[wr.heap.size + 2]? = some (.cells #[v] 44 (0, 0)) ∧ PutsOwn (w8.setCell ⟨wr.heap.size + 2, 0, none⟩ (.slice va8 ((toP pre).length + 1) vc8)) (wr.heap.size + 3) v (toP (pre ++ [((c, d), tc, tp)]))) ∧ Below (wr.heap.size + 2) W0 (w8.setCell ⟨wr.heap.size + 2, 0, none⟩ (.slice va8 ((toP pre).length + 1) vc8))) := by
              have hgs := setCell_grown w8 (wr.heap.size + 2) 0 (.slice va8 ((toP pre).length + 1) vc8)
              have hb9 := hxb8.grown hgs (by omega) (fun m hm => by cases hm; omega)
              have hrow := setCell_row hv8 0 (.slice va8 ((toP pre).length + 1) vc8)
              refine ⟨hkD.trans ⟨hgs.size, fun k o _ hk ho => (hgs.block k (Array.getElem?_eq_some_iff.1 hk).1 (fun e => by cases e; rw [hv8] at hk; cases hk; cases ho)).trans hk⟩, ⟨hb9, hkT.trans (KeepsT.of_grown hgs (fun j o e ho => by cases e; rw [hv8] at ho; cases ho; simp [keptO]))⟩, ⟨_, by simpa using hrow, by rw [hzP]; exact HO9⟩, hB.trans hb9⟩
            clear hnews hxD hOD hok hll HO8 hg8 hkk hv8 hxb8 hkD hkT HO9 hBx hBy hzA hov hzs hP hv hB hz1 hz2 hzP hnb hr
            simp only [List.setIfInBounds_toArray, List.set_cons_zero, List.set_cons_succ]
            gi_wp2_with (first
              | (refine BigFrame.wpListIn_want (by rfl) (fun K hK => wpIn_load_row 33 _ rfl By rfl 33 _ (0, 0) _ HBY.out Tryd.underlying33 rfl (by kernel_rfl) (hK _ _ ?_)); clear hK K)
              | (gi_at_builtin; refine wpListIn_append_run rfl _ _ 44 rfl _ _ _ _ rfl rfl hpush ?_))
            exact HFIN.out
          case done =>
            rintro D xs W hD hS ⟨⟨v, hv, hP⟩, hB⟩ hK
            subst hA0
            have hxW : Xt W0 W := by unfold Xt; rw [hs0]; exact hB
            have hGA : GOk (er MA) := by rw [HEAE.out]; exact allP_ok GOk.nil (pis_ok HL.out)
            have hGB : GOk (er MB) := by rw [HEBE.out]; exact allP_ok GOk.nil (pis_ok HK.out)
            have hvf : ∀ g, v.ownBlock = some g → W0.heap.size ≤ g := fun g hg => by have := (World.ownsRow.lt hP.own g hg).1; omega
            have hGB0 : GBS w D (wr.heap.size + 2) ma mb mc MA MB [] v (toP xs) W := ⟨⟨HGA0.xt hxW, (HGB.out.xt hx0).xt hxW, (HGC.out.xt hx0).xt hxW, hv, hP, hK, (BX.out.trans hx0).trans hxW, ⟨hwa, hab, hbc, by have := BX.out.size; omega, by have := HGC.out.lt.1; omega⟩⟩, atS.of HGA0 hxW hvf, atS.of (HGB.out.xt hx0) hxW hvf, fun x hx => by cases hx⟩
            have HPE := Lib.hid (told_er hS hGA)
            obtain ⟨B, hBe⟩ : ∃ B, wr.heap.size + 2 = B := ⟨_, rfl⟩
            rw [hBe] at hGB0
            simp only [hBe]
            obtain ⟨va, vc, rfl, hvc, hvc2⟩ := ownsRow_base (hP.own.base (Nat.zero_le _))
            have HOKA := Lib.hid hGA
            have HOKB := Lib.hid hGB
            have HDB : Hid (w.heap.size ≤ D) := by unfold Hid; have := BX.out.size; omega
            have HG0 := Lib.hid hGB0
            obtain ⟨L0, hL0⟩ : ∃ L0, toP xs = L0 := ⟨_, rfl⟩
            obtain ⟨N, hN⟩ : ∃ N, L0.length = N := ⟨_, rfl⟩
            rw [hL0] at HG0 HPE hvc
            rw [hN] at HG0 hvc
            clear hGA hGB hGB0 hvf hv hP hK hB hS hD hxW hcg1 hcw1 hr14 HXW1 hx0 hx01 hs0 hs1 hBe hL0 HGA HGB HGC HGA0 HEAE HEBE BX
            go_wp2_with fail
            go_loopw [17] (fun s17 wr => ∃ (i : Nat) (L : List PutE) (MC : GM), i ≤ N ∧ s17 = .int .i64 i ∧ L.length = N ∧ Hid (GBS w D B ma mb mc MA MB MC (.slice va N vc) L wr) ∧ Hid ((er L).Perm (er MA)) ∧ Hid (er MC = allP [] ((er L).take i))) (fun s17 _ => N - (intOf s17).toNat)
            case atStart => exact ⟨0, L0, [], Nat.zero_le _, rfl, hN, HG0, by unfold Hid; rw [HPE.out], by unfold Hid; simp [er, allP]⟩
            case round =>
              clear HG0 HPE hN
              obtain ⟨i, L, MC, hi, rfl, hLN, HG, HPM, HEC⟩ := hrel
              have cv : wr.cell? ⟨B, 0, none⟩ = some (.slice va N vc) := by simp [World.cell?, HG.out.g.row]
              by_cases hlt : i < N
              · have hki : (i : Int) < (N : Int) := by omega
                obtain ⟨x, hx⟩ : ∃ x, L[i]? = some x := ⟨L[i]'(by omega), by simp⟩
                go_upto_if 111 with fail
                go_cut [18] from 101 to 149 (fun s18 wx => ∃ j : Nat, s18 = .int .i64 j ∧ Hid (i ≤ j ∧ j < N) ∧ Hid (Xt wr wx))
                case first =>
                  by_cases hio : i < od.length
                  · have hkio : (i : Int) < (od.length : Int) := by omega
                    obtain ⟨cz, hcz⟩ : ∃ cz, od[i]? = some cz := ⟨od[i], by simp [hio]⟩
                    obtain ⟨hz0, hz1⟩ := HOB.out cz (List.mem_of_getElem? hcz)
                    obtain ⟨_, _, e0, _, _, hoc3⟩ := HO.out.keptC HG.out.g.xt.cellsIn
                    cases e0
                    obtain ⟨ob, ooff, rfl, hocell⟩ := hoc3 (by intro e; subst e; simp at hcz)
                    have co := hocell i cz hcz 0 _ rfl
                    simp only [Nat.mul_one, Nat.add_zero] at co
                    have ws : IntKind.i64.wrap ((N : Int) - i) = (N : Int) - i := wrap_idz (by omega) (by omega)
                    have hpl := pickZ_lt (c := cz) (n := (N : Int) - i) (by omega)
                    have HPK := Lib.hid (fun W => pickz_any cz ((N : Int) - i) W hz0 hz1 (by omega) (by omega))
                    obtain ⟨jz, hjz⟩ : ∃ jz : Nat, pickZ cz ((N : Int) - i) = jz := ⟨(pickZ cz ((N : Int) - i)).toNat, by omega⟩
                    rw [hjz] at HPK hpl
                    have wj : IntKind.i64.wrap ((i : Int) + jz) = ((i + jz : Nat) : Int) := by rw [wrap_idz (by omega) (by omega)]; omega
                    have WS := Lib.hid ws
                    have WJ := Lib.hid wj
                    clear ws wj
                    have hjN : i + jz < N := by omega
                    clear hoc3 hocell hcz hz0 hz1 hjz
                    go_wp2_with fail
                    refine wp_region_held_drew (S := fun W => W.cell? ⟨ob, ooff + i, none⟩ = some (.int .i64 cz) ∧ W.cell? ⟨B, 0, none⟩ = some (.slice va N vc)) (by kernel_rfl) ⟨co, cv⟩ (fun hHeld => ?_)
                    refine wpAnyH_take (i := 0) (oi := _) (v := ?_) rfl (by kernel_rfl) (by kernel_rfl) (by kernel_rfl) (fun _ _ _ h => h) (Or.inl ⟨by rfl, ?_⟩) (by assumption) ?_
                    rotate_left
                    · intro w hSw; (try dsimp only at hSw); obtain ⟨k0, k1⟩ := hSw; go_simp; first | done | with_reducible rfl
                    try simp only [Act.put, List.getElem_toArray, List.getElem_cons_zero, List.getElem_cons_succ, List.setIfInBounds_toArray, List.set_cons_zero, List.set_cons_succ]
                    refine wpAnyH_take (i := 1) (oi := _) (v := ?_) rfl (by kernel_rfl) (by kernel_rfl) (by kernel_rfl) (fun _ _ _ h => h) (Or.inl ⟨by rfl, ?_⟩) (by assumption) ?_
                    rotate_left
                    · intro w hSw; (try dsimp only at hSw); obtain ⟨k0, k1⟩ := hSw; go_simp; first | done | with_reducible rfl
                    try simp only [Act.put, List.getElem_toArray, List.getElem_cons_zero, List.getElem_cons_succ, List.setIfInBounds_toArray, List.set_cons_zero, List.set_cons_succ]
                    refine wpAnyH_take (i := 2) (oi := _) (v := ?_) rfl (by kernel_rfl) (by kernel_rfl) (by kernel_rfl) (fun _ _ _ h => h) (Or.inl ⟨by rfl, ?_⟩) (by assumption) ?_
                    rotate_left
                    · intro w hSw; (try dsimp only at hSw); obtain ⟨k0, k1⟩ := hSw; go_simp; first | done | with_reducible rfl
                    try simp only [Act.put, List.getElem_toArray, List.getElem_cons_zero, List.getElem_cons_succ, List.setIfInBounds_toArray, List.set_cons_zero, List.set_cons_succ]
                    refine wpAnyH_take (i := 3) (oi := _) (v := ?_) rfl (by kernel_rfl) (by kernel_rfl) (by kernel_rfl) (fun _ _ _ h => h) (Or.inl ⟨by rfl, ?_⟩) (by assumption) ?_
                    rotate_left
                    · intro w hSw; (try dsimp only at hSw); obtain ⟨k0, k1⟩ := hSw; go_simp; first | done | with_reducible rfl
                    try simp only [Act.put, List.getElem_toArray, List.getElem_cons_zero, List.getElem_cons_succ, List.setIfInBounds_toArray, List.set_cons_zero, List.set_cons_succ]
                    refine wpAnyH_take (i := 4) (oi := _) (v := ?_) rfl (by kernel_rfl) (by kernel_rfl) (by kernel_rfl) (fun _ _ _ h => h) (Or.inl ⟨by rfl, ?_⟩) (by assumption) ?_
                    rotate_left
                    · intro w hSw; (try dsimp only at hSw); obtain ⟨k0, k1⟩ := hSw; go_simp; first | done | with_reducible rfl
                    try simp only [Act.put, List.getElem_toArray, List.getElem_cons_zero, List.getElem_cons_succ, List.setIfInBounds_toArray, List.set_cons_zero, List.set_cons_succ]
                    refine wpAnyH_take (i := 5) (oi := _) (v := ?_) rfl (by kernel_rfl) (by kernel_rfl) (by kernel_rfl) (fun _ _ _ h => h) (Or.inl ⟨by rfl, ?_⟩) (by assumption) ?_
                    rotate_left
                    · intro w hSw; (try dsimp only at hSw); obtain ⟨k0, k1⟩ := hSw; go_simp; first | done | with_reducible rfl
                    try simp only [Act.put, List.getElem_toArray, List.getElem_cons_zero, List.getElem_cons_succ, List.setIfInBounds_toArray, List.set_cons_zero, List.set_cons_succ]
                    refine wpAnyH_take (i := 6) (oi := _) (v := ?_) rfl (by kernel_rfl) (by kernel_rfl) (by kernel_rfl) (fun _ _ _ h => h) (Or.inl ⟨by rfl, ?_⟩) (by assumption) ?_
                    rotate_left
                    · intro w hSw; (try dsimp only at hSw); obtain ⟨k0, k1⟩ := hSw; go_simp; first | done | with_reducible rfl
                    try simp only [Act.put, List.getElem_toArray, List.getElem_cons_zero, List.getElem_cons_succ, List.setIfInBounds_toArray, List.set_cons_zero, List.set_cons_succ]
                    refine wpAnyH_take (i := 7) (oi := _) (v := ?_) rfl (by kernel_rfl) (by kernel_rfl) (by kernel_rfl) (fun _ _ _ h => h) (Or.inl ⟨by rfl, ?_⟩) (by assumption) ?_
                    rotate_left
                    · intro w hSw; (try dsimp only at hSw); obtain ⟨k0, k1⟩ := hSw; go_simp; first | done | with_reducible rfl
                    try simp only [Act.put, List.getElem_toArray, List.getElem_cons_zero, List.getElem_cons_succ, List.setIfInBounds_toArray, List.set_cons_zero, List.set_cons_succ]
                    refine wpAnyH_take (i := 8) (oi := _) (v := ?_) rfl (by kernel_rfl) (by kernel_rfl) (by kernel_rfl) (fun _ _ _ h => h) (Or.inl ⟨by rfl, ?_⟩) (by assumption) ?_
                    rotate_left
                    · intro w hSw; (try dsimp only at hSw); obtain ⟨k0, k1⟩ := hSw; go_simp; first | done | with_reducible rfl
                    try simp only [Act.put, List.getElem_toArray, List.getElem_cons_zero, List.getElem_cons_succ, List.setIfInBounds_toArray, List.set_cons_zero, List.set_cons_succ]
                    refine wpAnyH_ready (rs := [9]) (by kernel_rfl) (by simp) ?_
                    refine AllReadyH.cons (o := _) rfl (fun K hK => ?_) AllReadyH.nil
                    go_simp
                    rw [WS.out]
                    refine (HPK.out _).mono ?_
                    rintro e w6 ⟨rfl, rfl⟩
                    refine hK.out _ _ hHeld (fun hHeld2 => ?_)
                    clear hK K
                    try simp only [Act.put, List.getElem_toArray, List.getElem_cons_zero, List.getElem_cons_succ, List.setIfInBounds_toArray, List.set_cons_zero, List.set_cons_succ]
                    refine wpAnyH_take (i := 10) (oi := _) (v := ?_) rfl (by kernel_rfl) (by kernel_rfl) (by kernel_rfl) (fun _ _ _ h => h) (Or.inl ⟨by rfl, ?_⟩) (by assumption) ?_
                    rotate_left
                    · intro w hSw; (try dsimp only at hSw); skip; go_simp; first | done | with_reducible rfl
                    try simp only [Act.put, List.getElem_toArray, List.getElem_cons_zero, List.getElem_cons_succ, List.setIfInBounds_toArray, List.set_cons_zero, List.set_cons_succ]
                    refine wpAnyH_take (i := 11) (oi := _) (v := ?_) rfl (by kernel_rfl) (by kernel_rfl) (by kernel_rfl) (fun _ _ _ h => h) (Or.inl ⟨by rfl, ?_⟩) (by assumption) ?_
                    rotate_left
                    · intro w hSw; (try dsimp only at hSw); skip; go_simp; first | done | with_reducible rfl
                    try simp only [Act.put, List.getElem_toArray, List.getElem_cons_zero, List.getElem_cons_succ, List.setIfInBounds_toArray, List.set_cons_zero, List.set_cons_succ]
                    refine wpAnyH_done (by kernel_rfl) ?_ _
                    simp only [WJ.out]
                    go_wp2_with fail
                    go_meet
                    case rel => exact ⟨i + jz, rfl, ⟨by omega, hjN⟩, (Xt.refl wr).drew⟩
                  · have hkio : ¬ (i : Int) < (od.length : Int) := by omega
                    go_wp2_with fail
                    go_meet
                    case rel => exact ⟨i, rfl, ⟨by omega, hlt⟩, Xt.refl wr⟩
                case rest =>
                  obtain ⟨j, rfl, HJ, HXc⟩ := hcut
                  have hij := HJ.out.1
                  have hjN := HJ.out.2
                  have HGc := Lib.hid (HG.out.up (HXc.out.drew))
                  obtain ⟨y, hy⟩ : ∃ y, L[j]? = some y := ⟨L[j]'(by omega), by simp⟩
                  have hkj : (j : Int) < (N : Int) := by omega
                  obtain ⟨g, rfl, hbg, hglt, ht1, ht2, hg12, hg1, hP2⟩ := HGc.out.g.puts.swap hx hy
                  obtain ⟨_, e1, _, _, _, _, _, hrx, _⟩ := HGc.out.g.puts.at hx
                  cases e1
                  obtain ⟨_, e2, _, _, _, _, _, hry, _⟩ := HGc.out.g.puts.at hy
                  cases e2
                  have cvd : wc.drew.cell? ⟨B, 0, none⟩ = some (.slice (some ⟨g, 0, none⟩) N vc) := by simp [World.cell?, HGc.out.g.row]
                  have hneB : B ≠ g := by omega
                  have hrow := HGc.out.g.row
                  have hBl := (Array.getElem?_eq_some_iff.1 hrow).1
                  have c1 : (wc.drew.setCells g (i * 23) (putC y)).cell? ⟨B, 0, none⟩ = some (.slice (some ⟨g, 0, none⟩) N vc) := (World.cell?_of_block (w := wc.drew) (a := ⟨B, 0, none⟩) (hg1.block B hBl (fun e => hneB (by cases e; rfl)))).trans cvd
                  have c2 : ((wc.drew.setCells g (i * 23) (putC y)).setCells g (j * 23) (putC x)).cell? ⟨B, 0, none⟩ = some (.slice (some ⟨g, 0, none⟩) N vc) := (World.cell?_of_block (w := wc.drew) (a := ⟨B, 0, none⟩) (hg12.block B hBl (fun e => hneB (by cases e; rfl)))).trans cvd
                  have HGS : Hid (GBS w D B ma mb mc MA MB MC (.slice (some ⟨g, 0, none⟩) N vc) ((L.set i y).set j x) ((wc.drew.setCells g (i * 23) (putC y)).setCells g (j * 23) (putC x))) := HGc.out.swapped hP2 hg12 rfl
                  have HRX := Lib.hid hrx
                  have HRY := Lib.hid hry
                  obtain ⟨wS, hwS⟩ : ∃ wS, wc.drew.setCells g (i * 23) (putC y) = wS := ⟨_, rfl⟩
                  rw [hwS] at c1 c2 HGS ht2
                  obtain ⟨wU, hwU⟩ : ∃ wU, wS.setCells g (j * 23) (putC x) = wU := ⟨_, rfl⟩
                  rw [hwU] at c2 HGS
                  have HWS := Lib.hid hwS
                  have HWU := Lib.hid hwU
                  have HT1 := Lib.hid ht1
                  have HT2 := Lib.hid ht2
                  clear hrx hry ht1 ht2 hP2 hg12 hg1 hrow hBl hwS hwU
                  go_wp2_with fail
                  go_cut [18] from 101 to 149 (fun s18 wx => s18 = .int .i64 j ∧ wx = wU)
                  case first =>
                    refine wp_region_held_drew (S := fun W => W.cell? ⟨B, 0, none⟩ = some (.slice (some ⟨g, 0, none⟩) N vc)) (by kernel_rfl) cvd (fun hHeld => ?_)
                    refine wpAnyH_take (i := 0) (oi := _) (v := ?_) rfl (by kernel_rfl) (by kernel_rfl) (by kernel_rfl) (fun _ _ _ h => h) (Or.inl ⟨by rfl, ?_⟩) (by assumption) ?_
                    rotate_left
                    · intro w hSw; (try dsimp only at hSw); skip; go_simp; first | done | with_reducible rfl
                    try simp only [Act.put, List.getElem_toArray, List.getElem_cons_zero, List.getElem_cons_succ, List.setIfInBounds_toArray, List.set_cons_zero, List.set_cons_succ]
                    refine wpAnyH_take (i := 1) (oi := _) (v := ?_) rfl (by kernel_rfl) (by kernel_rfl) (by kernel_rfl) (fun _ _ _ h => h) (Or.inl ⟨by rfl, ?_⟩) (by assumption) ?_
                    rotate_left
                    · intro w hSw; (try dsimp only at hSw); skip; go_simp; first | done | with_reducible rfl
                    try simp only [Act.put, List.getElem_toArray, List.getElem_cons_zero, List.getElem_cons_succ, List.setIfInBounds_toArray, List.set_cons_zero, List.set_cons_succ]
                    refine wpAnyH_take (i := 2) (oi := _) (v := ?_) rfl (by kernel_rfl) (by kernel_rfl) (by kernel_rfl) (fun _ _ _ h => h) (Or.inl ⟨by rfl, ?_⟩) (by assumption) ?_
                    rotate_left
                    · intro w hSw; (try dsimp only at hSw); skip; go_simp; first | done | with_reducible rfl
                    try simp only [Act.put, List.getElem_toArray, List.getElem_cons_zero, List.getElem_cons_succ, List.setIfInBounds_toArray, List.set_cons_zero, List.set_cons_succ]
                    refine wpAnyH_take (i := 3) (oi := _) (v := ?_) rfl (by kernel_rfl) (by kernel_rfl) (by kernel_rfl) (fun _ _ _ h => h) (Or.inl ⟨by rfl, ?_⟩) (by assumption) ?_
                    rotate_left
                    · intro w hSw; (try dsimp only at hSw); skip; go_simp; first | done | with_reducible rfl
                    try simp only [Act.put, List.getElem_toArray, List.getElem_cons_zero, List.getElem_cons_succ, List.setIfInBounds_toArray, List.set_cons_zero, List.set_cons_succ]
                    refine wpAnyH_take (i := 4) (oi := _) (v := ?_) rfl (by kernel_rfl) (by kernel_rfl) (by kernel_rfl) (fun _ _ _ h => h) (Or.inl ⟨by rfl, ?_⟩) (by assumption) ?_
                    rotate_left
                    · intro w hSw; (try dsimp only at hSw); skip; go_simp; first | done | with_reducible rfl
                    try simp only [Act.put, List.getElem_toArray, List.getElem_cons_zero, List.getElem_cons_succ, List.setIfInBounds_toArray, List.set_cons_zero, List.set_cons_succ]
                    refine wpAnyH_take (i := 5) (oi := _) (v := ?_) rfl (by kernel_rfl) (by kernel_rfl) (by kernel_rfl) (fun _ _ _ h => h) (Or.inl ⟨by rfl, ?_⟩) (by assumption) ?_
                    rotate_left
                    · intro w hSw; (try dsimp only at hSw); skip; go_simp; first | done | with_reducible rfl
                    try simp only [Act.put, List.getElem_toArray, List.getElem_cons_zero, List.getElem_cons_succ, List.setIfInBounds_toArray, List.set_cons_zero, List.set_cons_succ]
                    refine wpAnyH_take (i := 6) (oi := _) (v := ?_) rfl (by kernel_rfl) (by kernel_rfl) (by kernel_rfl) (fun _ _ _ h => h) (Or.inl ⟨by rfl, ?_⟩) (by assumption) ?_
                    rotate_left
                    · intro w hSw; (try dsimp only at hSw); skip; go_simp; first | done | with_reducible rfl
                    try simp only [Act.put, List.getElem_toArray, List.getElem_cons_zero, List.getElem_cons_succ, List.setIfInBounds_toArray, List.set_cons_zero, List.set_cons_succ]
                    refine wpAnyH_take (i := 8) (oi := _) (v := ?_) rfl (by kernel_rfl) (by kernel_rfl) (by kernel_rfl) (fun _ _ _ h => h) (Or.inl ⟨by rfl, ?_⟩) (by assumption) ?_
                    rotate_left
                    · intro w hSw; (try dsimp only at hSw); skip; go_simp; first | done | with_reducible rfl
                    try simp only [Act.put, List.getElem_toArray, List.getElem_cons_zero, List.getElem_cons_succ, List.setIfInBounds_toArray, List.set_cons_zero, List.set_cons_succ]
                    refine wpAnyH_take (i := 9) (oi := _) (v := ?_) rfl (by kernel_rfl) (by kernel_rfl) (by kernel_rfl) (fun _ _ _ h => h) (Or.inl ⟨by rfl, ?_⟩) (by assumption) ?_
                    rotate_left
                    · intro w hSw; (try dsimp only at hSw); skip; go_simp; first | done | with_reducible rfl
                    try simp only [Act.put, List.getElem_toArray, List.getElem_cons_zero, List.getElem_cons_succ, List.setIfInBounds_toArray, List.set_cons_zero, List.set_cons_succ]
                    refine wpAnyH_take (i := 10) (oi := _) (v := ?_) rfl (by kernel_rfl) (by kernel_rfl) (by kernel_rfl) (fun _ _ _ h => h) (Or.inl ⟨by rfl, ?_⟩) (by assumption) ?_
                    rotate_left
                    · intro w hSw; (try dsimp only at hSw); skip; go_simp; first | done | with_reducible rfl
                    try simp only [Act.put, List.getElem_toArray, List.getElem_cons_zero, List.getElem_cons_succ, List.setIfInBounds_toArray, List.set_cons_zero, List.set_cons_succ]
                    refine wpAnyH_ready (rs := [7, 11]) (by kernel_rfl) (by simp) ?_
                    refine AllReadyH.cons (o := _) rfl (fun K hK => ?_) (AllReadyH.cons (o := _) rfl (fun K hK => ?_) AllReadyH.nil)
                    · rw [if_pos (by rfl)]
                      refine wp_load_mid 47 _ rfl g (j * 23) rfl (putC y) _ HRY.out Tryd.underlying47 rfl (by kernel_rfl) ?_
                      refine hK.out _ _ hHeld (fun hHeld2 => ?_)
                      clear hK K
                      try simp only [Act.put, List.getElem_toArray, List.getElem_cons_zero, List.getElem_cons_succ, List.setIfInBounds_toArray, List.set_cons_zero, List.set_cons_succ]
                      refine wpAnyH_ready (rs := [11]) (by kernel_rfl) (by simp) ?_
                      refine AllReadyH.cons (o := _) rfl (fun K hK => ?_) AllReadyH.nil
                      rw [if_pos (by rfl)]
                      refine wp_load_mid 47 _ rfl g (i * 23) rfl (putC x) _ HRX.out Tryd.underlying47 rfl (by kernel_rfl) ?_
                      refine hK.out _ _ hHeld (fun hHeld3 => ?_)
                      clear hK K
                      try simp only [Act.put, List.getElem_toArray, List.getElem_cons_zero, List.getElem_cons_succ, List.setIfInBounds_toArray, List.set_cons_zero, List.set_cons_succ]
                      refine wpAnyH_take (i := 12) (oi := _) (v := ?_) rfl (by kernel_rfl) (by kernel_rfl) (by kernel_rfl) (fun _ _ _ h => h) (Or.inl ⟨by rfl, ?_⟩) (by assumption) ?_
                      rotate_left
                      · intro w hSw; (try dsimp only at hSw); skip; go_simp; first | done | with_reducible rfl
                      try simp only [Act.put, List.getElem_toArray, List.getElem_cons_zero, List.getElem_cons_succ, List.setIfInBounds_toArray, List.set_cons_zero, List.set_cons_succ]
                      refine wpAnyH_ready (rs := [13]) (by kernel_rfl) (by simp) ?_
                      refine AllReadyH.cons (o := _) rfl (fun K hK => ?_) AllReadyH.nil
                      rw [if_pos (by rfl)]
                      refine wp_store_mid 47 _ _ rfl g (i * 23) (putC y).toArray rfl rfl HT1.out (by kernel_rfl) (all_oneCell_toArray (putC_one y)) ?_
                      rw [List.toList_toArray, HWS.out]
                      refine hK.out _ wS c1 (fun hHeld4 => ?_)
                      clear hK K
                      try simp only [Act.put, List.getElem_toArray, List.getElem_cons_zero, List.getElem_cons_succ, List.setIfInBounds_toArray, List.set_cons_zero, List.set_cons_succ]
                      refine wpAnyH_take (i := 14) (oi := _) (v := ?_) rfl (by kernel_rfl) (by kernel_rfl) (by kernel_rfl) (fun _ _ _ h => h) (Or.inl ⟨by rfl, ?_⟩) (by assumption) ?_
                      rotate_left
                      · intro w hSw; (try dsimp only at hSw); skip; go_simp; first | done | with_reducible rfl
                      try simp only [Act.put, List.getElem_toArray, List.getElem_cons_zero, List.getElem_cons_succ, List.setIfInBounds_toArray, List.set_cons_zero, List.set_cons_succ]
                      refine wpAnyH_ready (rs := [15]) (by kernel_rfl) (by simp) ?_
                      refine AllReadyH.cons (o := _) rfl (fun K hK => ?_) AllReadyH.nil
                      rw [if_pos (by rfl)]
                      refine wp_store_mid 47 _ _ rfl g (j * 23) (putC x).toArray rfl rfl HT2.out (by kernel_rfl) (all_oneCell_toArray (putC_one x)) ?_
                      rw [List.toList_toArray, HWU.out]
                      refine hK.out _ wU c2 (fun hHeld5 => ?_)
                      clear hK K
                      refine wpAnyH_done (by kernel_rfl) ?_ _
                      go_wp2_with fail
                      go_meet
                      case rel => exact ⟨rfl, rfl⟩
                    · rw [if_pos (by rfl)]
                      refine wp_load_mid 47 _ rfl g (i * 23) rfl (putC x) _ HRX.out Tryd.underlying47 rfl (by kernel_rfl) ?_
                      refine hK.out _ _ hHeld (fun hHeld2 => ?_)
                      clear hK K
                      try simp only [Act.put, List.getElem_toArray, List.getElem_cons_zero, List.getElem_cons_succ, List.setIfInBounds_toArray, List.set_cons_zero, List.set_cons_succ]
                      refine wpAnyH_ready (rs := [7]) (by kernel_rfl) (by simp) ?_
                      refine AllReadyH.cons (o := _) rfl (fun K hK => ?_) AllReadyH.nil
                      rw [if_pos (by rfl)]
                      refine wp_load_mid 47 _ rfl g (j * 23) rfl (putC y) _ HRY.out Tryd.underlying47 rfl (by kernel_rfl) ?_
                      refine hK.out _ _ hHeld (fun hHeld3 => ?_)
                      clear hK K
                      try simp only [Act.put, List.getElem_toArray, List.getElem_cons_zero, List.getElem_cons_succ, List.setIfInBounds_toArray, List.set_cons_zero, List.set_cons_succ]
                      refine wpAnyH_take (i := 12) (oi := _) (v := ?_) rfl (by kernel_rfl) (by kernel_rfl) (by kernel_rfl) (fun _ _ _ h => h) (Or.inl ⟨by rfl, ?_⟩) (by assumption) ?_
                      rotate_left
                      · intro w hSw; (try dsimp only at hSw); skip; go_simp; first | done | with_reducible rfl
                      try simp only [Act.put, List.getElem_toArray, List.getElem_cons_zero, List.getElem_cons_succ, List.setIfInBounds_toArray, List.set_cons_zero, List.set_cons_succ]
                      refine wpAnyH_ready (rs := [13]) (by kernel_rfl) (by simp) ?_
                      refine AllReadyH.cons (o := _) rfl (fun K hK => ?_) AllReadyH.nil
                      rw [if_pos (by rfl)]
                      refine wp_store_mid 47 _ _ rfl g (i * 23) (putC y).toArray rfl rfl HT1.out (by kernel_rfl) (all_oneCell_toArray (putC_one y)) ?_
                      rw [List.toList_toArray, HWS.out]
                      refine hK.out _ wS c1 (fun hHeld4 => ?_)
                      clear hK K
                      try simp only [Act.put, List.getElem_toArray, List.getElem_cons_zero, List.getElem_cons_succ, List.setIfInBounds_toArray, List.set_cons_zero, List.set_cons_succ]
                      refine wpAnyH_take (i := 14) (oi := _) (v := ?_) rfl (by kernel_rfl) (by kernel_rfl) (by kernel_rfl) (fun _ _ _ h => h) (Or.inl ⟨by rfl, ?_⟩) (by assumption) ?_
                      rotate_left
                      · intro w hSw; (try dsimp only at hSw); skip; go_simp; first | done | with_reducible rfl
                      try simp only [Act.put, List.getElem_toArray, List.getElem_cons_zero, List.getElem_cons_succ, List.setIfInBounds_toArray, List.set_cons_zero, List.set_cons_succ]
                      refine wpAnyH_ready (rs := [15]) (by kernel_rfl) (by simp) ?_
                      refine AllReadyH.cons (o := _) rfl (fun K hK => ?_) AllReadyH.nil
                      rw [if_pos (by rfl)]
                      refine wp_store_mid 47 _ _ rfl g (j * 23) (putC x).toArray rfl rfl HT2.out (by kernel_rfl) (all_oneCell_toArray (putC_one x)) ?_
                      rw [List.toList_toArray, HWU.out]
                      refine hK.out _ wU c2 (fun hHeld5 => ?_)
                      clear hK K
                      refine wpAnyH_done (by kernel_rfl) ?_ _
                      go_wp2_with fail
                      go_meet
                      case rel => exact ⟨rfl, rfl⟩
                  case rest =>
                    obtain ⟨rfl, hwx⟩ := hcut
                    rw [hwx]
                    clear hwx
                    obtain ⟨L', hL'⟩ : ∃ L', (L.set i y).set j x = L' := ⟨_, rfl⟩
                    have hyL : L'[i]? = some y := by rw [← hL']; exact swap_at L i j x y hx hy
                    have hpL : L'.Perm L := by rw [← hL']; exact swap_perm L i j x y hx hy
                    have htL : L'.take i = L.take i := by rw [← hL']; exact swap_take L i j x y hij
                    have hLN' : L'.length = N := by rw [hpL.length_eq]; exact hLN
                    rw [hL'] at HGS
                    clear hL' HGc HRX HRY HT1 HT2 HWS HWU hx hy
                    have HPM' : Hid ((er L').Perm (er MA)) := (hpL.map _).trans HPM.out
                    have HEC' : Hid (er MC = allP [] ((er L').take i)) := by
                      unfold Hid
                      rw [HEC.out]
                      have : (er L').take i = (er L).take i := by unfold er; rw [← List.map_take, ← List.map_take, htL]
                      rw [this]
                    have hye : (er L')[i]? = some (y.1, y.2.1) := by unfold er; rw [List.getElem?_map, hyL]; rfl
                    have hst := again_step HOKA.out HPM'.out hye
                    rw [← HEC'.out] at hst
                    have hcode : putCode MC y.1 y.2.1 = 0 := by rw [er_code]; exact hst.1
                    have HST2 := Lib.hid hst.2
                    have hyok : y.2.1.ok := (HOKA.out.each _ (HPM'.out.mem_iff.1 (List.mem_of_getElem? hye))).2.2.2.2
                    have HGd := Lib.hid (HGS.out.up (Xt.refl _).drew)
                    obtain ⟨_, e3, _, p0, p1, _, pr, _, _, psm, pn, pin⟩ := HGd.out.g.puts.at hyL
                    cases e3
                    have pcv := HGd.out.g.row
                    have pc : wU.drew.cell? ⟨B, 0, none⟩ = some (.slice (some ⟨g, 0, none⟩) N vc) := by simp [World.cell?, pcv]
                    have HPT := Lib.hid (gputS_any pn (mc + 1) mc MC y.1 y.2.1 y.2.2 y.2.1.t.args.length _ HGd.out.g.gc hyok (HT.out.xt HGd.out.g.xt) psm pin)
                    rw [hcode] at HPT
                    have HCI := Lib.hid (fun W h => HGd.out.g.gc.cellsIn (w' := W) h)
                    have HRR := Lib.hid (fun W (h : CellsIn wU.drew W) => (⟨h _ _ _ pc, h _ _ _ p0, h _ _ _ p1, fun j v hj => h _ _ _ (pr j v hj)⟩ : W.cell? ⟨B, 0, none⟩ = some (.slice (some ⟨g, 0, none⟩) N vc) ∧ W.cell? ⟨g, i * 23, none⟩ = some (.int .i64 y.1.1) ∧ W.cell? ⟨g, i * 23 + 1, none⟩ = some (.int .i64 y.1.2) ∧ W.rangeAt g (i * 23 + 2) (ceC y.2)))
                    clear hye hst hcode hyok pcv psm pin hpL htL
                    go_wp2_with fail
                    refine wp_region_held_drew (S := fun W => W.cell? ⟨B, 0, none⟩ = some (.slice (some ⟨g, 0, none⟩) N vc) ∧ W.cell? ⟨g, i * 23, none⟩ = some (.int .i64 y.1.1) ∧ W.cell? ⟨g, i * 23 + 1, none⟩ = some (.int .i64 y.1.2) ∧ W.rangeAt g (i * 23 + 2) (ceC y.2)) (by kernel_rfl) (HRR.out _ (CellsIn.refl _)) (fun hHeld => ?_)
                    refine wpAnyH_take (i := 0) (oi := _) (v := ?_) rfl (by kernel_rfl) (by kernel_rfl) (by kernel_rfl) (fun _ _ _ h => h) (Or.inl ⟨by rfl, ?_⟩) (by assumption) ?_
                    rotate_left
                    · intro w hSw; (try dsimp only at hSw); obtain ⟨k0, k1, k2, kr⟩ := hSw; clear kr; go_simp; first | done | with_reducible rfl
                    try simp only [Act.put, List.getElem_toArray, List.getElem_cons_zero, List.getElem_cons_succ, List.setIfInBounds_toArray, List.set_cons_zero, List.set_cons_succ]
                    refine wpAnyH_take (i := 1) (oi := _) (v := ?_) rfl (by kernel_rfl) (by kernel_rfl) (by kernel_rfl) (fun _ _ _ h => h) (Or.inl ⟨by rfl, ?_⟩) (by assumption) ?_
                    rotate_left
                    · intro w hSw; (try dsimp only at hSw); obtain ⟨k0, k1, k2, kr⟩ := hSw; clear kr; go_simp; first | done | with_reducible rfl
                    try simp only [Act.put, List.getElem_toArray, List.getElem_cons_zero, List.getElem_cons_succ, List.setIfInBounds_toArray, List.set_cons_zero, List.set_cons_succ]
                    refine wpAnyH_take (i := 2) (oi := _) (v := ?_) rfl (by kernel_rfl) (by kernel_rfl) (by kernel_rfl) (fun _ _ _ h => h) (Or.inl ⟨by rfl, ?_⟩) (by assumption) ?_
                    rotate_left
                    · intro w hSw; (try dsimp only at hSw); obtain ⟨k0, k1, k2, kr⟩ := hSw; clear kr; go_simp; first | done | with_reducible rfl
                    try simp only [Act.put, List.getElem_toArray, List.getElem_cons_zero, List.getElem_cons_succ, List.setIfInBounds_toArray, List.set_cons_zero, List.set_cons_succ]
                    refine wpAnyH_take (i := 3) (oi := _) (v := ?_) rfl (by kernel_rfl) (by kernel_rfl) (by kernel_rfl) (fun _ _ _ h => h) (Or.inl ⟨by rfl, ?_⟩) (by assumption) ?_
                    rotate_left
                    · intro w hSw; (try dsimp only at hSw); obtain ⟨k0, k1, k2, kr⟩ := hSw; clear kr; go_simp; first | done | with_reducible rfl
                    try simp only [Act.put, List.getElem_toArray, List.getElem_cons_zero, List.getElem_cons_succ, List.setIfInBounds_toArray, List.set_cons_zero, List.set_cons_succ]
                    refine wpAnyH_take (i := 4) (oi := _) (v := ?_) rfl (by kernel_rfl) (by kernel_rfl) (by kernel_rfl) (fun _ _ _ h => h) (Or.inl ⟨by rfl, ?_⟩) (by assumption) ?_
                    rotate_left
                    · intro w hSw; (try dsimp only at hSw); obtain ⟨k0, k1, k2, kr⟩ := hSw; clear kr; go_simp; first | done | with_reducible rfl
                    try simp only [Act.put, List.getElem_toArray, List.getElem_cons_zero, List.getElem_cons_succ, List.setIfInBounds_toArray, List.set_cons_zero, List.set_cons_succ]
                    refine wpAnyH_take (i := 5) (oi := _) (v := ?_) rfl (by kernel_rfl) (by kernel_rfl) (by kernel_rfl) (fun _ _ _ h => h) (Or.inl ⟨by rfl, ?_⟩) (by assumption) ?_
                    rotate_left
                    · intro w hSw; (try dsimp only at hSw); obtain ⟨k0, k1, k2, kr⟩ := hSw; clear kr; go_simp; first | done | with_reducible rfl
                    try simp only [Act.put, List.getElem_toArray, List.getElem_cons_zero, List.getElem_cons_succ, List.setIfInBounds_toArray, List.set_cons_zero, List.set_cons_succ]
                    refine wpAnyH_take (i := 6) (oi := _) (v := ?_) rfl (by kernel_rfl) (by kernel_rfl) (by kernel_rfl) (fun _ _ _ h => h) (Or.inl ⟨by rfl, ?_⟩) (by assumption) ?_
                    rotate_left
                    · intro w hSw; (try dsimp only at hSw); obtain ⟨k0, k1, k2, kr⟩ := hSw; clear kr; go_simp; first | done | with_reducible rfl
                    try simp only [Act.put, List.getElem_toArray, List.getElem_cons_zero, List.getElem_cons_succ, List.setIfInBounds_toArray, List.set_cons_zero, List.set_cons_succ]
                    refine wpAnyH_take (i := 7) (oi := _) (v := ?_) rfl (by kernel_rfl) (by kernel_rfl) (by kernel_rfl) (fun _ _ _ h => h) (Or.inl ⟨by rfl, ?_⟩) (by assumption) ?_
                    rotate_left
                    · intro w hSw; (try dsimp only at hSw); obtain ⟨k0, k1, k2, kr⟩ := hSw; clear kr; go_simp; first | done | with_reducible rfl
                    try simp only [Act.put, List.getElem_toArray, List.getElem_cons_zero, List.getElem_cons_succ, List.setIfInBounds_toArray, List.set_cons_zero, List.set_cons_succ]
                    refine wpAnyH_take (i := 8) (oi := _) (v := ?_) rfl (by kernel_rfl) (by kernel_rfl) (by kernel_rfl) (fun _ _ _ h => h) (Or.inl ⟨by rfl, ?_⟩) (by assumption) ?_
                    rotate_left
                    · intro w hSw; (try dsimp only at hSw); obtain ⟨k0, k1, k2, kr⟩ := hSw; clear kr; go_simp; first | done | with_reducible rfl
                    try simp only [Act.put, List.getElem_toArray, List.getElem_cons_zero, List.getElem_cons_succ, List.setIfInBounds_toArray, List.set_cons_zero, List.set_cons_succ]
                    refine wpAnyH_take (i := 9) (oi := _) (v := ?_) rfl (by kernel_rfl) (by kernel_rfl) (by kernel_rfl) (fun _ _ _ h => h) (Or.inl ⟨by rfl, ?_⟩) (by assumption) ?_
                    rotate_left
                    · intro w hSw; (try dsimp only at hSw); obtain ⟨k0, k1, k2, kr⟩ := hSw; clear kr; go_simp; first | done | with_reducible rfl
                    try simp only [Act.put, List.getElem_toArray, List.getElem_cons_zero, List.getElem_cons_succ, List.setIfInBounds_toArray, List.set_cons_zero, List.set_cons_succ]
                    refine wpAnyH_take (i := 10) (oi := _) (v := .agg (ceC y.2).toArray) rfl (by kernel_rfl) (by kernel_rfl) (by kernel_rfl) (fun _ _ _ h => h) (Or.inl ⟨by rfl, ?_⟩) (by assumption) ?_
                    · intro w hSw; exact exec_load_mid 33 _ (by rfl) g (i * 23 + 2) (by rfl) (ceC y.2) _ hSw.2.2.2 Tryd.underlying33 rfl (by kernel_rfl)
                    try simp only [Act.put, List.getElem_toArray, List.getElem_cons_zero, List.getElem_cons_succ, List.setIfInBounds_toArray, List.set_cons_zero, List.set_cons_succ]
                    refine wpAnyH_ready (rs := [11]) (by kernel_rfl) (by simp) ?_
                    refine AllReadyH.cons (o := _) rfl (fun K hK => ?_) AllReadyH.nil
                    go_simp
                    refine (HPT.out).mono ?_
                    rintro e w7 ⟨z, rfl, hG7, hg7, hloc⟩
                    refine hK.out _ _ (HRR.out _ (HCI.out _ hg7)) (fun hHeld2 => ?_)
                    clear hK K
                    try simp only [Act.put, List.getElem_toArray, List.getElem_cons_zero, List.getElem_cons_succ, List.setIfInBounds_toArray, List.set_cons_zero, List.set_cons_succ]
                    refine wpAnyH_take (i := 12) (oi := _) (v := ?_) rfl (by kernel_rfl) (by kernel_rfl) (by kernel_rfl) (fun _ _ _ h => h) (Or.inl ⟨by rfl, ?_⟩) (by assumption) ?_
                    rotate_left
                    · intro w hSw; (try dsimp only at hSw); skip; go_simp; first | done | with_reducible rfl
                    try simp only [Act.put, List.getElem_toArray, List.getElem_cons_zero, List.getElem_cons_succ, List.setIfInBounds_toArray, List.set_cons_zero, List.set_cons_succ]
                    refine wpAnyH_done (by kernel_rfl) ?_ _
                    have HG7 := Lib.hid (HGd.out.putC hG7 hg7 hloc)
                    clear hG7 hg7 hloc hHeld hHeld2 pc p0 p1 pr
                    go_wp2_with fail
                    go_roundw
                    case rel => exact ⟨i + 1, L', putTo MC y.1 y.2.1 z, by omega, by go_num, hLN', HG7, HPM', by unfold Hid; rw [er_put, ← HST2.out]⟩
                    case measure => simp [intOf]; omega
              · have he : N = i := by omega
                subst he
                have hEC : er MC = er MA := by
                  rw [HEC.out, List.take_of_length_le (by rw [er_len]; omega)]
                  exact again_end HOKA.out HPM.out
                have hq1 : eqMB MA MC = true := by rw [er_eq, hEC]; exact eqPB_self _
                have hq2 : eqMB MC MA = true := by rw [er_eq, hEC]; exact eqPB_self _
                have hq3 : putsK MC MA (unionK MC MA) = [] := by rw [er_way, hEC]; exact way_self _
                have HE1 := Lib.hid (fun W (hx : Xt wr W) => gequal_any (ma + 1) (mc + 1) ma mc MA MC W (HG.out.g.ga.xt hx) (HG.out.g.gc.xt hx))
                have HE2 := Lib.hid (fun W (hx : Xt wr W) => gequal_any (mc + 1) (ma + 1) mc ma MC MA W (HG.out.g.gc.xt hx) (HG.out.g.ga.xt hx))
                have HP3 := Lib.hid (fun W (hx : Xt wr W) => gputs_any (mc + 1) (ma + 1) mc ma MC MA W (HG.out.g.gc.xt hx) (HG.out.g.ga.xt hx))
                have HP4 := Lib.hid (fun W (hx : Xt wr W) => gputs_any (ma + 1) (mb + 1) ma mb MA MB W (HG.out.g.ga.xt hx) (HG.out.g.gb.xt hx))
                rw [hq1] at HE1
                rw [hq2] at HE2
                rw [hq3] at HP3
                have hxr : Xt wr wr := Xt.refl wr
                clear hq1 hq2 hq3 hEC HPM HEC hLN hi hlt
                go_wp2_with (first
                  | (go_at_call 15; refine (HE1.out _ hxr).mono ?_; clear HE1; rintro e w8 ⟨rfl, h8⟩; have hx8 := hxr.trans h8; clear hxr h8)
                  | (go_at_call 15; refine (HE2.out _ hx8).mono ?_; clear HE2; rintro e w9 ⟨rfl, h9⟩; have hx9 := hx8.trans h9; clear hx8 h9)
                  | (go_at_call 16; refine (HP3.out _ hx9).mono ?_; clear HP3; rintro e w10 ⟨pa, pc, pl, rfl, -, hpl, h10⟩; obtain rfl := List.map_eq_nil_iff.1 hpl; have hx10 := hx9.trans h10; clear hx9 h10 hpl)
                  | (go_at_call 16; refine (HP4.out _ hx10).mono ?_; clear HP4; rintro e w11 ⟨ya, yc, yl, rfl, hYO, hYL, h11⟩; have hx11 := hx10.trans h11; clear hx10 h11))
                have HYE : Hid (er yl = wayP (er MA) (er MB)) := by unfold Hid; rw [← er_way]; exact hYL
                have HYO := Lib.hid hYO
                have HGW := Lib.hid (HG.out.g.up hx11)
                obtain ⟨NW, hNW⟩ : ∃ NW, yl.length = NW := ⟨_, rfl⟩
                rw [hNW] at HYO ⊢
                obtain ⟨Bw, hBw⟩ : ∃ Bw, w10.heap.size = Bw := ⟨_, rfl⟩
                rw [hBw] at HYO
                have hyc : NW ≤ yc ∧ yc ≤ 9223372036854775807 := by
                  obtain ⟨a9, c9, e9, q1, q2⟩ := ownsRow_base (HYO.out.own.base (Nat.zero_le _))
                  cases e9
                  rw [hNW] at q1
                  exact ⟨q1, q2⟩
                obtain ⟨WY, hWY⟩ : ∃ WY, er yl = WY := ⟨_, rfl⟩
                have hWl : ∀ (i : Nat) (z : PutE), yl[i]? = some z → WY[i]? = some (z.1, z.2.1) := fun i z hz => by rw [← hWY]; unfold er; rw [List.getElem?_map, hz]; rfl
                have hWlen : WY.length = NW := by rw [← hWY, er_len]; exact hNW
                rw [hWY] at HYE
                have HWL := Lib.hid hWl
                clear hYO hYL hx11 HG cv hBw hWY hWl
                go_loopw [20] (fun s20 wr => ∃ (t : Nat) (MX : GM), t ≤ 2 ∧ s20 = .int .i64 t ∧ Hid (GB w D B ma mb mc MX MB MC (.slice va N vc) L wr) ∧ Hid (PutsOwn wr Bw (.slice ya NW yc) yl) ∧ Hid (er MX = turnS (er MA) WY t)) (fun s20 _ => 2 - (intOf s20).toNat)
                case atStart => exact ⟨0, MA, by omega, rfl, HGW, HYO, rfl⟩
                case round =>
                  clear HGW HYO
                  obtain ⟨t, MX, ht2, rfl, HGW, HYO, HTX⟩ := hrel
                  by_cases ht : t < 2
                  · have htt : (t : Int) < 2 := by omega
                    obtain ⟨tb, htb⟩ : ∃ tb, ((t : Int) == 0) = tb := ⟨_, rfl⟩
                    have HTN := Lib.hid (turnS_next (er MA) WY ht htb)
                    go_wp2_with fail
                    go_loopw [21] (fun s21 wr => ∃ (i : Nat) (MY : GM), i ≤ NW ∧ s21 = .int .i64 i ∧ Hid (GB w D B ma mb mc MY MB MC (.slice va N vc) L wr) ∧ Hid (PutsOwn wr Bw (.slice ya NW yc) yl) ∧ Hid (er MY = turnP tb (turnS (er MA) WY t) (WY.take i))) (fun s21 _ => NW - (intOf s21).toNat)
                    case atStart => exact ⟨0, MX, by omega, rfl, HGW, HYO, by unfold Hid; rw [HTX.out]; simp [turnP]⟩
                    case round =>
                      clear HGW HYO HTX
                      obtain ⟨i, MY, hiw, rfl, HGW, HYO, HTY⟩ := hrel
                      by_cases hltw : i < NW
                      · have hkw : (i : Int) < (NW : Int) := by omega
                        obtain ⟨z, hz⟩ : ∃ z, yl[i]? = some z := ⟨yl[i]'(by omega), by simp⟩
                        have hzW := HWL.out i z hz
                        have HTK := Lib.hid (turn_take (b := tb) (P := turnS (er MA) WY t) hzW)
                        have HCD := Lib.hid (fun hk => turn_code HOKA.out HOKB.out ht htb (i := i) (x := (z.1, z.2.1)) (by rw [← HYE.out]; exact hzW) hk)
                        have hzok : z.2.1.ok := (way_is HOKA.out HOKB.out (x := (z.1, z.2.1)) (by rw [← HYE.out]; exact List.mem_of_getElem? hzW)).2.2.1
                        have HYd := Lib.hid (HYO.out.xt (Xt.refl wr).drew)
                        have HGd := Lib.hid (HGW.out.up (Xt.refl wr).drew)
                        obtain ⟨g, rfl, _, z0, z1, z2, zr, _, _, zsm, zn, zin⟩ := HYO.out.at hz
                        have HZR := Lib.hid zr
                        have HZN := Lib.hid zin
                        have hzb : ((tb == true) = tb) := by cases tb <;> rfl
                        cases hk : ((z.2.1.kind == 0) == tb)
                        · rw [hk] at HTK
                          have HTK2 := Lib.hid HTK.out
                          clear HTK HCD hz hzW
                          go_wp2_with fail
                          go_roundw
                          case rel => exact ⟨i + 1, MY, by omega, by go_num, HGW, HYO, by unfold Hid; rw [HTK2.out, HTY.out]; rfl⟩
                          case measure => simp [intOf]; omega
                        · rw [hk] at HTK
                          have hcode : putCode MY z.1 z.2.1 = 0 := by
                            rw [er_code, HTY.out, HYE.out]
                            exact HCD.out hk
                          have HPT := Lib.hid (gput_any zn (ma + 1) ma MY z.1 z.2.1 z.2.2 z.2.1.t.args.length wr.drew HGd.out.ga hzok (HT.out.xt HGd.out.xt) zsm (zin.xt (Xt.refl wr).drew))
                          unfold PutR at HPT
                          rw [hcode] at HPT
                          have HTK2 := Lib.hid HTK.out
                          have HCI := Lib.hid (fun W h => HGd.out.ga.cellsIn (w' := W) h)
                          have HRR := Lib.hid (fun W (h : CellsIn wr.drew W) => (⟨h _ _ _ z0, h _ _ _ z1, fun j v hj => h _ _ _ (zr j v hj)⟩ : W.cell? ⟨g, i * 23, none⟩ = some (.int .i64 z.1.1) ∧ W.cell? ⟨g, i * 23 + 1, none⟩ = some (.int .i64 z.1.2) ∧ W.rangeAt g (i * 23 + 2) (ceC z.2)))
                          clear HTK HCD hz hzW hcode zr zin hzok
                          go_wp2_with fail
                          refine wp_region_held_drew (S := fun W => W.cell? ⟨g, i * 23, none⟩ = some (.int .i64 z.1.1) ∧ W.cell? ⟨g, i * 23 + 1, none⟩ = some (.int .i64 z.1.2) ∧ W.rangeAt g (i * 23 + 2) (ceC z.2)) (by kernel_rfl) (HRR.out _ (CellsIn.refl _)) (fun hHeld => ?_)
                          refine wpAnyH_take (i := 0) (oi := _) (v := ?_) rfl (by kernel_rfl) (by kernel_rfl) (by kernel_rfl) (fun _ _ _ h => h) (Or.inl ⟨by rfl, ?_⟩) (by assumption) ?_
                          rotate_left
                          · intro w hSw; (try dsimp only at hSw); obtain ⟨k0, k1, kr⟩ := hSw; clear kr; go_simp; first | done | with_reducible rfl
                          try simp only [Act.put, List.getElem_toArray, List.getElem_cons_zero, List.getElem_cons_succ, List.setIfInBounds_toArray, List.set_cons_zero, List.set_cons_succ]
                          refine wpAnyH_take (i := 1) (oi := _) (v := ?_) rfl (by kernel_rfl) (by kernel_rfl) (by kernel_rfl) (fun _ _ _ h => h) (Or.inl ⟨by rfl, ?_⟩) (by assumption) ?_
                          rotate_left
                          · intro w hSw; (try dsimp only at hSw); obtain ⟨k0, k1, kr⟩ := hSw; clear kr; go_simp; first | done | with_reducible rfl
                          try simp only [Act.put, List.getElem_toArray, List.getElem_cons_zero, List.getElem_cons_succ, List.setIfInBounds_toArray, List.set_cons_zero, List.set_cons_succ]
                          refine wpAnyH_take (i := 2) (oi := _) (v := ?_) rfl (by kernel_rfl) (by kernel_rfl) (by kernel_rfl) (fun _ _ _ h => h) (Or.inl ⟨by rfl, ?_⟩) (by assumption) ?_
                          rotate_left
                          · intro w hSw; (try dsimp only at hSw); obtain ⟨k0, k1, kr⟩ := hSw; clear kr; go_simp; first | done | with_reducible rfl
                          try simp only [Act.put, List.getElem_toArray, List.getElem_cons_zero, List.getElem_cons_succ, List.setIfInBounds_toArray, List.set_cons_zero, List.set_cons_succ]
                          refine wpAnyH_take (i := 3) (oi := _) (v := ?_) rfl (by kernel_rfl) (by kernel_rfl) (by kernel_rfl) (fun _ _ _ h => h) (Or.inl ⟨by rfl, ?_⟩) (by assumption) ?_
                          rotate_left
                          · intro w hSw; (try dsimp only at hSw); obtain ⟨k0, k1, kr⟩ := hSw; clear kr; go_simp; first | done | with_reducible rfl
                          try simp only [Act.put, List.getElem_toArray, List.getElem_cons_zero, List.getElem_cons_succ, List.setIfInBounds_toArray, List.set_cons_zero, List.set_cons_succ]
                          refine wpAnyH_take (i := 4) (oi := _) (v := ?_) rfl (by kernel_rfl) (by kernel_rfl) (by kernel_rfl) (fun _ _ _ h => h) (Or.inl ⟨by rfl, ?_⟩) (by assumption) ?_
                          rotate_left
                          · intro w hSw; (try dsimp only at hSw); obtain ⟨k0, k1, kr⟩ := hSw; clear kr; go_simp; first | done | with_reducible rfl
                          try simp only [Act.put, List.getElem_toArray, List.getElem_cons_zero, List.getElem_cons_succ, List.setIfInBounds_toArray, List.set_cons_zero, List.set_cons_succ]
                          refine wpAnyH_take (i := 5) (oi := _) (v := ?_) rfl (by kernel_rfl) (by kernel_rfl) (by kernel_rfl) (fun _ _ _ h => h) (Or.inl ⟨by rfl, ?_⟩) (by assumption) ?_
                          rotate_left
                          · intro w hSw; (try dsimp only at hSw); obtain ⟨k0, k1, kr⟩ := hSw; clear kr; go_simp; first | done | with_reducible rfl
                          try simp only [Act.put, List.getElem_toArray, List.getElem_cons_zero, List.getElem_cons_succ, List.setIfInBounds_toArray, List.set_cons_zero, List.set_cons_succ]
                          refine wpAnyH_take (i := 6) (oi := _) (v := ?_) rfl (by kernel_rfl) (by kernel_rfl) (by kernel_rfl) (fun _ _ _ h => h) (Or.inl ⟨by rfl, ?_⟩) (by assumption) ?_
                          rotate_left
                          · intro w hSw; (try dsimp only at hSw); obtain ⟨k0, k1, kr⟩ := hSw; clear kr; go_simp; first | done | with_reducible rfl
                          try simp only [Act.put, List.getElem_toArray, List.getElem_cons_zero, List.getElem_cons_succ, List.setIfInBounds_toArray, List.set_cons_zero, List.set_cons_succ]
                          refine wpAnyH_take (i := 7) (oi := _) (v := ?_) rfl (by kernel_rfl) (by kernel_rfl) (by kernel_rfl) (fun _ _ _ h => h) (Or.inl ⟨by rfl, ?_⟩) (by assumption) ?_
                          rotate_left
                          · intro w hSw; (try dsimp only at hSw); obtain ⟨k0, k1, kr⟩ := hSw; clear kr; go_simp; first | done | with_reducible rfl
                          try simp only [Act.put, List.getElem_toArray, List.getElem_cons_zero, List.getElem_cons_succ, List.setIfInBounds_toArray, List.set_cons_zero, List.set_cons_succ]
                          refine wpAnyH_take (i := 8) (oi := _) (v := ?_) rfl (by kernel_rfl) (by kernel_rfl) (by kernel_rfl) (fun _ _ _ h => h) (Or.inl ⟨by rfl, ?_⟩) (by assumption) ?_
                          rotate_left
                          · intro w hSw; (try dsimp only at hSw); obtain ⟨k0, k1, kr⟩ := hSw; clear kr; go_simp; first | done | with_reducible rfl
                          try simp only [Act.put, List.getElem_toArray, List.getElem_cons_zero, List.getElem_cons_succ, List.setIfInBounds_toArray, List.set_cons_zero, List.set_cons_succ]
                          refine wpAnyH_take (i := 9) (oi := _) (v := ?_) rfl (by kernel_rfl) (by kernel_rfl) (by kernel_rfl) (fun _ _ _ h => h) (Or.inl ⟨by rfl, ?_⟩) (by assumption) ?_
                          rotate_left
                          · intro w hSw; (try dsimp only at hSw); obtain ⟨k0, k1, kr⟩ := hSw; clear kr; go_simp; first | done | with_reducible rfl
                          try simp only [Act.put, List.getElem_toArray, List.getElem_cons_zero, List.getElem_cons_succ, List.setIfInBounds_toArray, List.set_cons_zero, List.set_cons_succ]
                          refine wpAnyH_take (i := 10) (oi := _) (v := .agg (ceC z.2).toArray) rfl (by kernel_rfl) (by kernel_rfl) (by kernel_rfl) (fun _ _ _ h => h) (Or.inl ⟨by rfl, ?_⟩) (by assumption) ?_
                          · intro w hSw; exact exec_load_mid 33 _ (by rfl) g (i * 23 + 2) (by rfl) (ceC z.2) _ hSw.2.2 Tryd.underlying33 rfl (by kernel_rfl)
                          try simp only [Act.put, List.getElem_toArray, List.getElem_cons_zero, List.getElem_cons_succ, List.setIfInBounds_toArray, List.set_cons_zero, List.set_cons_succ]
                          refine wpAnyH_ready (rs := [11]) (by kernel_rfl) (by simp) ?_
                          refine AllReadyH.cons (o := _) rfl (fun K hK => ?_) AllReadyH.nil
                          go_simp
                          refine (HPT.out).mono ?_
                          rintro e w17 ⟨p, rfl, hG7, hg7⟩
                          refine hK.out _ _ (HRR.out _ (HCI.out _ hg7)) (fun hHeld2 => ?_)
                          clear hK K
                          try simp only [Act.put, List.getElem_toArray, List.getElem_cons_zero, List.getElem_cons_succ, List.setIfInBounds_toArray, List.set_cons_zero, List.set_cons_succ]
                          refine wpAnyH_take (i := 12) (oi := _) (v := ?_) rfl (by kernel_rfl) (by kernel_rfl) (by kernel_rfl) (fun _ _ _ h => h) (Or.inl ⟨by rfl, ?_⟩) (by assumption) ?_
                          rotate_left
                          · intro w hSw; (try dsimp only at hSw); skip; go_simp; first | done | with_reducible rfl
                          try simp only [Act.put, List.getElem_toArray, List.getElem_cons_zero, List.getElem_cons_succ, List.setIfInBounds_toArray, List.set_cons_zero, List.set_cons_succ]
                          refine wpAnyH_done (by kernel_rfl) ?_ _
                          have HG7 := Lib.hid (HGd.out.putA hG7 hg7)
                          have HY7 := Lib.hid (HYd.out.other HGd.out.ga hG7 hg7)
                          clear hG7 hg7 hHeld hHeld2
                          go_wp2_with fail
                          go_roundw
                          case rel => exact ⟨i + 1, putTo MY z.1 z.2.1 p, by omega, by go_num, HG7, HY7, by unfold Hid; rw [er_put, HTK2.out, HTY.out]; first | exact (if_pos trivial).symm | exact (if_pos rfl).symm⟩
                          case measure => simp [intOf]; omega
                      · have he : i = NW := by omega
                        subst he
                        have HTZ : Hid (er MY = turnS (er MA) WY (t + 1)) := by unfold Hid; rw [HTY.out, List.take_of_length_le (by omega), HTN.out]
                        clear HTY hiw hltw
                        go_wp2_with fail
                        go_roundw
                        case rel => exact ⟨t + 1, MY, by omega, by go_num, HGW, HYO, HTZ⟩
                        case measure => simp [intOf]; omega
                  · have he : t = 2 := by omega
                    subst he
                    have hend := turns_end HOKA.out HOKB.out
                    rw [← HYE.out] at hend
                    have hq4 : eqMB MX MB = true := by rw [er_eq, HTX.out]; exact hend.1
                    have hq5 : MX.length = MB.length := by rw [← er_len, HTX.out, ← er_len MB]; exact hend.2
                    have HE5 := Lib.hid (gequal_any (ma + 1) (mb + 1) ma mb MX MB wr HGW.out.ga HGW.out.gb)
                    have HL6 := Lib.hid (fun W (hx : Xt wr W) => glen_any (ma + 1) ma MX W (HGW.out.ga.xt hx))
                    have HL7 := Lib.hid (fun W (hx : Xt wr W) => glen_any (mb + 1) mb MB W (HGW.out.gb.xt hx))
                    rw [hq4] at HE5
                    rw [hq5] at HL6
                    clear hend hq4 hq5 HTX
                    go_wp2_with (first
                      | (go_at_call 15; refine (HE5.out).mono ?_; rintro e w18 ⟨rfl, h18⟩)
                      | (go_at_call 13; refine (HL6.out _ h18).mono ?_; clear HL6; rintro e w19 ⟨rfl, rfl⟩)
                      | (go_at_call 13; refine (HL7.out _ h18).mono ?_; clear HL7; rintro e w20 ⟨rfl, rfl⟩))
                    have hk8 := (HGW.out.up h18).late
                    have hf8 := (HGW.out.up h18)
                    refine ⟨by simp, .inl ⟨_, _, rfl, run_takeDeferred hk8, ?_⟩⟩
                    refine ⟨_, results_tmp rfl _ _ _, rfl, ?_⟩
                    exact Below.trans hf8.xt (belowK_b (w := w) (Nat.le_refl _) _ D _ _ (by have := HDB.out; omega) hk8 rfl rfl)
end Go.Proofs.YtfpdleljhbkehaaDoor
