import Derived.Test.YtagfgkcipomopaaW18
import Derived.Test.YtagfgkcipomopaaW15
import Derived.Test.YtagfgkcipomopaaL10
namespace Go.Proofs.Ytagfgkcipomopaa
open Go.RowKit Go.Sort

/-! ### LinksOrders -/
theorem SlOf.take {α : Type} {w : World} {enc : α → List Value} {sz : Nat} {a : Option Addr} {n cap : Nat} {l : List α} (h : SlOf w enc sz (.slice a n cap) l) (k : Nat) (hk : k ≤ l.length) : SlOf w enc sz (.slice a k cap) (l.take k) := by
  obtain ⟨a', cap', e, q1, q2, h2⟩ := h
  cases e
  have hl : (l.take k).length = k := by rw [List.length_take]; omega
  refine ⟨a, cap, by rw [hl], by omega, q2, fun hne => ?_⟩
  obtain ⟨b, off, rfl, hc⟩ := h2 (fun e => hne (by rw [e]; simp))
  refine ⟨b, off, rfl, fun j x hx => hc j x ?_⟩
  rw [List.getElem?_take] at hx
  split at hx
  · exact hx
  · cases hx
theorem SlOf.drop {α : Type} {w : World} {enc : α → List Value} {sz : Nat} {b off n cap : Nat} {l : List α} (h : SlOf w enc sz (.slice (some ⟨b, off, none⟩) n cap) l) (k : Nat) (hk : k ≤ l.length) {a : Option Addr} (ha : cap = k ∨ a = some ⟨b, off + k * sz, none⟩) {m c : Nat} (hm : m = n - k) (hc : c = cap - k) : SlOf w enc sz (.slice a m c) (l.drop k) := by
  obtain ⟨a', cap', e, q1, q2, h2⟩ := h
  cases e
  subst hm hc
  refine ⟨a, cap - k, by rw [List.length_drop], by rw [List.length_drop]; omega, by omega, fun hne => ?_⟩
  have hlt : k < l.length := by
    rcases Nat.lt_or_ge k l.length with h | h
    · exact h
    · exact absurd (List.drop_eq_nil_of_le h) hne
  obtain ⟨b', off', e, hc⟩ := h2 (fun e => by rw [e] at hlt; simp at hlt)
  cases e
  rcases ha with ha | rfl
  · omega
  · refine ⟨b, off + k * sz, rfl, fun j x hx i u hu => ?_⟩
    rw [List.getElem?_drop] at hx
    have := hc (k + j) x hx i u hu
    rwa [show off + (k + j) * sz + i = off + k * sz + j * sz + i by rw [Nat.add_mul]; omega] at this
/-- 'x[k:]', whatever the room. -/
theorem from_any {α : Type} {w : World} {enc : α → List Value} {sz : Nat} {b off n cap : Nat} {l : List α} {T E : TypeId} (hT : Try.prog.underlying T = some (.slice (Try.prog.elem T))) (hE : Try.prog.elem T = E) (hz : ∀ w, (sizeOf E).run Try.prog w = .ok sz w) (h : SlOf w enc sz (.slice (some ⟨b, off, none⟩) n cap) l) (k : Nat) (hk : k ≤ l.length) :
    ∃ v', (∀ W, (Instr.slice T (.slice (some ⟨b, off, none⟩) n cap) (some (.int .i64 k)) none none).run Try.prog W = .ok v' W) ∧ SlOf w enc sz v' (l.drop k) := by
  have hn : n = l.length := by obtain ⟨_, _, e, _⟩ := h; cases e; rfl
  refine ⟨sliced (some ⟨b, off, none⟩) k n cap sz, fun W => ?_, ?_⟩
  · rw [run_slice_l W T _ n cap hT .i64 k (by omega) (by omega), hE, hz]
    simp
  · unfold sliced
    refine h.drop k hk ?_ rfl rfl
    by_cases hc : cap = k
    · exact Or.inl hc
    · refine Or.inr ?_
      rw [if_neg hc, Option.map_some, Addr.add_lit]
theorem nodup_drop {o : List Ad} (h : o.Nodup) {k : Nat} {x : Ad} (hx : o[k]? = some x) : hasB (o.drop (k + 1)) x = false := by
  unfold hasB
  rw [decide_eq_false_iff_not]
  intro hm
  obtain ⟨j, hj⟩ := List.mem_iff_getElem?.1 hm
  rw [List.getElem?_drop] at hj
  obtain ⟨h1, h2⟩ := List.getElem?_eq_some_iff.1 hx
  obtain ⟨h3, h4⟩ := List.getElem?_eq_some_iff.1 hj
  have := (List.pairwise_iff_getElem.1 h) k (k + 1 + j) h1 h3 (by omega)
  exact this (h2.trans h4.symm)
set_option maxRecDepth 100000 in
set_option maxHeartbeats 4000000 in
theorem orders3_any (v0 v1 v2 : Value) (rs : Mp) (at_ : List Ad) (picks : List Int) (w : World) (h0 : RulesOf w v0 rs) (h1 : SlOf w adC 2 v1 at_) (h2 : SlOf w inC 1 v2 picks) :
    Calls Try.prog 3 #[v0, v1, v2] w fun e w' => e = .returned (.bool true) ∧ Xt w w' := by
  have H0 := Lib.hid h0
  have H1 := Lib.hid h1
  have H2 := Lib.hid h2
  obtain ⟨sa, ca, rfl, q1, q2, hcc⟩ := h1
  clear h0 h2 hcc
  go_enter Try.func3, Try.ntmps3
  go_wp2_with fail
  refine (awake_any _).mono ?_
  rintro e w1 ⟨rfl, hx1⟩
  have HX1 : Hid (Xt w w1) := hx1
  clear hx1
  go_wp2_with fail
  refine (made_any v0 rs w1 (H0.out.xt HX1.out)).mono ?_
  rintro e w2 ⟨rfl, hL, hx2⟩
  have HX2 : Hid (Xt w w2) := HX1.out.trans hx2
  have HL2 := Lib.hid hL
  clear hL hx2 HX1
  obtain ⟨bm, hbm⟩ : ∃ n, w1.heap.size = n := ⟨_, rfl⟩
  rw [hbm] at HL2 ⊢
  have HLx : Hid (Lk w2 (bm + 1) bm (fun b => b < w2.heap.size) (madeM rs)) := HL2.out.keep (fun _ _ => rfl) (fun b hb => hb.2)
  generalize madeM rs = M at HLx
  clear HL2 hbm w1
  have hmain : ∃ l : List Ad, l.length ≤ 300 ∧ ((at_.length ≤ 300 ∧ l = at_) ∨ (300 < at_.length ∧ l = at_.take 300)) := by
    rcases Nat.lt_or_ge 300 at_.length with h | h
    · exact ⟨at_.take 300, by rw [List.length_take]; omega, Or.inr ⟨h, rfl⟩⟩
    · exact ⟨at_, h, Or.inl ⟨h, rfl⟩⟩
  obtain ⟨l, hl3, hl⟩ := hmain
  have H1l : Hid (SlOf w adC 2 (.slice sa l.length ca) l) := by
    rcases hl with ⟨_, rfl⟩ | ⟨hle, hl⟩
    · exact H1.out
    · have hl300 : l.length = 300 := by rw [hl, List.length_take]; omega
      rw [hl300, hl]; exact H1.out.take 300 (by omega)
  have hca : l.length ≤ ca := by obtain ⟨_, _, e, q1, q2, _⟩ := H1l.out; cases e; exact q1
  have hready := ready_any (bm + 1) bm _ M (.slice sa l.length ca) v2 l picks w2 HLx.out (fun _ h => h) (H1l.out.xt HX2.out) (H2.out.xt HX2.out) (by omega)
  have HR := Lib.hid hready
  have hOS := orders_said M l picks
  obtain ⟨hE, hB, hLn, hA1, hA2, hJ, hN, hT, hFw⟩ := hOS
  have HE := Lib.hid hE
  have HBd := Lib.hid hB
  have HLn := Lib.hid hLn
  have HA1 := Lib.hid hA1
  have HA2 := Lib.hid hA2
  have HJ := Lib.hid hJ
  have HN := Lib.hid hN
  have HT := Lib.hid hT
  have HFw := Lib.hid hFw
  clear hready hE hB hLn hA1 hA2 hJ hN hT hFw
  rcases hl with ⟨hle, hl⟩ | ⟨hle, hl⟩
  case' inl =>
    have e : Value.slice sa at_.length ca = Value.slice sa l.length ca := by rw [hl]
    have Ee := Lib.hid e
    clear hl e
    go_wp2_with fail
    rw [Ee.out]
    clear hle Ee
  case' inr =>
    have hl300 : l.length = 300 := by rw [hl, List.length_take]; omega
    have hle2 : (300 : Int) ≤ (ca : Int) := by omega
    have H300 := Lib.hid hl300
    clear hl hl300
    go_wp2_with fail
    rw [show Value.slice sa 300 ca = Value.slice sa l.length ca by rw [H300.out]]
    clear hle hle2
  all_goals
    refine HR.out.mono ?_
    rintro e w3 ⟨vo, rfl, hown3, hx3⟩
    have HL3 : Hid (Lk w3 (bm + 1) bm (fun b => b < w3.heap.size) M) := HLx.out.keep (fun b hb => RowKit.Below.block hx3 b hb) (fun b hb => Nat.lt_of_lt_of_le hb hx3.sz)
    have HX3 : Hid (Xt w w3) := HX2.out.trans hx3
    have HO3 := Lib.hid (OwnL.sl hown3 adC_len)
    clear hown3 hx3
    go_wp2_with fail
    refine (order12_any (bm + 1) bm _ M (.slice sa l.length ca) l w3 HL3.out (fun _ h => h) (H1l.out.xt HX3.out) (by omega)).mono ?_
    rintro e w4 ⟨vp, rfl, hown4, hx4⟩
    have HL4 : Hid (Lk w4 (bm + 1) bm (fun b => b < w4.heap.size) M) := HL3.out.keep (fun b hb => RowKit.Below.block hx4 b hb) (fun b hb => Nat.lt_of_lt_of_le hb hx4.sz)
    have HX4 : Hid (Xt w w4) := HX3.out.trans hx4
    have HO4 : Hid (SlOf w4 adC 2 vo (readyS M l picks).2) := HO3.out.xt hx4
    have HP4 := Lib.hid (OwnL.sl hown4 adC_len)
    have HS4 : Hid (SlOf w4 adC 2 (.slice sa l.length ca) l) := H1l.out.xt HX4.out
    clear hown4 hx4 HO3 HX3 HL3 HX2 HLx H1 H2 H0 H1l HR
    generalize readyS M l picks = r1 at *
    generalize readyS M l [] = r2 at *
    obtain ⟨n, o⟩ := r1
    obtain ⟨n2, p⟩ := r2
    obtain rfl : n = n2 := HE.out
    by_cases hn : n = 0
    · subst hn
      have hlen : o.length = p.length := HLn.out rfl
      have HA1' : Hid (∀ a ∈ l, a ∈ o) := HA1.out rfl
      have HA2' : Hid (∀ a ∈ l, a ∈ p) := HA2.out rfl
      have HJ' : Hid (∀ a ∈ o, a ∈ l) := HJ.out rfl
      have HN' : Hid o.Nodup := HN.out rfl
      have HT' : Hid (Topo M o) := HT.out rfl
      have ho3 : o.length ≤ l.length := HFw.out
      obtain ⟨ao, co, ho, r1, r2, hoc⟩ := HO4.out
      simp only at ho
      subst ho
      obtain ⟨ap, cp, hp, _, _, _⟩ := HP4.out
      simp only at hp
      rw [← hlen] at hp
      subst hp
      obtain ⟨_, _, e0, _, _, hlc⟩ := HS4.out
      cases e0
      have HOC := Lib.hid hoc
      have HLC := Lib.hid hlc
      clear hlen hoc hlc HA1 HA2 HJ HN HT HFw HLn HBd HE
      go_wp2_with fail
      go_loopw [13] (fun i wr => ∃ k : Nat, k ≤ l.length ∧ i = .int .i64 k ∧ Hid (Xt w4 wr)) (fun i _ => l.length - (intOf i).toNat)
      case atStart => exact ⟨0, Nat.zero_le _, rfl, Xt.refl _⟩
      case round =>
        obtain ⟨k, hk, rfl, HX⟩ := hrel
        by_cases hlt : k < l.length
        · obtain ⟨b', off, rfl, hcell⟩ := HLC.out (by intro h; simp [h] at hlt)
          obtain ⟨x, hx⟩ : ∃ x, l[k]? = some x := ⟨l[k], by simp [hlt]⟩
          obtain ⟨d0, d1⟩ := ad_cells (hcell k x hx)
          have hb' : b' < w4.heap.size := World.block_lt_of_cell? w4 _ d0
          rw [← (HX.out.cells).1 _ _ hb'] at d0 d1
          have hz := HX.out.sz
          have t1 : hasB o x = true := decide_eq_true (HA1'.out x (List.mem_of_getElem? hx))
          have t2 : hasB p x = true := decide_eq_true (HA2'.out x (List.mem_of_getElem? hx))
          have T1 := Lib.hid t1
          have T2 := Lib.hid t2
          clear hcell hx t1 t2
          go_wp2_with fail
          refine (has_any _ o x _ (HO4.out.xt HX.out)).mono ?_
          rintro e wA ⟨rfl, hgA⟩
          rw [T1.out]
          have HXA : Hid (Xt w4 wA) := HX.out.trans hgA.xt
          rw [← (hgA.xt.cells).1 _ _ (by omega)] at d0 d1
          clear hgA
          go_wp2_with fail
          refine (has_any _ p x _ (HP4.out.xt HXA.out)).mono ?_
          rintro e wC ⟨rfl, hgC⟩
          rw [T2.out]
          have HXC : Hid (Xt w4 wC) := HXA.out.trans hgC.xt
          clear hgC d0 d1
          go_wp2_with fail
          go_roundw
          case rel => exact ⟨k + 1, by omega, by go_num, HXC⟩
          case measure => simp [intOf]; omega
        · go_wp2_with fail
          obtain ⟨wk, hwk⟩ : ∃ wk, wk = wr := ⟨_, rfl⟩
          subst hwk
          go_loopw [16] (fun i wr => ∃ k : Nat, k ≤ o.length ∧ i = .int .i64 k ∧ Hid (Xt w4 wr)) (fun i _ => o.length - (intOf i).toNat)
          case atStart => exact ⟨0, Nat.zero_le _, rfl, HX⟩
          case round =>
            obtain ⟨i, hi, rfl, HXi⟩ := hrel
            by_cases hlti : i < o.length
            · obtain ⟨b', off, rfl, hcell⟩ := HOC.out (by intro h; simp [h] at hlti)
              obtain ⟨x, hx⟩ : ∃ x, o[i]? = some x := ⟨o[i], by simp [hlti]⟩
              obtain ⟨d0, d1⟩ := ad_cells (hcell i x hx)
              have hb' : b' < w4.heap.size := World.block_lt_of_cell? w4 _ d0
              rw [← (HXi.out.cells).1 _ _ hb'] at d0 d1
              have hz := HXi.out.sz
              have t1 : hasB l x = true := decide_eq_true (HJ'.out x (List.mem_of_getElem? hx))
              have t2 : hasB (o.drop (i + 1)) x = false := nodup_drop HN'.out hx
              have T1 := Lib.hid t1
              have T2 := Lib.hid t2
              have HXx := Lib.hid hx
              have HCC := Lib.hid hcell
              clear hcell hx t1 t2
              go_wp2_with fail
              refine (has_any _ l x _ (HS4.out.xt HXi.out)).mono ?_
              rintro e wA ⟨rfl, hgA⟩
              rw [T1.out]
              have HXA : Hid (Xt w4 wA) := HXi.out.trans hgA.xt
              rw [← (hgA.xt.cells).1 _ _ (by omega)] at d0 d1
              clear hgA
              go_wp2_with fail
              have e1 : IntKind.i64.wrap ((i : Int) + 1) = (i : Int) + 1 := wrap_succ (by omega)
              have e2 : ((i : Int) + 1).toNat = i + 1 := by omega
              have e3 : (0 : Int) ≤ (i : Int) + 1 := by omega
              have e4 : (i : Int) + 1 ≤ (o.length : Int) := by omega
              have HSO : Hid (SlOf wA.drew adC 2 (.slice (some ⟨b', off, none⟩) o.length co) o) := HO4.out.xt HXA.out.drew
              have hzA := HXA.out.sz
              obtain ⟨vd, hvd, hsd⟩ := from_any (T := 23) (E := 34) Try.underlying23 rfl (fun w => by kernel_rfl) HSO.out (i + 1) (by omega)
              rw [show ((i + 1 : Nat) : Int) = (i : Int) + 1 by omega] at hvd
              have HSD := Lib.hid hsd
              clear hsd
              all_goals
                refine wp_region_still_tail 8 (by kernel_rfl) (by kernel_rfl) ?_
                change wpStill _ _ (World.drew _) _ _ _
                simp only [List.take_succ_cons, List.take_zero, List.drop_succ_cons, List.drop_zero]
                iterate 8 still_step
                refine wpStill_nil ?_
                change wpList _ _ _ _ _ (World.drew _)
                refine wpList_step (fun K hK => ?_)
                go_simp
                refine (has_any _ (o.drop (i + 1)) x _ HSD.out).mono ?_
                rintro e wD ⟨rfl, hgD⟩
                rw [T2.out]
                refine hK _ _ ?_
                clear hK K e1 e2 e3 e4 hvd
                have HXD : Hid (Xt w4 wD) := HXA.out.drew.trans hgD.xt
                have d0D := ((hgD.xt.cells).1 b' _ (Nat.lt_of_lt_of_le hb' hzA)).trans d0
                have d1D := ((hgD.xt.cells).1 b' _ (Nat.lt_of_lt_of_le hb' hzA)).trans d1
                clear hgD d0 d1
                go_wp2_with fail
                refine (users_any (bm + 1) bm _ M x wD (HL4.out.xt (fun _ h => h) HXD.out) (fun b hb => Nat.lt_of_lt_of_le hb HXD.out.sz)).mono ?_
                rintro e wE ⟨vu, rfl, hownE, hxE⟩
                have HXE : Hid (Xt w4 wE) := HXD.out.trans hxE
                have HUE := Lib.hid (OwnL.sl hownE adC_len)
                have hno : ∀ (j : Nat) (y : Ad), o[j]? = some y → j ≤ i → hasB ((M.map (·.1)).filter fun a => onM M a x) y = false := by
                  intro j y hy hj
                  unfold hasB
                  rw [decide_eq_false_iff_not, List.mem_filter]
                  rintro ⟨_, hon⟩
                  rw [topo_get HT'.out hy HXx.out hj] at hon
                  cases hon
                have HNO := Lib.hid hno
                generalize ((M.map (·.1)).filter fun a => onM M a x) = us at *
                clear hownE hxE hno d0D d1D
                go_wp2_with fail
                go_loopw [20] (fun s wr => ∃ j : Nat, j ≤ i + 1 ∧ s = .int .i64 j ∧ Hid (Xt wE wr)) (fun s _ => i + 1 - (intOf s).toNat)
                case atStart => exact ⟨0, Nat.zero_le _, rfl, Xt.refl _⟩
                case round =>
                  obtain ⟨j, hj, rfl, HXj⟩ := hrel
                  by_cases hltj : j ≤ i
                  · obtain ⟨y, hy⟩ : ∃ y, o[j]? = some y := ⟨o[j]'(by omega), by simp⟩
                    obtain ⟨d0, d1⟩ := ad_cells (HCC.out j y hy)
                    have HX5 : Hid (Xt w4 wr) := HXE.out.trans HXj.out
                    rw [← (HX5.out.cells).1 _ _ hb'] at d0 d1
                    have t1 := HNO.out j y hy hltj
                    have T3 := Lib.hid t1
                    clear t1 hy
                    go_wp2_with fail
                    refine (has_any _ us y _ (HUE.out.xt HXj.out)).mono ?_
                    rintro e wF ⟨rfl, hgF⟩
                    rw [T3.out]
                    have HXF : Hid (Xt wE wF) := HXj.out.trans hgF.xt
                    clear hgF d0 d1
                    go_wp2_with fail
                    go_roundw
                    case rel => exact ⟨j + 1, by omega, by go_num, HXF⟩
                    case measure => simp [intOf]; omega
                  · go_wp2_with fail
                    go_roundw
                    case rel => exact ⟨i + 1, by omega, by go_num, HXE.out.trans HXj.out⟩
                    case measure => simp [intOf]; omega
            · go_wp2_with fail
              go_ret
              exact ⟨rfl, HX4.out.trans HXi.out⟩
    · have hB := HBd.out hn
      obtain ⟨rfl, rfl, hn2⟩ := hB
      obtain ⟨ao, co, ho, _, _, _⟩ := HO4.out
      simp only at ho
      subst ho
      obtain ⟨ap, cp, hp, _, _, _⟩ := HP4.out
      simp only at hp
      subst hp
      clear HA1 HA2 HJ HN HT HFw HLn HBd HE
      rcases hn2 with hn2 | hn2
      all_goals
        simp only at hn2
        subst hn2
        go_wp2_with fail
        go_ret
        exact ⟨rfl, HX4.out⟩
end Go.Proofs.Ytagfgkcipomopaa
