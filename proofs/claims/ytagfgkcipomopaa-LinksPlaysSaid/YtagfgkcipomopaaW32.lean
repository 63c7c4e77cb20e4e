import Derived.Test.YtagfgkcipomopaaW21
namespace Go.Proofs.Ytagfgkcipomopaa
open Go.RowKit Go.Sort

/-! ### the closure of Above -/
def b2n (m : Ad → Bool) : Ad → Nat := fun a => if m a = true then 1 else 0
/-- What the closure finds in its captured variables. -/
structure AEnv (w : World) (pa pm pl pw bw pb : Nat) (v : Value) : Prop where
  ca : w.cell? ⟨pa, 0, none⟩ = some v
  cm : w.cell? ⟨pm, 0, none⟩ = some (.map (some bw))
  cl : w.cell? ⟨pl, 0, none⟩ = some (.pointer (some ⟨pb, 0, none⟩))
  cw : w.cell? ⟨pw, 0, none⟩ = some (.func (.func 54) #[] #[.pointer (some ⟨pa, 0, none⟩), .pointer (some ⟨pm, 0, none⟩), .pointer (some ⟨pl, 0, none⟩), .pointer (some ⟨pw, 0, none⟩)])
theorem AEnv.grown {w w' : World} {pa pm pl pw bw pb : Nat} {v : Value} {E : List (Ad × Value)} (h : AEnv w pa pm pl pw bw pb v) (hm : MapIs w bw E) (hg : w.grownBy w' (some bw)) : AEnv w' pa pm pl pw bw pb v := by
  have one : ∀ {p : Nat} {u : Value}, w.cell? ⟨p, 0, none⟩ = some u → w'.cell? ⟨p, 0, none⟩ = some u := by
    intro p u hp
    have hne : p ≠ bw := fun e => by rw [e, hm.nocell] at hp; cases hp
    exact (cell_grown hg (World.block_lt_of_cell? w _ hp) hne).trans hp
  exact ⟨one h.ca, one h.cm, one h.cl, one h.cw⟩
theorem sl_grown {α : Type} {enc : α → List Value} {sz : Nat} {w w' : World} {bw : Nat} {v : Value} {l : List α} {E : List (Ad × Value)} (h : SlOf w enc sz v l) (hm : MapIs w bw E) (hg : w.grownBy w' (some bw)) : SlOf w' enc sz v l := by
  obtain ⟨a, cap, rfl, q1, q2, h2⟩ := h
  refine ⟨a, cap, rfl, q1, q2, fun hl => ?_⟩
  obtain ⟨b, off, rfl, hc⟩ := h2 hl
  refine ⟨b, off, rfl, fun k x hk i u hu => ?_⟩
  have h3 := hc k x hk i u hu
  have hne : b ≠ bw := fun e => by rw [e, hm.nocell] at h3; cases h3
  exact (cell_grown hg (World.block_lt_of_cell? w _ h3) hne).trans h3
theorem lk_grown {w w' : World} {pb bm bw : Nat} {F : Nat → Prop} {M : Mp} (h : Lk w pb bm F M) (hF : ∀ b, F b → b < w.heap.size) (hbw : ¬ F bw) (hg : w.grownBy w' (some bw)) : Lk w' pb bm F M :=
  h.keep (fun b hb => hg.block b (hF b hb) (fun e => hbw (by cases e; exact hb))) (fun _ h => h)
structure AboveR (w : World) (M : Mp) (b : Ad) (bw : Nat) (met : Ad → Bool) (e : Ending) (w' : World) : Prop where
  ret : e = .returned (.tuple #[])
  ex : Hid (∃ met' E', MapIs w' bw E' ∧ FarMap E' (b2n met') ∧ MetBy M b met met' ∧ (∀ c, onM M c b = true → met' c = true) ∧ w.grownBy w' (some bw))
theorem zeros_meet0 : ∀ {all : List Ad} {m : Ad → Bool} {a : Ad}, a ∉ all → zeros all (b2n fun x => m x || decide (x = a)) = zeros all (b2n m) := by
  intro all m a ha
  unfold zeros
  congr 1
  refine List.filter_congr fun x hx => ?_
  have : x ≠ a := fun e => ha (e ▸ hx)
  simp [b2n, this]
theorem zeros_meet {all : List Ad} {m : Ad → Bool} {a : Ad} (hn : all.Nodup) (ha : a ∈ all) (h0 : m a = false) : zeros all (b2n fun x => m x || decide (x = a)) + 1 = zeros all (b2n m) := by
  induction all with
  | nil => cases ha
  | cons x r ih =>
    obtain ⟨h1, h2⟩ := List.nodup_cons.1 hn
    by_cases hx : x = a
    · subst hx
      have e1 := zeros_meet0 (m := m) h1
      have e2 : zeros (x :: r) (b2n fun y => m y || decide (y = x)) = zeros r (b2n fun y => m y || decide (y = x)) := by unfold zeros; rw [List.filter_cons]; simp [b2n]
      have e3 : zeros (x :: r) (b2n m) = zeros r (b2n m) + 1 := by unfold zeros; rw [List.filter_cons]; simp [b2n, h0]
      rw [e2, e3, e1]
    · have hr : a ∈ r := by
        rcases List.mem_cons.1 ha with h | h
        · exact absurd h.symm hx
        · exact h
      have := ih h2 hr
      cases hmx : m x
      · have e2 : zeros (x :: r) (b2n fun y => m y || decide (y = a)) = zeros r (b2n fun y => m y || decide (y = a)) + 1 := by unfold zeros; rw [List.filter_cons]; simp [b2n, hmx, hx]
        have e3 : zeros (x :: r) (b2n m) = zeros r (b2n m) + 1 := by unfold zeros; rw [List.filter_cons]; simp [b2n, hmx]
        omega
      · have e2 : zeros (x :: r) (b2n fun y => m y || decide (y = a)) = zeros r (b2n fun y => m y || decide (y = a)) := by unfold zeros; rw [List.filter_cons]; simp [b2n, hmx]
        have e3 : zeros (x :: r) (b2n m) = zeros r (b2n m) := by unfold zeros; rw [List.filter_cons]; simp [b2n, hmx]
        omega
theorem zeros_mono {all : List Ad} {m m' : Ad → Bool} (h : ∀ a, m a = true → m' a = true) : zeros all (b2n m') ≤ zeros all (b2n m) := by
  unfold zeros
  induction all with
  | nil => simp
  | cons x r ih =>
    rw [List.filter_cons, List.filter_cons]
    cases h1 : m x
    · cases h2 : m' x <;> simp [b2n, h1, h2] at ih ⊢ <;> omega
    · simp [b2n, h1, h x h1] at ih ⊢; omega
set_option maxRecDepth 100000 in
set_option maxHeartbeats 4000000 in
theorem above54_any (M : Mp) (F : Nat → Prop) (pa pm pl pw bw pb bm : Nat) (v : Value) (hnd : (M.map (·.1)).Nodup) (hmany : M.length ≤ 4096) (hbw : ¬ F bw) : ∀ (N : Nat) (b : Ad) (met : Ad → Bool) (E : List (Ad × Value)) (w : World),
    zeros (M.map (·.1)) (b2n met) ≤ N → AEnv w pa pm pl pw bw pb v → SlOf w adC 2 v (M.map (·.1)) → MapIs w bw E → FarMap E (b2n met) → Lk w pb bm F M → (∀ x, F x → x < w.heap.size) →
    Calls Try.prog 54 #[.agg #[.int .i64 b.1, .int .i64 b.2], .pointer (some ⟨pa, 0, none⟩), .pointer (some ⟨pm, 0, none⟩), .pointer (some ⟨pl, 0, none⟩), .pointer (some ⟨pw, 0, none⟩)] w (AboveR w M b bw met) := by
  intro N
  induction N using Nat.strongRecOn with
  | _ N ih =>
    intro b met E w hN hA hS hm hE hL hF
    have IH := Lib.hid ih
    have HND := Lib.hid hnd
    have HN := Lib.hid hN
    have hmany' : (M.map (·.1)).length ≤ 4096 := by simpa using hmany
    have HAL : Hid (∀ a b, onM M a b = true → a ∈ M.map (·.1)) := fun a b h => onM_key h
    generalize hall : M.map (·.1) = all at *
    have HS := Lib.hid hS
    obtain ⟨ca, cm, cl, cw⟩ := hA
    obtain ⟨sa, cap, rfl, q1, q2, hcc⟩ := hS
    have HC := Lib.hid hcc
    obtain ⟨w0, hw0, hb0, hs0, c0, c1⟩ := box1 w b.1 b.2 34
    have hxt0 : Hid (Xt w w0) := hb0
    have hbw0 : bw < w.heap.size := hm.lt
    have HA0 : Hid (AEnv w0 pa pm pl pw bw pb (.slice sa all.length cap)) := by
      have one : ∀ {p : Nat} {u : Value}, w.cell? ⟨p, 0, none⟩ = some u → w0.cell? ⟨p, 0, none⟩ = some u := fun hp => ((Xt.cells hb0).1 _ 0 (World.block_lt_of_cell? w _ hp)).trans hp
      exact ⟨one ca, one cm, one cl, one cw⟩
    have HM0 : Hid (MapIs w0 bw E) := hm.of_heap (RowKit.Below.block hb0 _ hbw0)
    have HE0 := Lib.hid hE
    have HL0 : Hid (Lk w0 pb bm F M) := hL.xt hF hb0
    have HF0 : Hid (∀ x, F x → x < w0.heap.size) := fun x hx => by have := hF x hx; omega
    have hca := HA0.out.ca
    have ha7 : sa = sa := rfl
    have HB0 : Hid (w.heap.size = w.heap.size) := rfl
    have hSw0 : Hid (∀ (k : Nat) (x : Ad), all[k]? = some x → ∃ bs off, sa = some ⟨bs, off, none⟩ ∧ bs < w.heap.size ∧ w.cell? ⟨bs, off + k * 2, none⟩ = some (.int .i64 x.1) ∧ w.cell? ⟨bs, off + k * 2 + 1, none⟩ = some (.int .i64 x.2)) := by
      intro k x hx
      obtain ⟨bs, off, e1, h2⟩ := hcc (by intro e; rw [e] at hx; simp at hx)
      obtain ⟨d0, d1⟩ := ad_cells (h2 k x hx)
      exact ⟨bs, off, e1, World.block_lt_of_cell? w _ d0, d0, d1⟩
    clear ih hnd hm hE hL hF hN hcc hall hb0 ca cm cl cw ha7 HB0 HC
    go_enter Try.func54, Try.ntmps54
    go_wp2_with fail
    clear hw0
    obtain ⟨k0, hk0⟩ : ∃ n, w.heap.size = n := ⟨_, rfl⟩
    have HK0 := Lib.hid hk0
    rw [hk0] at hs0 c0 c1 hbw0 ⊢
    clear hk0
    go_loopw [10] (fun i wr => ∃ k : Nat, k ≤ all.length ∧ i = .int .i64 k ∧ ∃ (met1 : Ad → Bool) (E1 : List (Ad × Value)), Hid (MapIs wr bw E1) ∧ Hid (FarMap E1 (b2n met1)) ∧ Hid (MetBy M b met met1) ∧ Hid (∀ c ∈ all.take k, onM M c b = true → met1 c = true) ∧ Hid (w0.grownBy wr (some bw))) (fun i _ => all.length - (intOf i).toNat)
    case atStart => exact ⟨0, Nat.zero_le _, rfl, met, E, HM0, HE0, MetBy.refl _ _ _, fun c hc => by simp at hc, ⟨rfl, rfl, rfl, Nat.le_refl _, fun _ _ _ => rfl⟩⟩
    case round =>
      obtain ⟨k, hk, rfl, met1, E1, HM1, HE1, HMB, HP, HG⟩ := hrel
      have hz := HG.out.size
      by_cases hlt : k < all.length
      · obtain ⟨a, ha⟩ : ∃ a, all[k]? = some a := ⟨all[k], by simp [hlt]⟩
        obtain ⟨bs, off, rfl, hb', d0, d1⟩ := hSw0.out k a ha
        have hbs : bs ≠ bw := fun e => by
          have h3 := (Xt.cells hxt0.out).1 bs (off + k * 2) hb'
          rw [d0] at h3
          rw [e, HM0.out.nocell] at h3
          cases h3
        have e : ∀ o, wr.cell? ⟨bs, o, none⟩ = w.cell? ⟨bs, o, none⟩ := fun o => (cell_grown HG.out (by rw [hs0, ← HK0.out]; omega) hbs).trans ((Xt.cells hxt0.out).1 bs o hb')
        rw [← e] at d0 d1
        have HAk := Lib.hid ha
        have z2 : bs < wr.heap.size := by have := HK0.out; omega
        have HAr : Hid (AEnv wr pa pm pl pw bw pb (.slice (some ⟨bs, off, none⟩) all.length cap)) := HA0.out.grown HM0.out HG.out
        obtain ⟨wB, hwB, hbB, hsB, b0, b1⟩ := box1 wr a.1 a.2 34
        have hbwr : bw < wr.heap.size := HM1.out.lt
        have HXB : Hid (Xt wr wB) := hbB
        have HMB1 : Hid (MapIs wB bw E1) := HM1.out.of_heap (RowKit.Below.block hbB _ hbwr)
        have HGB : Hid (w0.grownBy wB (some bw)) := grownBy_old HG.out (HXB.out.grown none) (fun g h => by cases h)
        have HAB : Hid (AEnv wB pa pm pl pw bw pb (.slice (some ⟨bs, off, none⟩) all.length cap)) := HA0.out.grown HM0.out HGB.out
        have c0B : wB.cell? ⟨k0, 0, none⟩ = some (.int .i64 b.1) := (cell_grown HGB.out (by omega) (by omega)).trans c0
        have c1B : wB.cell? ⟨k0, 1, none⟩ = some (.int .i64 b.2) := (cell_grown HGB.out (by omega) (by omega)).trans c1
        have hAm := HAB.out.cm
        have hAl := HAB.out.cl
        have hlk := look71 HMB1.out a (HE1.out a)
        have HLB : Hid (Lk wB pb bm F M) := lk_grown HL0.out HF0.out hbw HGB.out
        obtain ⟨nr, hnr⟩ : ∃ n, wr.heap.size = n := ⟨_, rfl⟩
        rw [hnr] at hsB b0 b1 hbwr hz z2
        have HNR := Lib.hid hnr
        clear e ha hb' hbB
        cases hma : met1 a
        · have hb0 : b2n met1 a = 0 := by simp [b2n, hma]
          rw [hb0] at hlk
          have HMA := Lib.hid hma
          clear hma hb0
          cases hon : onM M a b
          · go_wp2_with fail
            refine (on_lk pb bm F M a b _ HLB.out).mono ?_
            rintro e w2 ⟨rfl, hg2⟩
            rw [hon]
            have hx2 : Hid (Xt wB w2) := hg2.xt
            have HON := Lib.hid hon
            clear hg2 hlk hon
            go_wp2_with fail
            go_roundw
            case rel =>
              refine ⟨k + 1, by omega, by go_num, met1, E1, HMB1.out.of_heap (RowKit.Below.block hx2.out _ HMB1.out.lt), HE1, HMB, ?_, grownBy_old HGB.out (hx2.out.grown none) (fun g h => by cases h)⟩
              intro c hc hcb
              rw [List.take_add_one, HAk.out] at hc
              rcases List.mem_append.1 hc with h | h
              · exact HP.out c h hcb
              · simp at h; subst h; rw [HON.out] at hcb; cases hcb
            case measure => simp [intOf]; omega
          · go_wp2_with fail
            refine (on_lk pb bm F M a b _ HLB.out).mono ?_
            rintro e w2 ⟨rfl, hg2⟩
            rw [hon]
            have hx2 : Hid (Xt wB w2) := hg2.xt
            have HON := Lib.hid hon
            have hs2 := hx2.out.sz
            have hm2 : MapIs w2 bw E1 := HMB1.out.of_heap (RowKit.Below.block hx2.out _ HMB1.out.lt)
            have HG2 : Hid (w0.grownBy w2 (some bw)) := grownBy_old HGB.out (hx2.out.grown none) (fun g h => by cases h)
            have HA2 : Hid (AEnv w2 pa pm pl pw bw pb (.slice (some ⟨bs, off, none⟩) all.length cap)) := HA0.out.grown HM0.out HG2.out
            obtain ⟨w5, hup, HU, hs5⟩ := upd71 hm2 a (.int .i64 1)
            have HG5 : Hid (w0.grownBy w5 (some bw)) := gb_trans HG2.out HU.out.2
            have HA5 : Hid (AEnv w5 pa pm pl pw bw pb (.slice (some ⟨bs, off, none⟩) all.length cap)) := HA0.out.grown HM0.out HG5.out
            have b02 : w2.cell? ⟨nr, 0, none⟩ = some (.int .i64 a.1) := ((hx2.out.cells).1 _ _ (by omega)).trans b0
            have b12 : w2.cell? ⟨nr, 1, none⟩ = some (.int .i64 a.2) := ((hx2.out.cells).1 _ _ (by omega)).trans b1
            have b05 : w5.cell? ⟨nr, 0, none⟩ = some (.int .i64 a.1) := (cell_grown HU.out.2 (by omega) (by omega)).trans b02
            have b15 : w5.cell? ⟨nr, 1, none⟩ = some (.int .i64 a.2) := (cell_grown HU.out.2 (by omega) (by omega)).trans b12
            have hAm2 := HA2.out.cm
            have hAw5 := HA5.out.cw
            clear hg2 hlk hon hm2 b0 b1
            go_wp2_with fail
            have hmz : zeros all (b2n fun x => met1 x || decide (x = a)) + 1 = zeros all (b2n met1) := zeros_meet HND.out (List.mem_of_getElem? HAk.out) HMA.out
            have hle : zeros all (b2n met1) ≤ zeros all (b2n met) := zeros_mono HMB.out.grow
            have hNN := HN.out
            refine (IH.out _ (by omega) a (fun x => met1 x || decide (x = a)) (upE a (.int .i64 1) E1) w5 (Nat.le_refl _) HA5.out (sl_grown (HS.out.xt hxt0.out) HM0.out HG5.out) HU.out.1 (HE1.out.up (n := 1) fun x => by by_cases hx : x = a <;> simp [b2n, hx]) (lk_grown HL0.out HF0.out hbw HG5.out) (fun x hx => Nat.lt_of_lt_of_le (HF0.out x hx) HG5.out.size)).mono ?_
            rintro e w6 ⟨rfl, h6⟩
            have H6 := Lib.hid h6
            clear h6 hmz hle hNN b02 b12 b05 b15 hup
            go_wp2_with fail
            go_roundw
            case rel =>
              obtain ⟨met', E', q1, q2, q3, q4, q5⟩ := H6.out.out
              refine ⟨k + 1, by omega, by go_num, met', E', q1, q2, HMB.out.step HON.out q3 q4, ?_, gb_trans HG5.out q5⟩
              intro c hc hcb
              rw [List.take_add_one, HAk.out] at hc
              rcases List.mem_append.1 hc with h | h
              · exact q3.grow c (by simp [HP.out c h hcb])
              · simp at h; subst h; exact q3.grow c (by simp)
            case measure => simp [intOf]; omega
        · have hb1 : b2n met1 a = 1 := by simp [b2n, hma]
          rw [hb1] at hlk
          have HMA := Lib.hid hma
          clear hma hb1
          go_wp2_with fail
          go_roundw
          case rel =>
            refine ⟨k + 1, by omega, by go_num, met1, E1, HMB1, HE1, HMB, ?_, HGB⟩
            intro c hc hon
            rw [List.take_add_one, HAk.out] at hc
            rcases List.mem_append.1 hc with h | h
            · exact HP.out c h hon
            · simp at h; subst h; exact HMA.out
          case measure => simp [intOf]; omega
      · have hkl : k = all.length := by omega
        subst hkl
        go_wp2_with fail
        go_end0
        exact ⟨rfl, met1, E1, HM1.out, HE1.out, HMB.out, fun c hc => HP.out c (by rw [List.take_length]; exact HAL.out c b hc) hc, gb_trans (hxt0.out.grown (some bw)) HG.out⟩
end Go.Proofs.Ytagfgkcipomopaa
