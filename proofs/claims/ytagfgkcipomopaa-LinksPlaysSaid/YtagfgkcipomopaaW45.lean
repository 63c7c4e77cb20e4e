import Derived.Test.YtagfgkcipomopaaW44
namespace Go.Proofs.Ytagfgkcipomopaa
open Go.RowKit Go.Sort

/-! ### LinksPlays -/
theorem step31_any (pb bm px : Nat) (F : Nat → Prop) (M : Mp) (o : OpS) (v : OpV) (w : World) (h : Pr w pb bm px F M) (ho : OpIs w o v) (hout : OpOut F o v) :
    Calls Try.prog 31 #[.pointer (some ⟨pb, 0, none⟩), .pointer (some ⟨px, 0, none⟩), opV o v] w (StpR w pb bm px F) := by
  obtain ⟨K, hK, hk⟩ := rest17 o.kind 11 (by omega) (by omega)
  have hK' : K = 0 ∨ K = 1 ∨ K = 2 ∨ K = 3 ∨ K = 4 ∨ K = 5 ∨ K = 6 ∨ K = 7 ∨ 8 ≤ K := by omega
  rcases hK' with rfl | rfl | rfl | rfl | rfl | rfl | rfl | rfl | h8
  · exact step_0 pb bm px F M o v w h ho hout hk
  · exact step_1 pb bm px F M o v w h ho hout hk
  · exact step_2 pb bm px F M o v w h ho hout hk
  · exact step_3 pb bm px F M o v w h ho hout hk
  · exact step_4 pb bm px F M o v w h ho hout hk
  · exact step_5 pb bm px F M o v w h ho hout hk
  · exact step_6 pb bm px F M o v w h ho hout hk
  · exact step_7 pb bm px F M o v w h ho hout hk
  · exact step_8 pb bm px F M o v w h ho hout K h8 hk
/-- A slice of steps, each of seven cells. -/
def OpsOf (w : World) (v : Value) (ops : List OpS) : Prop :=
  ∃ a cap, v = .slice a ops.length cap ∧ ops.length ≤ cap ∧ cap ≤ 9223372036854775807 ∧ (ops ≠ [] → ∃ b off, a = some ⟨b, off, none⟩ ∧ ∀ k o, ops[k]? = some o → ∃ ov : OpV,
    w.cell? ⟨b, off + k * 7, none⟩ = some (.int .i64 o.kind) ∧ w.cell? ⟨b, off + k * 7 + 1, none⟩ = some (.int .i64 o.on) ∧ w.cell? ⟨b, off + k * 7 + 2, none⟩ = some (.int .i64 o.cell.1) ∧ w.cell? ⟨b, off + k * 7 + 3, none⟩ = some (.int .i64 o.cell.2) ∧
    w.cell? ⟨b, off + k * 7 + 4, none⟩ = some ov.lv ∧ w.cell? ⟨b, off + k * 7 + 5, none⟩ = some ov.uv ∧ w.cell? ⟨b, off + k * 7 + 6, none⟩ = some ov.pv ∧ OpIs w o ov)
theorem pair_of {w : World} {pb bm px : Nat} {Fa Fb : Nat → Prop} {M : Mp} (h1 : Lk w pb bm Fa M) (h2 : Ref w px Fb M) (hd : ∀ b, Fa b → ¬ Fb b) (hlt : ∀ b, Fa b ∨ Fb b → b < w.heap.size) (hv : VM M) : Pr w pb bm px (fun b => Fa b ∨ Fb b) M :=
  ⟨⟨Fa, Fb, h1, h2, fun b hb => ⟨Or.inl hb, hd b hb⟩, fun b hb => Or.inr hb⟩, hlt, hv⟩
/-- What came in lies apart from what is made here. -/
theorem out_of {α : Type} {w : World} {enc : α → List Value} {sz : Nat} {v : Value} {l : List α} {F : Nat → Prop} (h : SlOf w enc sz v l) (hpos : ∀ x, ∃ u, (enc x)[0]? = some u) (hF : ∀ b, F b → w.heap.size ≤ b) : l ≠ [] → slIn (fun b => ¬ F b) v := by
  intro hne a n c hv hf
  obtain ⟨a', c', rfl, _, _, hh⟩ := h
  cases hv
  obtain ⟨b, off, ha, hc⟩ := hh hne
  cases ha
  obtain ⟨y, hy⟩ : ∃ y, l[0]? = some y := by
    cases l with
    | nil => exact absurd rfl hne
    | cons y _ => exact ⟨y, rfl⟩
  obtain ⟨u, hu⟩ := hpos y
  have h1 := World.block_lt_of_cell? w _ (hc 0 y hy 0 u hu)
  have h2 := hF _ hf
  simp only at h1 h2
  omega
theorem OpOut.of {w : World} {o : OpS} {v : OpV} {F : Nat → Prop} (h : OpIs w o v) (hF : ∀ b, F b → w.heap.size ≤ b) : OpOut F o v :=
  ⟨out_of h.l (fun x => ⟨_, rfl⟩) hF, out_of h.uses (fun x => ⟨_, rfl⟩) hF, out_of h.picks (fun x => ⟨_, rfl⟩) hF⟩
/-- Both pairs. -/
structure Two (w wr : World) (pb bm px qb qm qx : Nat) (F G : Nat → Prop) (M N : Mp) : Prop where
  p : Pr wr pb bm px F M
  q : Pr wr qb qm qx G N
  ap : ∀ b, F b → ¬ G b
  pw : ∀ b, F b → w.heap.size ≤ b
  qw : ∀ b, G b → w.heap.size ≤ b
theorem Two.swap {w wr : World} {pb bm px qb qm qx : Nat} {F G : Nat → Prop} {M N : Mp} (h : Two w wr pb bm px qb qm qx F G M N) : Two w wr qb qm qx pb bm px G F N M :=
  ⟨h.q, h.p, fun b hb hf => h.ap b hf hb, h.qw, h.pw⟩
theorem Two.xt {w wr w' : World} {pb bm px qb qm qx : Nat} {F G : Nat → Prop} {M N : Mp} (h : Two w wr pb bm px qb qm qx F G M N) (hx : Xt wr w') : Two w w' pb bm px qb qm qx F G M N :=
  ⟨h.p.xt hx, h.q.xt hx, h.ap, h.pw, h.qw⟩
theorem Two.step {w wr w' : World} {pb bm px qb qm qx : Nat} {F G : Nat → Prop} {M N : Mp} {e : Ending} (h : Two w wr pb bm px qb qm qx F G M N) (hw : w.heap.size ≤ wr.heap.size) (hs : StpR wr pb bm px F e w') : ∃ M' F', Two w w' pb bm px qb qm qx F' G M' N ∧ Chg F wr w' := by
  obtain ⟨_, M', F', h1, h2, h3⟩ := hs
  have hz := h3.size
  refine ⟨M', F', ⟨h1, h.q.keep (fun b hb => h3.block b (h.q.lt b hb) (fun hf => h.ap b hf hb)) hz, fun b hb hg => ?_, fun b hb => ?_, h.qw⟩, h3⟩
  · rcases h2 b hb with h4 | h4
    · exact h.ap b h4 hg
    · have := h.q.lt b hg; omega
  · rcases h2 b hb with h4 | h4
    · exact h.pw b h4
    · omega
theorem xt_chg' {a b c : World} {F : Nat → Prop} (h : Xt a b) (k : Chg F b c) (hF : ∀ q, F q → a.heap.size ≤ q) : Xt a c := xt_chg h k hF
theorem Pr.rf {w : World} {pb bm px : Nat} {F : Nat → Prop} {M : Mp} (h : Pr w pb bm px F M) : Ref w px F M := by
  obtain ⟨F1, F2, h1, h2, h3, h4⟩ := h.two
  exact h2.mono h4
theorem lkM_at {M : Mp} (hs : SortedM M) {k : Nat} {x : Ad × List Ar} (hx : M[k]? = some x) : lkM x.1 M = some x.2 := by
  have h1 : ∀ y ∈ M.take k, adLt y.1 x.1 = true := by
    intro y hy
    obtain ⟨j, hj, rfl⟩ := List.mem_take_iff_getElem.1 hy
    obtain ⟨hk, rfl⟩ := List.getElem?_eq_some_iff.1 hx
    exact (List.pairwise_iff_getElem.1 hs) j k (by omega) hk (by omega)
  exact (place_yes h1 (show M[k]? = some (x.1, x.2) from hx)).1
theorem uses_keep {w0 w : World} {pb bm px b o : Nat} {F : Nat → Prop} {M : Mp} {r : Ad × List Ar} {u ux : Value} (hL : Hid (Lk w0 pb bm F M)) (hF : Hid (∀ b, F b → b < w0.heap.size)) (hr : Hid (lkM r.1 M = some r.2)) (hp : w.cell? ⟨px, 0, none⟩ = some u)
    (h0 : w.cell? ⟨b, o, none⟩ = some (.int .i64 r.1.1)) (h1 : w.cell? ⟨b, o + 1, none⟩ = some (.int .i64 r.1.2)) (h2 : w.cell? ⟨b, o + 2, none⟩ = some ux) (hx : Hid (Xt w0 w)) :
    Calls Try.prog 27 #[.pointer (some ⟨pb, 0, none⟩), .agg #[.int .i64 r.1.1, .int .i64 r.1.2]] w fun e w' => ∃ v, e = .returned v ∧ w'.cell? ⟨px, 0, none⟩ = some u ∧ w'.cell? ⟨b, o, none⟩ = some (.int .i64 r.1.1) ∧ w'.cell? ⟨b, o + 1, none⟩ = some (.int .i64 r.1.2) ∧ w'.cell? ⟨b, o + 2, none⟩ = some ux ∧
      Hid (SlOf w' arC 4 v r.2) ∧ Hid (Xt w0 w') := by
  refine (uses_any pb bm F M r.1 w (hL.out.xt hF.out hx.out) (fun b hb => Nat.lt_of_lt_of_le (hF.out b hb) hx.out.sz)).mono ?_
  rintro e w' ⟨v, rfl, hown, hx'⟩
  have hc := (hx'.cells).1
  have hb : b < w.heap.size := World.block_lt_of_cell? w _ h0
  have hpx : px < w.heap.size := World.block_lt_of_cell? w _ hp
  rw [hr.out] at hown
  exact ⟨v, rfl, (hc _ _ hpx).trans hp, (hc _ _ hb).trans h0, (hc _ _ hb).trans h1, (hc _ _ hb).trans h2, hown.sl arC_len, hx.out.trans hx'⟩
theorem areas_keep {w0 w : World} {px b o : Nat} {r : Ad × List Ar} {u ux v : Value} (hsl : Hid (SlOf w arC 4 v r.2)) (hux : Hid (SlOf w0 arC 4 ux r.2)) (hp : w.cell? ⟨px, 0, none⟩ = some u)
    (h0 : w.cell? ⟨b, o, none⟩ = some (.int .i64 r.1.1)) (h1 : w.cell? ⟨b, o + 1, none⟩ = some (.int .i64 r.1.2)) (h2 : w.cell? ⟨b, o + 2, none⟩ = some ux) (hx : Hid (Xt w0 w)) :
    Calls Try.prog 34 #[v, ux] w fun e w' => e = .returned (.bool true) ∧ w'.cell? ⟨px, 0, none⟩ = some u ∧ w'.cell? ⟨b, o, none⟩ = some (.int .i64 r.1.1) ∧ w'.cell? ⟨b, o + 1, none⟩ = some (.int .i64 r.1.2) ∧ w'.cell? ⟨b, o + 2, none⟩ = some ux ∧ Hid (Xt w0 w') := by
  refine (areas34_any v ux r.2 r.2 w hsl.out (hux.out.xt hx.out)).mono ?_
  rintro e w' ⟨rfl, hg⟩
  have hc := (hg.xt.cells).1
  have hb : b < w.heap.size := World.block_lt_of_cell? w _ h0
  have hpx : px < w.heap.size := World.block_lt_of_cell? w _ hp
  exact ⟨by rw [decide_eq_true (rfl : r.2 = r.2)], (hc _ _ hpx).trans hp, (hc _ _ hb).trans h0, (hc _ _ hb).trans h1, (hc _ _ hb).trans h2, hx.out.trans hg.xt⟩
/-- What the last test asks, in whatever order. -/
theorem len_keep {w : World} {pb bm px qx : Nat} {F : Nat → Prop} {M : Mp} {u v : Value} (h : Lk w pb bm F M) (h1 : w.cell? ⟨px, 0, none⟩ = some u) (h2 : w.cell? ⟨qx, 0, none⟩ = some v) :
    Calls Try.prog 19 #[.pointer (some ⟨pb, 0, none⟩)] w fun e w' => e = .returned (.int .i64 M.length) ∧ w = w' := len_any pb bm F M w h
set_option maxRecDepth 100000 in
set_option maxHeartbeats 8000000 in
theorem plays7_any (v0 : Value) (ops : List OpS) (w : World) (h0 : OpsOf w v0 ops) : Calls Try.prog 7 #[v0] w fun e w' => e = .returned (.bool true) ∧ Xt w w' := by
  obtain ⟨sa, cap, rfl, qa, qb', hcc⟩ := h0
  have HC := Lib.hid hcc
  clear hcc
  go_enter Try.func7, Try.ntmps7
  go_wp2_with fail
  refine (awake_any _).mono ?_
  rintro e w1 ⟨rfl, hx1⟩
  have HX1 : Hid (Xt w w1) := hx1
  clear hx1
  go_wp2_with fail
  refine (new_any _).mono ?_
  rintro e w2 ⟨rfl, hL2, hg2⟩
  have HL2 := Lib.hid hL2
  have HX2 : Hid (Xt w1 w2) := hg2.xt
  clear hL2 hg2
  go_wp2_with fail
  refine (new_any _).mono ?_
  rintro e w3 ⟨rfl, hL3, hg3⟩
  have HL3 := Lib.hid hL3
  have HX3 : Hid (Xt w2 w3) := hg3.xt
  clear hL3 hg3
  go_wp2_with fail
  refine (rnew_any _).mono ?_
  rintro e w4 ⟨rfl, hR4, hg4⟩
  have HR4 := Lib.hid hR4
  have HX4 : Hid (Xt w3 w4) := hg4.xt
  clear hR4 hg4
  go_wp2_with fail
  refine (rnew_any _).mono ?_
  rintro e w5 ⟨rfl, hR5, hg5⟩
  have HX5 : Hid (Xt w4 w5) := hg5.xt
  have HT5 : Hid (∃ F G, Two w w5 (w1.heap.size + 1) w1.heap.size w3.heap.size (w2.heap.size + 1) w2.heap.size w4.heap.size F G [] []) := by
    have s1 := HX1.out.sz
    have s2 := HX2.out.sz
    have s3 := HX3.out.sz
    have s4 := HX4.out.sz
    have s5 := HX5.out.sz
    have hp : Pr w5 (w1.heap.size + 1) w1.heap.size w3.heap.size _ [] := pair_of (HL2.out.xt (fun b hb => hb.2) ((HX3.out.trans HX4.out).trans HX5.out)) (HR4.out.xt (fun b hb => hb.2) HX5.out) (fun b hb hf => by omega) (fun b hb => by omega) (fun x hx => by cases hx)
    have hq : Pr w5 (w2.heap.size + 1) w2.heap.size w4.heap.size _ [] := pair_of (HL3.out.xt (fun b hb => hb.2) (HX4.out.trans HX5.out)) hR5 (fun b hb hf => by omega) (fun b hb => by omega) (fun x hx => by cases hx)
    refine ⟨_, _, hp, hq, fun b hb hf => ?_, fun b hb => by omega, fun b hb => by omega⟩
    rcases hb with hb | hb <;> rcases hf with hf | hf <;> omega
  have HXW : Hid (Xt w w5) := (((HX1.out.trans HX2.out).trans HX3.out).trans HX4.out).trans HX5.out
  obtain ⟨bm, hbm⟩ : ∃ n, w1.heap.size = n := ⟨_, rfl⟩
  obtain ⟨qm, hqm⟩ : ∃ n, w2.heap.size = n := ⟨_, rfl⟩
  obtain ⟨px, hpx⟩ : ∃ n, w3.heap.size = n := ⟨_, rfl⟩
  obtain ⟨qx, hqx⟩ : ∃ n, w4.heap.size = n := ⟨_, rfl⟩
  rw [hbm, hqm, hpx, hqx] at HT5
  rw [hbm, hqm, hpx, hqx]
  clear hbm hqm hpx hqx hR5 hg5 HL2 HL3 HR4 HX1 HX2 HX3 HX4 HX5
  go_wp2_with fail
  go_loopw [4, 5, 6, 7, 8] (fun s4 s5 s6 s7 s8 wr => ∃ (i pb bm px qb qm qx : Nat), i ≤ ops.length ∧ s8 = .int .i64 i ∧ s4 = .pointer (some ⟨pb, 0, none⟩) ∧ s5 = .pointer (some ⟨qb, 0, none⟩) ∧ s6 = .pointer (some ⟨px, 0, none⟩) ∧ s7 = .pointer (some ⟨qx, 0, none⟩) ∧
    Hid (∃ F G M N, Two w wr pb bm px qb qm qx F G M N) ∧ Hid (Xt w wr)) (fun _ _ _ _ s8 _ => ops.length - (intOf s8).toNat)
  case atStart => exact ⟨0, bm + 1, bm, px, qm + 1, qm, qx, Nat.zero_le _, rfl, rfl, rfl, rfl, rfl, ⟨_, _, _, _, HT5.out.choose_spec.choose_spec⟩, HXW⟩
  case round =>
    clear HT5 HXW
    obtain ⟨i, pb, bm, px, qb, qm, qx, hik, rfl, rfl, rfl, rfl, rfl, HT, HX⟩ := hrel
    by_cases hlt : i < ops.length
    · obtain ⟨b', off, rfl, hcell⟩ := HC.out (by intro h; simp [h] at hlt)
      obtain ⟨o, ho⟩ : ∃ o, ops[i]? = some o := ⟨ops[i], by simp [hlt]⟩
      obtain ⟨ov, d0, d1, d2, d3, d4, d5, d6, hop⟩ := hcell i o ho
      have hbw : b' < w.heap.size := World.block_lt_of_cell? w _ d0
      have hc := fun off => (HX.out.cells).1 b' off hbw
      have d0r := (hc _).trans d0
      have d1r := (hc _).trans d1
      have d2r := (hc _).trans d2
      have d3r := (hc _).trans d3
      have d4r := (hc _).trans d4
      have d5r := (hc _).trans d5
      have d6r := (hc _).trans d6
      have hii : (i : Int) < (ops.length : Int) := by omega
      have HOP := Lib.hid hop
      obtain ⟨kind, on, at_, ll, us, pk⟩ := o
      obtain ⟨lv, uv, pv⟩ := ov
      simp only at d0r d1r d2r d3r d4r d5r d6r
      obtain ⟨la, lc, hlv, _, _, _⟩ := hop.l
      obtain ⟨ua, uc, huv, _, _, _⟩ := hop.uses
      obtain ⟨pa, pc, hpv, _, _, _⟩ := hop.picks
      simp only at hlv huv hpv
      subst hlv huv hpv
      obtain ⟨wB, hwB, hxB, hsB, e0, e1, e2, e3, e4, e5, e6⟩ := box7 wr kind on at_.1 at_.2 (.slice la ll.length lc) (.slice ua us.length uc) (.slice pa pk.length pc) 61
      obtain ⟨bo, hbo⟩ : ∃ n, wr.heap.size = n := ⟨_, rfl⟩
      have HBO := Lib.hid hbo
      rw [hbo] at hsB e0 e1 e2 e3 e4 e5 e6
      have HXB : Hid (Xt w wB) := HX.out.trans hxB
      have HTB : Hid (∃ F G M N, Two w wB pb bm px qb qm qx F G M N ∧ (∀ b, F b ∨ G b → b ≠ bo)) := by
        obtain ⟨F, G, M, N, hT⟩ := HT.out
        exact ⟨F, G, M, N, hT.xt hxB, fun b hb => by rcases hb with hb | hb; · have := hT.p.lt b hb; omega
                                                     · have := hT.q.lt b hb; omega⟩
      obtain ⟨K2, hK2, hk2⟩ := rest17 on 2 (by omega) (by omega)
      have HK2 := Lib.hid hk2
      obtain ⟨K, hK, hk⟩ := rest17 kind 11 (by omega) (by omega)
      have HK := Lib.hid hk
      have E : Hid (wB.cell? ⟨bo, 0, none⟩ = some (.int .i64 kind) ∧ wB.cell? ⟨bo, 1, none⟩ = some (.int .i64 on) ∧ wB.cell? ⟨bo, 2, none⟩ = some (.int .i64 at_.1) ∧ wB.cell? ⟨bo, 3, none⟩ = some (.int .i64 at_.2) ∧ wB.cell? ⟨bo, 4, none⟩ = some (.slice la ll.length lc) ∧ wB.cell? ⟨bo, 5, none⟩ = some (.slice ua us.length uc) ∧ wB.cell? ⟨bo, 6, none⟩ = some (.slice pa pk.length pc)) := ⟨e0, e1, e2, e3, e4, e5, e6⟩
      clear hcell ho d0 d1 d2 d3 d4 d5 d6 hc hop hk hk2 hxB HT e0 e1 e2 e3 e4 e5 e6
      go_upto_region 12 with fail
      clear d0r d1r d2r d3r d4r d5r d6r hwB
      obtain ⟨e0, e1, e2, e3, e4, e5, e6⟩ := E.out
      go_wp2_with fail
      refine (HK2.out _).mono ?_
      rintro e w0 ⟨rfl, rfl⟩
      go_upto_if 41 with fail
      go_cut [4, 5, 6, 7] (fun s4 s5 s6 s7 wx => ∃ (pb bm px qb qm qx : Nat), s4 = .pointer (some ⟨pb, 0, none⟩) ∧ s5 = .pointer (some ⟨qb, 0, none⟩) ∧ s6 = .pointer (some ⟨px, 0, none⟩) ∧ s7 = .pointer (some ⟨qx, 0, none⟩) ∧ Hid (∃ F G M N, Two w wB pb bm px qb qm qx F G M N ∧ (∀ b, F b ∨ G b → b ≠ bo)) ∧ wx = wB)
      case first =>
        have hK2' : K2 = 0 ∨ K2 = 1 := by omega
        rcases hK2' with rfl | rfl
        · go_wp2_with fail
          go_meet
          exact ⟨pb, bm, px, qb, qm, qx, rfl, rfl, rfl, rfl, HTB, rfl⟩
        · go_wp2_with fail
          go_meet
          refine ⟨qb, qm, qx, pb, bm, px, rfl, rfl, rfl, rfl, ?_, rfl⟩
          obtain ⟨F, G, M, N, hT, hne⟩ := HTB.out
          exact ⟨G, F, N, M, hT.swap, fun b hb => hne b hb.symm⟩
      case rest =>
        clear HTB
        obtain ⟨pb, bm, px, qb, qm, qx, rfl, rfl, rfl, rfl, HTB, hwc⟩ := hcut
        subst hwc
        obtain ⟨F, G, M, N, hT, hne⟩ := HTB.out
        have HT := Lib.hid hT
        have HNE := Lib.hid hne
        have hst := step31_any pb bm px F M ⟨kind, on, at_, ll, us, pk⟩ ⟨.slice la ll.length lc, .slice ua us.length uc, .slice pa pk.length pc⟩ wc hT.p (HOP.out.xt HXB.out) (OpOut.of HOP.out hT.pw)
        simp only [opV] at hst
        have HST := Lib.hid hst
        have hbc : bo < wc.heap.size := by omega
        clear hT hne hst HTB
        go_wp2_with fail
        refine (HST.out).mono ?_
        rintro e w6 h6
        have H6 := Lib.hid h6
        obtain ⟨M', F', hT6, hC6⟩ := HT.out.step HXB.out.sz h6
        obtain ⟨rfl, _⟩ := h6
        have HT6 := Lib.hid hT6
        have HX6 : Hid (Xt w w6) := xt_chg HXB.out hC6 HT.out.pw
        have e06 : w6.cell? ⟨bo, 0, none⟩ = some (.int .i64 kind) := (chg_cell hC6 hbc (fun hf => HNE.out bo (Or.inl hf) rfl)).trans e0
        clear hT6 hC6 e0 e1 e2 e3 e4 e5 e6 H6
        go_wp2_with fail
        refine (HK.out _).mono ?_
        rintro e w0 ⟨rfl, rfl⟩
        clear e06
        by_cases h9 : K = 9
        · subst h9
          have hcp := copy32_any pb bm F' M' w6 HT6.out.p.lk HT6.out.p.lt
          have HCP := Lib.hid hcp
          clear hcp
          go_wp2_with fail
          refine (HCP.out).mono ?_
          rintro e w7 ⟨pb2, bm2, rfl, hL7, hx7⟩
          have HL7 := Lib.hid hL7
          have HX7 := Lib.hid hx7
          have hrc := rcopy33_any px F' M' w7 (HT6.out.p.xt hx7).rf (HT6.out.p.xt hx7).lt
          have HRC := Lib.hid hrc
          clear hL7 hx7 hrc HCP
          go_wp2_with fail
          refine (HRC.out).mono ?_
          rintro e w8 ⟨px2, rfl, hR8, hx8⟩
          have HR8 := Lib.hid hR8
          have HX8 := Lib.hid hx8
          clear hR8 hx8 HRC
          go_wp2_with fail
          go_roundw
          case rel =>
            have z6 := HX6.out.sz
            have z7 := HX7.out.sz
            have z8 := HX8.out.sz
            have hq : Pr w8 pb2 bm2 px2 _ M' := pair_of (HL7.out.xt (fun b hb => hb.2) HX8.out) HR8.out (fun b hb hf => by omega) (fun b hb => by omega) HT6.out.p.vm
            refine ⟨i + 1, pb, bm, px, pb2, bm2, px2, by omega, by go_num, rfl, rfl, rfl, rfl, ⟨F', _, M', M', (HT6.out.p.xt HX7.out).xt HX8.out, hq, fun b hb hf => ?_, HT6.out.pw, fun b hb => by omega⟩, (HX6.out.trans HX7.out).trans HX8.out⟩
            have := HT6.out.p.lt b hb
            omega
          case measure => simp [intOf]; omega
        · have n9 : ((K : Int) == 9) = false := by rw [beq_eq_false_iff_ne]; omega
          go_wp2_with fail
          go_roundw
          case rel => exact ⟨i + 1, pb, bm, px, qb, qm, qx, by omega, by go_num, rfl, rfl, rfl, rfl, ⟨F', G, M', N, HT6.out⟩, HX6⟩
          case measure => simp [intOf]; omega
    · obtain ⟨F, G, M, N, hT⟩ := HT.out
      have HTW := Lib.hid hT
      obtain ⟨av, cv, hpx, hRU, hm⟩ := hT.p.ref
      have HRU := Lib.hid hRU
      have hs := hT.p.sorted
      have HS := Lib.hid hs
      have hpl : px < wr.heap.size := World.block_lt_of_cell? wr _ hpx
      clear hT hRU hs HT
      obtain ⟨wq, hwq⟩ : ∃ wq, wq = wr := ⟨_, rfl⟩
      subst hwq
      go_wp2_with fail
      go_loopw [11] (fun s11 wr => ∃ k : Nat, k ≤ M.length ∧ s11 = .int .i64 k ∧ Hid (Xt wq wr)) (fun s11 _ => M.length - (intOf s11).toNat)
      case atStart => exact ⟨0, Nat.zero_le _, rfl, Xt.refl _⟩
      case round =>
        obtain ⟨k, hk, rfl, HXk⟩ := hrel
        have hpr := ((HXk.out.cells).1 px 0 hpl).trans hpx
        by_cases hltk : k < M.length
        · obtain ⟨a', c', hv, _, _, hc⟩ := HRU.out
          cases hv
          obtain ⟨b', off, rfl, hcell⟩ := hc (by intro h; simp [h] at hltk)
          obtain ⟨r, hr⟩ : ∃ r, M[k]? = some r := ⟨M[k], by simp [hltk]⟩
          obtain ⟨d0, d1, ux, d2, hux⟩ := hcell k r hr
          have hbw : b' < wq.heap.size := World.block_lt_of_cell? wq _ d0
          have d0r := ((HXk.out.cells).1 b' _ hbw).trans d0
          have d1r := ((HXk.out.cells).1 b' _ hbw).trans d1
          have d2r := ((HXk.out.cells).1 b' _ hbw).trans d2
          have hki : (k : Int) < (M.length : Int) := by omega
          have HLK : Hid (Lk wq pb bm F M) := HTW.out.p.lk
          have HLF : Hid (∀ b, F b → b < wq.heap.size) := HTW.out.p.lt
          have HLR : Hid (lkM r.1 M = some r.2) := lkM_at HS.out hr
          have HUX := Lib.hid hux
          have HXd : Hid (Xt wq wr.drew) := HXk.out.drew
          clear hc hcell hr hux d0 d1 d2
          go_upto_region 26 with fail
          go_region_held3 (fun w' => w'.cell? ⟨px, 0, none⟩ = some (.slice (some ⟨b', off, none⟩) M.length cv) ∧ w'.cell? ⟨b', off + k * 3, none⟩ = some (.int .i64 r.1.1) ∧ w'.cell? ⟨b', off + k * 3 + 1, none⟩ = some (.int .i64 r.1.2) ∧ w'.cell? ⟨b', off + k * 3 + 2, none⟩ = some ux) (first | exact ⟨by assumption, by assumption, by assumption, by assumption⟩) (first
            | (go_at_call 27; refine (uses_keep (w0 := wq) (px := px) (b := b') (o := off + k * 3) HLK HLF HLR (by assumption) (by assumption) (by assumption) (by assumption) (by assumption)).mono ?_; rintro e w' ⟨v, rfl, g0, g1, g2, g3, HV, KX⟩)
            | (go_at_call 34; refine (areas_keep (w0 := wq) (px := px) (b := b') (o := off + k * 3) (r := r) (by assumption) HUX (by assumption) (by assumption) (by assumption) (by assumption) (by assumption)).mono ?_; rintro e w' ⟨rfl, g0, g1, g2, g3, KX⟩))
          all_goals
            go_wp2_with fail
            go_roundw
            case rel => exact ⟨k + 1, by omega, by go_num, by assumption⟩
            case measure => simp [intOf]; omega
        · obtain rfl : k = M.length := by omega
          obtain ⟨aq, cq, hqx, _, _⟩ := HTW.out.q.ref
          have hql : qx < wq.heap.size := World.block_lt_of_cell? wq _ hqx
          have hqr := ((HXk.out.cells).1 qx 0 hql).trans hqx
          have hpd : wr.drew.cell? ⟨px, 0, none⟩ = some (.slice av M.length cv) := hpr
          have hqd : wr.drew.cell? ⟨qx, 0, none⟩ = some (.slice aq N.length cq) := hqr
          have HL1 : Hid (Lk wr.drew pb bm F M) := HTW.out.p.lk.xt HTW.out.p.lt HXk.out.drew
          have HL2 : Hid (Lk wr.drew qb qm G N) := HTW.out.q.lk.xt HTW.out.q.lt HXk.out.drew
          clear hqx hqr hpx
          go_upto_region 29 with fail
          clear hpr
          go_region_held3 (fun w' => w'.cell? ⟨px, 0, none⟩ = some (.slice av M.length cv) ∧ w'.cell? ⟨qx, 0, none⟩ = some (.slice aq N.length cq)) (first | exact ⟨by assumption, by assumption⟩) (first
            | (go_at_call_of 19 (Value.pointer (some ⟨pb, 0, none⟩)); refine (len_any pb bm F M _ HL1.out).mono ?_; rintro e w' ⟨rfl, rfl⟩)
            | (go_at_call_of 19 (Value.pointer (some ⟨qb, 0, none⟩)); refine (len_any qb qm G N _ HL2.out).mono ?_; rintro e w' ⟨rfl, rfl⟩))
          all_goals
            go_wp2_with fail
            go_ret
            exact ⟨rfl, HX.out.trans HXk.out.drew⟩
end Go.Proofs.Ytagfgkcipomopaa
