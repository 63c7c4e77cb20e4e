import Derived.Test.YtagfgkcipomopaaL18
import Derived.Test.YtagfgkcipomopaaW27
import Derived.Deep.OwnRows
namespace Go.Proofs.Ytagfgkcipomopaa
open Go.RowKit Go.Sort

/-! ### far -/
/-- A row of numbers. -/
def IntRow (w : World) (g n : Nat) (f : Nat → Nat) : Prop := ∃ cur : Array Value, w.heap[g]? = some (.cells cur 3 (0, 0)) ∧ cur.size = n ∧ ∀ j, j < n → cur[j]? = some (.int .i64 (f j))
theorem IntRow.cell {w : World} {g n : Nat} {f : Nat → Nat} (h : IntRow w g n f) {j : Nat} (hj : j < n) : w.cell? ⟨g, j, none⟩ = some (.int .i64 (f j)) := by
  obtain ⟨cur, hg, hs, hc⟩ := h
  rw [cell_of_row w g _ cur 3 (0, 0) hg]; exact hc j hj
theorem IntRow.froz {w : World} {g n : Nat} {f : Nat → Nat} (h : IntRow w g n f) (j : Nat) : w.frozen? ⟨g, j, none⟩ = false := by
  obtain ⟨cur, hg, _⟩ := h
  simp [World.frozen?, hg]
theorem IntRow.of_heap {w w' : World} {g n : Nat} {f : Nat → Nat} (h : IntRow w g n f) (hb : w'.heap[g]? = w.heap[g]?) : IntRow w' g n f := by
  obtain ⟨cur, hg, r⟩ := h; exact ⟨cur, hb.trans hg, r⟩
theorem IntRow.lt {w : World} {g n : Nat} {f : Nat → Nat} (h : IntRow w g n f) : g < w.heap.size := by
  obtain ⟨cur, hg, _⟩ := h; exact (Array.getElem?_eq_some_iff.1 hg).1
theorem IntRow.set {w : World} {g n : Nat} {f : Nat → Nat} (h : IntRow w g n f) {k : Nat} (hk : k < n) (d : Nat) : IntRow (w.setCell ⟨g, k, none⟩ (.int .i64 d)) g n (fun j => if j = k then d else f j) := by
  obtain ⟨cur, hg, hs, hc⟩ := h
  obtain ⟨cur', q1, q2, q3⟩ := setCells_row g 3 [.int .i64 d] k w cur hg
  refine ⟨cur', q1, q2.trans hs, fun j hj => ?_⟩
  rw [q3 j]
  by_cases hjk : j = k
  · subst hjk; rw [if_pos ⟨Nat.le_refl _, by simp, by omega⟩, Nat.sub_self]; simp
  · rw [if_neg (by simp; omega)]; simp only [hjk, if_false]; exact hc j hj
theorem IntRow.congr {w : World} {g n : Nat} {f f' : Nat → Nat} (h : IntRow w g n f) (he : ∀ j, j < n → f' j = f j) : IntRow w g n f' := by
  obtain ⟨cur, hg, hs, hc⟩ := h
  exact ⟨cur, hg, hs, fun j hj => by rw [he j hj]; exact hc j hj⟩
theorem IntRow.made (w : World) (n : Nat) : IntRow (w.alloc (.cells (madeCells #[.int .i64 0] n) 3)) w.heap.size n (fun _ => 0) := by
  refine ⟨_, (MapKept.heap_alloc w _).1, by simp [madeCells], fun j hj => by simp [madeCells, hj, Nat.mod_one]⟩
/-- The key of row i. -/
def keyM (M : Mp) (i : Nat) : Ad := ((M[i]?).getD ((0, 0), [])).1
theorem keyM_at {M : Mp} {i : Nat} {x : Ad × List Ar} (h : M[i]? = some x) : keyM M i = x.1 := by unfold keyM; rw [h]; rfl
theorem keyM_inj {M : Mp} (hs : SortedM M) {i j : Nat} (hi : i < M.length) (hj : j < M.length) (h : keyM M i = keyM M j) : i = j := by
  rw [keyM_at (List.getElem?_eq_getElem hi), keyM_at (List.getElem?_eq_getElem hj)] at h
  have hn := nodup_M hs
  have := (List.nodup_iff_pairwise_ne.1 hn)
  rcases Nat.lt_trichotomy i j with hl | hl | hl
  · have h2 := (List.pairwise_iff_getElem.1 hs) i j hi hj hl
    rw [h, adLt_irrefl] at h2; cases h2
  · exact hl
  · have h2 := (List.pairwise_iff_getElem.1 hs) j i hj hi hl
    rw [h, adLt_irrefl] at h2; cases h2
def inN (i : Nat) : List Value := [.int .i64 i]
theorem inN_len (i : Nat) : (inN i).length = 1 := rfl
theorem inN_one (i : Nat) : ∀ u ∈ inN i, u.oneCell' = true := by intro u hu; simp [inN] at hu; subst hu; rfl
def FarR (w : World) (M : Mp) (t : Ad) (e : Ending) (w' : World) : Prop := ∃ g, e = .returned (.slice (some ⟨g, 0, none⟩) M.length M.length) ∧ w.heap.size ≤ g ∧ IntRow w' g M.length (fun i => dist M t (keyM M i)) ∧ Xt w w'
/-- The queue behind the first k rows. -/
def q1 (M : Mp) (t : Ad) (k : Nat) : List Nat := (List.range k).filter fun i => onM M (keyM M i) t
def f1 (M : Mp) (t : Ad) (k : Nat) (j : Nat) : Nat := if j < k ∧ onM M (keyM M j) t = true then 1 else 0
theorem q1_succ (M : Mp) (t : Ad) (k : Nat) : q1 M t (k + 1) = q1 M t k ++ (if onM M (keyM M k) t then [k] else []) := by
  unfold q1
  rw [List.range_succ, List.filter_append]
  congr 1
  rw [List.filter_cons]; simp
theorem q1_len (M : Mp) (t : Ad) (k : Nat) : (q1 M t k).length ≤ k := by
  have := List.length_filter_le (fun i => onM M (keyM M i) t) (List.range k)
  rw [List.length_range] at this; exact this
theorem keys_range (M : Mp) : (List.range M.length).map (keyM M) = M.map (·.1) := by
  apply List.ext_getElem?
  intro i
  rw [List.getElem?_map, List.getElem?_map]
  by_cases hi : i < M.length
  · rw [List.getElem?_range hi, List.getElem?_eq_getElem hi]
    simp [keyM_at (List.getElem?_eq_getElem hi)]
  · rw [List.getElem?_eq_none (by simp; omega), List.getElem?_eq_none (by omega)]; rfl
theorem q1_end (M : Mp) (t : Ad) : (q1 M t M.length).map (keyM M) = (M.map (·.1)).filter fun a => onM M a t := by
  unfold q1
  rw [← keys_range, List.filter_map]; rfl
theorem f1_end (M : Mp) (t : Ad) {j : Nat} (hj : j < M.length) : f1 M t M.length j = (if onM M (keyM M j) t then 1 else 0) := by
  unfold f1
  by_cases h : onM M (keyM M j) t = true <;> simp [h, hj]
theorem zeros_start (M : Mp) (t : Ad) : zeros (M.map (·.1)) (fun a => if onM M a t then 1 else 0) + (q1 M t M.length).length ≤ M.length := by
  have h1 : (q1 M t M.length).length = ((M.map (·.1)).filter fun a => onM M a t).length := by rw [← q1_end, List.length_map]
  rw [h1]
  have h2 : (M.map (·.1)).length = M.length := by simp
  rw [← h2]
  generalize M.map (·.1) = l
  induction l with
  | nil => simp [zeros]
  | cons x r ih =>
    by_cases h : onM M x t = true
    · have e1 : zeros (x :: r) (fun a => if onM M a t then 1 else 0) = zeros r (fun a => if onM M a t then 1 else 0) := by unfold zeros; rw [List.filter_cons]; simp [h]
      have e2 : ((x :: r).filter fun a => onM M a t).length = (r.filter fun a => onM M a t).length + 1 := by rw [List.filter_cons]; simp [h]
      rw [e1, e2, List.length_cons]; omega
    · have e1 : zeros (x :: r) (fun a => if onM M a t then 1 else 0) = zeros r (fun a => if onM M a t then 1 else 0) + 1 := by unfold zeros; rw [List.filter_cons]; simp [h]
      have e2 : ((x :: r).filter fun a => onM M a t).length = (r.filter fun a => onM M a t).length := by rw [List.filter_cons]; simp [h]
      rw [e1, e2, List.length_cons]; omega
theorem QOwn.none {w : World} {b g : Nat} (hg : w.heap[g]? = some (.cells #[] 3 (0, 0))) (hb : b ≤ g) : QOwn inN 1 3 w b (.slice (some ⟨g, 0, none⟩) 0 0) ([] : List Nat) :=
  Or.inr ⟨g, 0, 0, #[], rfl, hb, hg, Nat.le_refl _, by simp, by omega, fun j x h => by simp at h⟩
theorem uses_at {M : Mp} (hs : SortedM M) (hv : VM M) {k : Nat} {x : Ad × List Ar} (hx : M[k]? = some x) (b : Ad) : usesR x.2 b = onM M (keyM M k) b := by
  rw [uses_on (hv x (List.mem_of_getElem? hx)), keyM_at hx, onM_at hs hx]
set_option maxRecDepth 100000 in
set_option maxHeartbeats 8000000 in
theorem far52_any (px k0 : Nat) (v : Value) (M : Mp) (t : Ad × List Ar) (w : World) (hp : w.cell? ⟨px, 0, none⟩ = some v) (hR : RulesOf w v M) (hs : SortedM M) (hv : VM M) (hm : M.length ≤ 4096) (ht : M[k0]? = some t) :
    Calls Try.prog 52 #[.pointer (some ⟨px, 0, none⟩), .int .i64 k0] w (FarR w M t.1) := by
  obtain ⟨j0, hj, hy0, hy1, hy2⟩ := info_parts info3
  have hmk := fun W : World => run_make_row (P := Try.prog) 24 3 j0 (.int .i64 0) Try.underlying24 hj hy0 hy1 rfl .i64 .i64 M.length (by rw [hy2]; omega) (by omega) W
  have hpx : px < w.heap.size := World.block_lt_of_cell? w _ hp
  have HR := Lib.hid hR
  have HS := Lib.hid hs
  have HV := Lib.hid hv
  obtain ⟨sv, cap, rfl, qa, qb, hcc⟩ := hR
  have hk0 : k0 < M.length := (List.getElem?_eq_some_iff.1 ht).1
  obtain ⟨bv, ov, rfl, hcell⟩ := hcc (by intro e; subst e; simp at hk0)
  have HC := Lib.hid hcell
  have HT := Lib.hid ht
  clear hcc hcell hs hv ht
  go_enter Try.func52, Try.ntmps52
  go_wp2_with fail
  clear hmk
  obtain ⟨w1, hw1, hx1, hs1, hI1, hQ1⟩ : ∃ w1, ((w.alloc (Obj.cells (madeCells #[Value.int IntKind.i64 0] (List.length M)) 3)).alloc (Obj.cells #[] 3)) = w1 ∧ Xt w w1 ∧ w1.heap.size = w.heap.size + 2 ∧ IntRow w1 w.heap.size M.length (fun _ => 0) ∧ QOwn inN 1 3 w1 (w.heap.size + 1) (.slice (some ⟨w.heap.size + 1, 0, none⟩) 0 0) ([] : List Nat) := by
    refine ⟨_, rfl, ((Xt.refl _).alloc _).alloc _, by simp, ?_, ?_⟩
    · exact (IntRow.made w M.length).of_heap (Below.heap_alloc _ _ _ (by simp))
    · refine QOwn.none ?_ (Nat.le_refl _)
      have := (MapKept.heap_alloc (w.alloc (Obj.cells (madeCells #[Value.int IntKind.i64 0] (List.length M)) 3)) (Obj.cells #[] 3)).1
      simpa using this
  rw [hw1]
  clear hw1
  have HX1 := Lib.hid hx1
  have HI1 := Lib.hid hI1
  have HQ1 := Lib.hid hQ1
  obtain ⟨gf, hgf⟩ : ∃ n, w.heap.size = n := ⟨_, rfl⟩
  rw [hgf] at HI1 HQ1 hs1 hpx ⊢
  have HGF := Lib.hid hgf
  clear hx1 hI1 hQ1 hgf
  go_loopw [6, 7] (fun s6 s7 wr => ∃ k : Nat, k ≤ M.length ∧ s7 = .int .i64 k ∧ s6 = .slice (slAt s6) (q1 M t.1 k).length (slCap s6) ∧ Hid (QOwn inN 1 3 wr (gf + 1) s6 (q1 M t.1 k)) ∧ Hid (IntRow wr gf M.length (f1 M t.1 k)) ∧ Hid (Xt w wr)) (fun _ s7 _ => M.length - (intOf s7).toNat)
  case atStart => exact ⟨0, Nat.zero_le _, rfl, rfl, HQ1, HI1.out.congr (fun j _ => by simp [f1]), HX1⟩
  case round =>
    obtain ⟨k, hk, rfl, hv6, HQ, HI, HX⟩ := hrel
    generalize slAt u6 = a6 at *
    generalize slCap u6 = c6 at *
    subst hv6
    have hp0 := ((HX.out.cells).1 px 0 (by rw [HGF.out]; exact hpx)).trans hp
    have hzr := HX.out.sz
    by_cases hlt : k < M.length
    · obtain ⟨x, hx⟩ : ∃ x, M[k]? = some x := ⟨M[k], by simp [hlt]⟩
      obtain ⟨d0, d1, ux, d2, hux⟩ := HC.out k x hx
      obtain ⟨e0, e1, _⟩ := HC.out k0 t HT.out
      have hbv : bv < w.heap.size := World.block_lt_of_cell? w _ d0
      have d0r := ((HX.out.cells).1 bv _ hbv).trans d0
      have d1r := ((HX.out.cells).1 bv _ hbv).trans d1
      have d2r := ((HX.out.cells).1 bv _ hbv).trans d2
      have e0r := ((HX.out.cells).1 bv _ hbv).trans e0
      have e1r := ((HX.out.cells).1 bv _ hbv).trans e1
      have hux' : SlOf wr.drew arC 4 ux x.2 := hux.xt HX.out.drew
      have huse := uses_at HS.out HV.out hx t.1
      have HUX := Lib.hid hux'
      have HUSE := Lib.hid huse
      obtain ⟨au, cu, rfl, _⟩ := hux'
      have hxn := HI.out.froz k
      clear d0 d1 d2 e0 e1 hux huse hx hxn
      have hki : (k : Int) < (M.length : Int) := by omega
      cases hon : onM M (keyM M k) t.1
      all_goals
        go_wp2_with fail
        refine wp_region_still_tail 15 (by kernel_rfl) (by kernel_rfl) ?_
        change wpStill _ _ (World.drew _) _ _ _
        simp only [List.take_succ_cons, List.take_zero, List.drop_succ_cons, List.drop_zero]
        iterate 15 still_step
        refine wpStill_nil ?_
        change wpList _ _ _ _ _ (World.drew _)
        refine wpList_step (fun K hK => ?_)
        go_simp
        refine (ruses_any x.1 t.1 _ x.2 _ HUX.out).mono ?_
        rintro e w2 ⟨rfl, hg2⟩
        rw [HUSE.out, hon]
        refine hK _ _ ?_
        clear hK K d0r d1r d2r e0r e1r hp0
        have HX2 : Hid (Xt wr w2) := xt_drew hg2.xt
        have hz2 := HX2.out.sz
        clear hg2
      · go_wp2_with fail
        go_roundw
        case rel =>
          have hq : q1 M t.1 (k + 1) = q1 M t.1 k := by rw [q1_succ, hon]; simp
          refine ⟨k + 1, by omega, by go_num, ?_, ?_, ?_, HX.out.trans HX2.out⟩
          · rw [hq]; rfl
          · rw [hq]; exact HQ.out.xt HX2.out
          · refine (HI.out.of_heap (RowKit.Below.block HX2.out gf HI.out.lt)).congr fun j hj => ?_
            unfold f1
            by_cases hjk : j = k
            · subst hjk; simp [hon]
            · congr 1; simp; omega
        case measure => simp [intOf]; omega
      · have hI2 : IntRow w2 gf M.length (f1 M t.1 k) := HI.out.of_heap (RowKit.Below.block HX2.out gf HI.out.lt)
        have c8 := hI2.cell hlt
        have f8 := hI2.froz k
        obtain ⟨W3, hW3⟩ : ∃ W3, w2.setCell ⟨gf, k, none⟩ (.int .i64 1) = W3 := ⟨_, rfl⟩
        have hI3 : IntRow W3 gf M.length (f1 M t.1 (k + 1)) := by
          rw [← hW3]
          refine (hI2.set hlt 1).congr fun j hj => ?_
          unfold f1
          by_cases hjk : j = k
          · subst hjk; simp [hon]
          · simp only [hjk, if_false]; congr 1; simp; omega
        have hW3s : W3.heap.size = w2.heap.size := by rw [← hW3]; simp
        have hg3 : w2.grownBy W3 (some gf) := by rw [← hW3]; exact setCells_grown gf [.int .i64 1] k w2
        have hQ3 : QOwn inN 1 3 W3 (gf + 1) (.slice a6 (q1 M t.1 k).length c6) (q1 M t.1 k) := (HQ.out.xt HX2.out).kept fun q hq => hg3.block q ((HQ.out.xt HX2.out).lt q hq).2 (fun e => by have := (HQ.out.lt q hq).1; cases e; omega)
        have hlq := q1_len M t.1 k
        have hgl3 := hI3.lt
        obtain ⟨v', w4, hpush, hQ4, hg4, hwh⟩ := (hQ3.xt ((Xt.refl W3).alloc (.cells #[.int .i64 k] 3))).push (S := 24) (bytes := 8) Try.underlying24 hj hy0 hy1 hy2 rfl (by omega) inN_len inN_one (by simp; omega) 24 k ⟨W3.heap.size, 0, none⟩ 1 (news_at W3 [.int .i64 k] 3 rfl) (by omega) (by omega)
        obtain ⟨a', c', hv'⟩ := hQ4.shape
        have hq : q1 M t.1 (k + 1) = q1 M t.1 k ++ [k] := by rw [q1_succ, hon]; simp
        rw [← hq] at hQ4 hv'
        subst hv'
        have HQ4 := Lib.hid hQ4
        have HI4 : Hid (IntRow w4 gf M.length (f1 M t.1 (k + 1))) := hI3.of_heap ((hg4.block gf (by have := hI3.lt; simp; omega) (fun e => by have := (HQ.out.lt gf e.symm).1; omega)).trans (Below.heap_alloc _ _ _ hI3.lt))
        have HX4 : Hid (Xt w w4) := by
          have x2 : Xt w w2 := HX.out.trans HX2.out
          have x3 : Xt w W3 := x2.grownBy hg3 (by rw [HGF.out]; exact Nat.le_refl _)
          refine Below.grown (x3.alloc (.cells #[.int .i64 k] 3)) hg4 (by have := x3.sz; simp; omega) (fun q hq => by have := (HQ.out.lt q hq).1; have := HGF.out; omega)
        clear hI2 hI3 hW3s hg3 hQ3 hlq hQ4 hg4 hwh hq
        go_wp2_with (at_builtin; refine wpList_append_eq rfl _ _ 24 rfl _ _ rfl rfl hpush ?_)
        go_wp2_with fail
        go_roundw
        case rel => exact ⟨k + 1, by omega, by go_num, rfl, HQ4, HI4, HX4⟩
        case measure => simp [intOf]; omega
    · obtain rfl : k = M.length := by omega
      have HB : Hid (BfsIs M t.1 (fun a => if onM M a t.1 then 1 else 0) ((q1 M t.1 M.length).map (keyM M))) := by rw [q1_end]; exact bfs_start M t.1
      have HZ : Hid (zeros (M.map (·.1)) (fun a => if onM M a t.1 then 1 else 0) + (q1 M t.1 M.length).length ≤ M.length) := zeros_start M t.1
      have HQn : Hid (∀ i ∈ q1 M t.1 M.length, i < M.length) := fun i hi => by
        have := (List.mem_filter.1 hi).1; simpa using this
      have HI0 : Hid (IntRow wr gf M.length (fun j => if onM M (keyM M j) t.1 then 1 else 0)) := HI.out.congr fun j hj => (f1_end M t.1 hj).symm
      generalize q1 M t.1 M.length = Q0 at *
      clear HI
      go_wp2_with fail
      clear hp0
      go_loopg [6] M.length (fun gk s6 wr => ∃ (far : Ad → Nat) (Q : List Nat), s6 = .slice (slAt s6) Q.length (slCap s6) ∧ Hid (QOwn inN 1 3 wr (gf + 1) s6 Q) ∧ Hid (IntRow wr gf M.length (fun j => far (keyM M j))) ∧ Hid (BfsIs M t.1 far (Q.map (keyM M))) ∧ Hid (zeros (M.map (·.1)) far + Q.length ≤ gk ∧ zeros (M.map (·.1)) far + Q.length ≤ M.length) ∧ Hid (∀ i ∈ Q, i < M.length) ∧ Hid (Xt w wr))
      case atStart => exact ⟨_, Q0, rfl, HQ, HI0, HB, ⟨HZ.out, HZ.out⟩, HQn, HX⟩
      case round =>
        obtain ⟨far, Q, hv6, HQ2, HI2, HB2, HZ2, HQn2, HX2⟩ := hrel
        generalize slAt u6 = a7 at *
        generalize slCap u6 = c7 at *
        subst hv6
        cases Q with
        | nil =>
          go_wp2_with fail
          go_ret
          have hfar := HB2.out.end.eq
          exact ⟨gf, rfl, by rw [HGF.out]; exact Nat.le_refl _, by rw [← hfar]; exact HI2.out, HX2.out⟩
        | cons c Q =>
          obtain ⟨gq, oq, ha7, hgq, _, hqc⟩ := HQ2.out.cells (by simp)
          subst ha7
          have cq0 := hqc 0 c rfl 0 _ rfl
          simp only [Nat.zero_mul, Nat.add_zero] at cq0
          obtain ⟨vq, hpop, hQp, hob⟩ := HQ2.out.pop (S := 24) Try.underlying24 rfl (fun w => by kernel_rfl)
          obtain ⟨aq, cq, hvq⟩ := hQp.shape
          subst hvq
          rw [List.length_cons] at hpop ⊢
          have HQp := Lib.hid hQp
          have hcn : c < M.length := HQn2.out c (by simp)
          have HQnp : Hid (∀ i ∈ Q, i < M.length) := fun i hi => HQn2.out i (by simp [hi])
          have HBI : Hid (BfsIn M t.1 (keyM M c) far (Q.map (keyM M)) ((M.map (·.1)).take 0)) := by
            have := HB2.out
            rw [List.map_cons] at this
            exact this.enter
          have HZI : Hid (zeros (M.map (·.1)) far + Q.length + 1 ≤ gk ∧ zeros (M.map (·.1)) far + Q.length + 1 ≤ M.length) := by
            have := HZ2.out
            rw [List.length_cons] at this
            exact ⟨by omega, by omega⟩
          clear hqc hQp hob HQ2 HB2 HZ2 HQn2
          go_wp2_with fail
          clear hpop cq0
          go_loopw [6, 10] (fun s6 s10 wr => ∃ (k : Nat) (far : Ad → Nat) (Q : List Nat), k ≤ M.length ∧ s10 = .int .i64 k ∧ s6 = .slice (slAt s6) Q.length (slCap s6) ∧ Hid (QOwn inN 1 3 wr (gf + 1) s6 Q) ∧ Hid (IntRow wr gf M.length (fun j => far (keyM M j))) ∧ Hid (BfsIn M t.1 (keyM M c) far (Q.map (keyM M)) ((M.map (·.1)).take k)) ∧ Hid (zeros (M.map (·.1)) far + Q.length + 1 ≤ gk ∧ zeros (M.map (·.1)) far + Q.length + 1 ≤ M.length) ∧ Hid (∀ i ∈ Q, i < M.length) ∧ Hid (Xt w wr)) (fun _ s10 _ => M.length - (intOf s10).toNat)
          case atStart => exact ⟨0, far, Q, Nat.zero_le _, rfl, rfl, HQp, HI2, HBI, HZI, HQnp, HX2⟩
          case round =>
            clear HBI HZI HQnp HQp HI2 HX2 HX
            obtain ⟨k, fa, Q, hk, rfl, hv6, HQ, HI, HB, HZ, HQn, HX⟩ := hrel
            generalize slAt u6 = a6 at *
            generalize slCap u6 = c6 at *
            subst hv6
            have hp0 := ((HX.out.cells).1 px 0 (by rw [HGF.out]; exact hpx)).trans hp
            have hzr := HX.out.sz
            by_cases hlt : k < M.length
            · obtain ⟨x, hx⟩ : ∃ x, M[k]? = some x := ⟨M[k], by simp [hlt]⟩
              obtain ⟨y, hy⟩ : ∃ y, M[c]? = some y := ⟨M[c], by simp [hcn]⟩
              have HXk := Lib.hid hx
              have hki : (k : Int) < (M.length : Int) := by omega
              have hkey : (M.map (·.1)).take (k + 1) = (M.map (·.1)).take k ++ [keyM M k] := by rw [List.take_add_one, List.getElem?_map, hx, keyM_at hx]; rfl
              have HKEY := Lib.hid hkey
              have ck := HI.out.cell hlt
              try simp only at ck
              by_cases h0 : 0 < fa (keyM M k)
              · have h0i : (0 : Int) < ((fa (keyM M k) : Nat) : Int) := by omega
                have H0 := Lib.hid h0
                generalize hdk : ((fa (keyM M k) : Nat) : Int) = dk at ck h0i
                clear hx hy hkey h0 hdk
                go_wp2_with fail
                go_roundw
                case rel => exact ⟨k + 1, fa, Q, by omega, by go_num, rfl, HQ, HI, (by rw [HKEY.out]; exact HB.out.skip (Or.inl H0.out)), HZ, HQn, HX⟩
                case measure => simp [intOf]; omega
              · have h00 : fa (keyM M k) = 0 := by omega
                rw [h00] at ck
                have H00 := Lib.hid h00
                obtain ⟨d0, d1, ux, d2, hux⟩ := HC.out k x hx
                obtain ⟨e0, e1, _⟩ := HC.out c y hy
                have hbv : bv < w.heap.size := World.block_lt_of_cell? w _ d0
                have d0r := ((HX.out.cells).1 bv _ hbv).trans d0
                have d1r := ((HX.out.cells).1 bv _ hbv).trans d1
                have d2r := ((HX.out.cells).1 bv _ hbv).trans d2
                have e0r := ((HX.out.cells).1 bv _ hbv).trans e0
                have e1r := ((HX.out.cells).1 bv _ hbv).trans e1
                have hux' : SlOf wr.drew arC 4 ux x.2 := hux.xt HX.out.drew
                have huse := uses_at HS.out HV.out hx y.1
                rw [← keyM_at hy] at huse
                have hyk := keyM_at hy
                have HUX := Lib.hid hux'
                have HUSE := Lib.hid huse
                have HYK := Lib.hid hyk
                obtain ⟨au, cu, rfl, _⟩ := hux'
                clear d0 d1 d2 e0 e1 hux huse hx hy hkey h0 h00 hyk
                cases hon : onM M (keyM M k) (keyM M c)
                all_goals
                  go_wp2_with fail
                  refine wp_region_still_tail 15 (by kernel_rfl) (by kernel_rfl) ?_
                  change wpStill _ _ (World.drew _) _ _ _
                  simp only [List.take_succ_cons, List.take_zero, List.drop_succ_cons, List.drop_zero]
                  iterate 15 still_step
                  refine wpStill_nil ?_
                  change wpList _ _ _ _ _ (World.drew _)
                  refine wpList_step (fun K hK => ?_)
                  go_simp
                  refine (ruses_any x.1 y.1 _ x.2 _ HUX.out).mono ?_
                  rintro e w2 ⟨rfl, hg2⟩
                  rw [← HYK.out, HUSE.out, hon]
                  refine hK _ _ ?_
                  clear hK K d0r d1r d2r e0r e1r hp0 ck
                  have HX2 : Hid (Xt wr w2) := xt_drew hg2.xt
                  have hz2 := HX2.out.sz
                  clear hg2
                · go_wp2_with fail
                  go_roundw
                  case rel => exact ⟨k + 1, fa, Q, by omega, by go_num, rfl, HQ.out.xt HX2.out, HI.out.of_heap (RowKit.Below.block HX2.out gf HI.out.lt), (by rw [HKEY.out]; exact HB.out.skip (Or.inr hon)), HZ, HQn, HX.out.trans HX2.out⟩
                  case measure => simp [intOf]; omega
                · have hI2 : IntRow w2 gf M.length (fun j => fa (keyM M j)) := HI.out.of_heap (RowKit.Below.block HX2.out gf HI.out.lt)
                  have c8 := hI2.cell hlt
                  have cc := hI2.cell hcn
                  try simp only at c8 cc
                  have f8 := hI2.froz k
                  have hfc : fa (keyM M c) ≤ 4097 := by have := HB.out.bnd (keyM M c); omega
                  have hci : (c : Int) < (M.length : Int) := by omega
                  have hmt := HB.out.meet HS.out H00.out hon
                  rw [← HKEY.out] at hmt
                  have hmt2 : BfsIn M t.1 (keyM M c) (updF fa (keyM M k) (fa (keyM M c) + 1)) ((Q ++ [k]).map (keyM M)) ((M.map (·.1)).take (k + 1)) := by rw [List.map_append]; exact hmt
                  have hzu := zeros_upd (far := fa) (d := fa (keyM M c) + 1) (nodup_M HS.out) (onM_key hon) H00.out (by omega)
                  have HMT := Lib.hid hmt2
                  have HZU := Lib.hid hzu
                  generalize hdc : fa (keyM M c) = dc at *
                  obtain ⟨W3, hW3⟩ : ∃ W3, w2.setCell ⟨gf, k, none⟩ (.int .i64 ((dc : Int) + 1)) = W3 := ⟨_, rfl⟩
                  have hI3 : IntRow W3 gf M.length (fun j => updF fa (keyM M k) (dc + 1) (keyM M j)) := by
                    rw [← hW3, show ((dc : Int) + 1) = ((dc + 1 : Nat) : Int) by omega]
                    refine (hI2.set hlt (dc + 1)).congr fun j hj => ?_
                    unfold updF
                    by_cases hjk : j = k
                    · subst hjk; simp
                    · have : ¬ keyM M j = keyM M k := fun e => hjk (keyM_inj HS.out hj hlt e)
                      simp [hjk, this]
                  have hg3 : w2.grownBy W3 (some gf) := by rw [← hW3]; exact setCells_grown gf [.int .i64 ((dc : Int) + 1)] k w2
                  have hQ3 : QOwn inN 1 3 W3 (gf + 1) (.slice a6 Q.length c6) Q := (HQ.out.xt HX2.out).kept fun q hq => hg3.block q ((HQ.out.xt HX2.out).lt q hq).2 (fun e => by have := (HQ.out.lt q hq).1; cases e; omega)
                  have hlq : Q.length ≤ 4096 := by have := HZ.out.2; omega
                  have hgl3 := hI3.lt
                  obtain ⟨v', w4, hpush, hQ4, hg4, hwh⟩ := (hQ3.xt ((Xt.refl W3).alloc (.cells #[.int .i64 k] 3))).push (S := 24) (bytes := 8) Try.underlying24 hj hy0 hy1 hy2 rfl (by omega) inN_len inN_one (by simp; omega) 24 k ⟨W3.heap.size, 0, none⟩ 1 (news_at W3 [.int .i64 k] 3 rfl) (by omega) (by omega)
                  obtain ⟨a', c', hv'⟩ := hQ4.shape
                  subst hv'
                  have HQ4 := Lib.hid hQ4
                  have HI4 : Hid (IntRow w4 gf M.length (fun j => updF fa (keyM M k) (dc + 1) (keyM M j))) := hI3.of_heap ((hg4.block gf (by have := hI3.lt; simp; omega) (fun e => by have := (HQ.out.lt gf e.symm).1; omega)).trans (Below.heap_alloc _ _ _ hI3.lt))
                  have HX4 : Hid (Xt w w4) := by
                    have x2 : Xt w w2 := HX.out.trans HX2.out
                    have x3 : Xt w W3 := x2.grownBy hg3 (by rw [HGF.out]; exact Nat.le_refl _)
                    refine Below.grown (x3.alloc (.cells #[.int .i64 k] 3)) hg4 (by have := x3.sz; simp; omega) (fun q hq => by have := (HQ.out.lt q hq).1; have := HGF.out; omega)
                  clear hI2 hI3 hg3 hQ3 hQ4 hg4 hwh hmt hmt2 hzu hdc
                  go_wp2_with (at_builtin; refine wpList_append_eq rfl _ _ 24 rfl _ _ rfl rfl hpush ?_)
                  go_wp2_with fail
                  go_roundw
                  case rel =>
                    have hl : (Q ++ [k]).length = Q.length + 1 := by simp
                    refine ⟨k + 1, updF fa (keyM M k) (dc + 1), Q ++ [k], by omega, by go_num, by rw [hl]; rfl, by rw [← hl]; exact HQ4, HI4, HMT, ?_, ?_, HX4⟩
                    · have h1 := HZ.out
                      have h2 := HZU.out
                      rw [List.length_append, List.length_singleton]
                      exact ⟨by omega, by omega⟩
                    · intro i hi
                      rcases List.mem_append.1 hi with hi | hi
                      · exact HQn.out i hi
                      · simp at hi; rw [hi]; exact hlt
                  case measure => simp [intOf]; omega
            · obtain rfl : k = M.length := by omega
              have HBE : Hid (BfsIs M t.1 fa (Q.map (keyM M))) := by
                have := HB.out
                rw [List.take_of_length_le (by simp)] at this
                exact this.leave
              go_wp2_with fail
              go_roundg (zeros (M.map (·.1)) fa + Q.length)
              case measure => have := HZ.out.1; omega
              case rel => exact ⟨fa, Q, rfl, HQ, HI, HBE, ⟨Nat.le_refl _, by have := HZ.out.2; omega⟩, HQn, HX⟩
end Go.Proofs.Ytagfgkcipomopaa
