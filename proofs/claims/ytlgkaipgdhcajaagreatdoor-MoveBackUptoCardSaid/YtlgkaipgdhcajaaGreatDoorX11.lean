/- quadrillelaw22.MoveBack returns true for every input whose arguments hold at most 1048576 values and letters, each counted as often as it is met, and what is handed in reads afterwards as it read before; its row is tied to the program's text, which lays the two listed variables; no other condition. -/
import Derived.Test.YtlgkaipgdhcajaaGreatDoorA8
import Derived.Test.YtlgkaipgdhcajaaGreatDoorA16
import Derived.Deep.DeepHandedRow
import Derived.OpenShut
namespace Go.Proofs.YtlgkaipgdhcajaaGreatDoor
open Go.ChangeShapes Go.WideShapes Go.ChangeAt Go.RowKit Go.Joins Go.Deep Go.Shelf

theorem open_intB {H : Type} {enc : TypeId × Value → H} {W : World} {k : Int} {d : DataW H} {p : List MemPlace} (h : DataW.Trod enc Tryz.prog W 0 (fun _ => true) true 3 (.int .i64 k) d p) : -9223372036854775808 ≤ k ∧ k ≤ 9223372036854775807 := by
  obtain ⟨f, hf⟩ := h
  obtain ⟨m, e, _, hw⟩ := DataW.trod_int Tryz.underlying3 hf
  simp only [Value.cells, List.cons.injEq, Value.int.injEq, and_true, true_and] at e
  subst e
  exact bounds_i64 hw
theorem moveBack_reads (os : Os) {H : Type} (enc : TypeId × Value → H) : ∃ places, DataW.whole enc Tryz.prog ((laidWorld os).forCall (fun _ _ => 0) ⟨#[], #[.slice none 0 0, .bool false, .int .i64 0, .int .i64 0, .int .i64 0], []⟩).memory Tryz.f5.params.toList Rows.moveBackSpec.vars false (#[.slice none 0 0, .bool false, .int .i64 0, .int .i64 0, .int .i64 0] : Array Value).toList 8 = some ([.nil, .lit (.bool false), .lit (.int .i64 0), .lit (.int .i64 0), .lit (.int .i64 0)], [], places) :=
  ⟨[], by kernel_rfl⟩
set_option maxRecDepth 100000 in
set_option maxHeartbeats 2000000 in
theorem moveBack_lifted (os : Os) (started : os.Started) (H : Type) (enc : TypeId × Value → H) (F : Stop.Interp) :
    ReturnsInHanded {} Tryz.checked os 5 .any ((Rows.OpenSpec.upto Rows.moveBackSpec).preRow enc Tryz.prog Tryz.f5 Rows.moveBackUptoRow.domain false Rows.moveBackUptoRow.laid) (((Rows.OpenSpec.upto Rows.moveBackSpec).at F).post enc Tryz.prog Tryz.f5 false true false false) := by
  obtain ⟨places, hx⟩ := moveBack_reads os enc
  refine returnsInHanded_of_row (C := Tryz.checked) (s := Rows.OpenSpec.upto Rows.moveBackSpec) Tryz.own' started (by kernel_rfl) Tryz.func5
    (witness_row_at (enc := enc) (C := Tryz.checked) false (laidWorld os) #[.slice none 0 0, .bool false, .int .i64 0, .int .i64 0, .int .i64 0] rfl (by kernel_rfl) (by kernel_rfl) (by kernel_rfl)
      (OpenSpec.preRow_of_cond 8 hx (by kernel_rfl) (fun k hk => by cases hk; kernel_rfl) (by kernel_rfl) (laid_metH os _))) ?_
  intro W base args ds gs before hval0 hW _ hcond hZ hL _ _
  have hval : ∀ (j : Nat) t v, Tryz.f5.params[j]? = some t → args[j]? = some v → Value.okWide Tryz.prog W .any base t v := hval0
  have hW' := hW
  obtain ⟨pp, qq, hA0, hV, rfl, _, _⟩ := hW
  have hA : DataW.TrodAll enc Tryz.prog W 0 (fun _ => true) true Tryz.f5.params.toList args.toList ds pp := hA0
  rw [Tryz.params5] at hA hval
  obtain ⟨v1, vs1, d1, ds1, p1, r1, hargs, rfl, rfl, h1, g1⟩ := trodAll_cons hA
  obtain ⟨v2, vs2, d2, ds2, p2, r2, rfl, rfl, rfl, h2, g2⟩ := trodAll_cons g1
  obtain ⟨v3, vs3, d3, ds3, p3, r3, rfl, rfl, rfl, h3, g3⟩ := trodAll_cons g2
  obtain ⟨v4, vs4, d4, ds4, p4, r4, rfl, rfl, rfl, h4, g4⟩ := trodAll_cons g3
  obtain ⟨v5, vs5, d5, ds5, p5, r5, rfl, rfl, rfl, h5, g5⟩ := trodAll_cons g4
  obtain ⟨rfl, rfl, rfl⟩ := trodAll_nil g5
  obtain rfl : args = #[v1, v2, v3, v4, v5] := by cases args; simp_all
  obtain ⟨rfl, rfl⟩ := trodVars_none hV
  have hz : ∀ q ∈ d1.weights Tryz.prog 37, q ≤ reachBytes := by
    intro q hq
    have := List.all_eq_true.1 hZ q (by
      rw [Tryz.params5]
      simp only [List.cons_append, List.nil_append, DataW.weightsEach, List.mem_append]
      exact Or.inl hq)
    simpa using this
  have hbk : Rows.uptoBulk d1 ≤ 1048576 := by
    have h := of_decide_eq_true (hcond _ rfl)
    simp only [List.cons_append, List.nil_append, Rows.uptoBulkAll] at h
    omega
  obtain ⟨l, hl, hls, hlb⟩ : ∃ l, PutsIn W v1 l ∧ (∀ x ∈ l, smallT x.c.t) ∧ ∀ x ∈ l, (flatT x.c.t).length ≤ 1048576 := by
    obtain ⟨a0, n0, c0, rfl⟩ := okWide_slice Tryz.underlying37 (hval 0 37 v1 rfl rfl)
    obtain ⟨f, hf⟩ := h1
    exact open_putsB (by simpa [Value.cells] using hf) hz hbk
  obtain ⟨bc, rfl⟩ := okWide_bool Tryz.underlying4 (hval 1 4 v2 rfl rfl)
  obtain ⟨k, rfl⟩ := okWide_int Tryz.underlying3 (hval 2 3 v3 rfl rfl)
  obtain ⟨m, rfl⟩ := okWide_int Tryz.underlying3 (hval 3 3 v4 rfl rfl)
  obtain ⟨o, rfl⟩ := okWide_int Tryz.underlying3 (hval 4 3 v5 rfl rfl)
  have hkb := open_intB h3
  have hmb := open_intB h4
  have hob := open_intB h5
  have hT : Tabs W := tabs_of hL
  have hbp : BulkP (pis l) := fun x hx => by
    obtain ⟨y, hy, rfl⟩ := List.mem_map.1 hx
    exact hlb y hy
  clear hA0 hval0 hval hA hz hZ hcond hx
  simp only [List.append_nil] at hW'
  have hlt : ∀ x ∈ p1 ++ (p2 ++ (p3 ++ (p4 ++ p5))), x.block < W.heap.size := fun x hx => by simpa using hW'.lt x (by simpa using hx)
  have harg1 : ∀ W', Xt W W' → DataW.Trod enc Tryz.prog W' 0 (fun b => decide (b < W.heap.size)) true 37 _ d1 p1 := fun W' hx =>
    Below.trod Tryz.laidOut' (by kernel_rfl) (of_decide_eq_true (by kernel_rfl)) h1 hx (fun x hx => hlt x (by simp [hx]))
  have harg2 : ∀ W', Xt W W' → DataW.Trod enc Tryz.prog W' 0 (fun b => decide (b < W.heap.size)) true 4 _ d2 p2 := fun W' hx =>
    Below.trod Tryz.laidOut' (by kernel_rfl) (of_decide_eq_true (by kernel_rfl)) h2 hx (fun x hx => hlt x (by simp [hx]))
  have harg3 : ∀ W', Xt W W' → DataW.Trod enc Tryz.prog W' 0 (fun b => decide (b < W.heap.size)) true 3 _ d3 p3 := fun W' hx =>
    Below.trod Tryz.laidOut' (by kernel_rfl) (of_decide_eq_true (by kernel_rfl)) h3 hx (fun x hx => hlt x (by simp [hx]))
  have harg4 : ∀ W', Xt W W' → DataW.Trod enc Tryz.prog W' 0 (fun b => decide (b < W.heap.size)) true 3 _ d4 p4 := fun W' hx =>
    Below.trod Tryz.laidOut' (by kernel_rfl) (of_decide_eq_true (by kernel_rfl)) h4 hx (fun x hx => hlt x (by simp [hx]))
  have harg5 : ∀ W', Xt W W' → DataW.Trod enc Tryz.prog W' 0 (fun b => decide (b < W.heap.size)) true 3 _ d5 p5 := fun W' hx =>
    Below.trod Tryz.laidOut' (by kernel_rfl) (of_decide_eq_true (by kernel_rfl)) h5 hx (fun x hx => hlt x (by simp [hx]))
  refine (moveBack_any l v1 bc k m o W hT hl hls hbp hkb hmb hob).mono fun e W' ⟨he, hx⟩ => ?_
  subst he
  exact ⟨_, rfl, _, _, _, [], _, [], hW', trodAll_mk1 (shut_bool Tryz.underlying4 _), trodAll_cons_mk (harg1 W' hx) (trodAll_cons_mk (harg2 W' hx) (trodAll_cons_mk (harg3 W' hx) (trodAll_cons_mk (harg4 W' hx) (trodAll_cons_mk (harg5 W' hx) trodAll_mk0)))), rfl, Below.frame hx _, fun h => by cases h⟩
theorem moveBack_row : Rows.MoveBackUptoSaid :=
  OpenClaim.holds_of_cond 5 Tryz.f5 rfl rfl rfl rfl rfl rfl rfl ⟨rfl, rfl, rfl, rfl, rfl⟩ rfl rfl rfl rfl rfl (by kernel_rfl) Tryz.func5 (by kernel_rfl)
    (of_decide_eq_true (by kernel_rfl)) (by unfold Func.isWrapper; rw [if_neg (of_decide_eq_false (by kernel_rfl))]; exact ⟨rfl, rfl⟩)
    (fun os started H enc _ F => by rw [OpenClaim.pre_eq_preRow]; exact moveBack_lifted os started H enc F)
theorem moveBack_holds : Rows.MoveBackUptoCardSaid :=
  Claim7.holds_tied_plain_at .later [] _ _ _ _
    moveBack_row (fun _ h => by cases h) (by kernel_rfl) (fun _ h => by cases h) moveBackUpto_row_tie rfl ⟨rfl, rfl⟩ (by kernel_rfl) rfl
    (fun f fn hf hfn => by
      obtain rfl : f = 5 := Option.some.inj ((show Tryz.prog.funcNamed "quadrille/quadrillelaw22.MoveBack" = some 5 by kernel_rfl).symm.trans hf) |>.symm
      obtain rfl : fn = Tryz.f5 := (Option.some.inj (Tryz.func5.symm.trans hfn)).symm
      exact ⟨by kernel_rfl, fun j t ht => by
        rw [Tryz.params5] at ht
        have h3 : t = 37 ∨ t = 4 ∨ t = 3 := by
          rcases j with _ | _ | _ | _ | _ | j
          · exact Or.inl (by simpa using ht.symm)
          · exact Or.inr (Or.inl (by simpa using ht.symm))
          · exact Or.inr (Or.inr (by simpa using ht.symm))
          · exact Or.inr (Or.inr (by simpa using ht.symm))
          · exact Or.inr (Or.inr (by simpa using ht.symm))
          · simp at ht
        rcases h3 with rfl | rfl | rfl
        · exact (show Tryz.prog.wantsStandIn 37 = false by kernel_rfl)
        · exact (show Tryz.prog.wantsStandIn 4 = false by kernel_rfl)
        · exact (show Tryz.prog.wantsStandIn 3 = false by kernel_rfl)⟩)
    (by kernel_rfl)
#print axioms moveBack_holds
end Go.Proofs.YtlgkaipgdhcajaaGreatDoor
