/- quadrillelaw22.MoveLines returns true for every input, and what is handed in reads afterwards as it read before; its row is tied to the program's text, which lays the two listed variables; no other condition. -/
import Derived.Test.YtlgkaipgdhcajaaGreatDoorA8
import Derived.Test.YtlgkaipgdhcajaaGreatDoorA15
import Derived.OpenShut
namespace Go.Proofs.YtlgkaipgdhcajaaGreatDoor
open Go.ChangeShapes Go.WideShapes Go.ChangeAt Go.RowKit Go.Joins Go.Deep Go.Shelf

theorem open_intB {H : Type} {enc : TypeId × Value → H} {W : World} {k : Int} {d : DataW H} {p : List MemPlace} (h : DataW.Trod enc Tryz.prog W 0 (fun _ => true) true 3 (.int .i64 k) d p) : -9223372036854775808 ≤ k ∧ k ≤ 9223372036854775807 := by
  obtain ⟨f, hf⟩ := h
  obtain ⟨m, e, _, hw⟩ := DataW.trod_int Tryz.underlying3 hf
  simp only [Value.cells, List.cons.injEq, Value.int.injEq, and_true, true_and] at e
  subst e
  exact bounds_i64 hw
set_option maxRecDepth 100000 in
set_option maxHeartbeats 2000000 in
theorem moveLines_lifted (os : Os) (started : os.Started) (H : Type) (enc : TypeId × Value → H) :
    ReturnsInHanded {} Tryz.checked os 4 .any (fun w args => (Rows.moveLinesSpec.pre enc Tryz.prog Tryz.f4 [] false w args ∧ laidMetH Tryz.prog laidL w) ∧ sizedMet enc Tryz.prog Tryz.f4 (OpenSpec.ofChange Rows.moveLinesSpec) false w args)
      (Rows.moveLinesSpec.post enc Tryz.prog Tryz.f4 false true false false) := by
  refine returnsInHanded_of_change_and (C := Tryz.checked) (X := fun w _ => laidMetH Tryz.prog laidL w) (fun _ _ _ hh h => h.of_heap hh) Tryz.own' started (by kernel_rfl) Tryz.func4
    (ChangeSpec.witness_at (enc := enc) (C := Tryz.checked) (os := os) (X := fun w _ => laidMetH Tryz.prog laidL w) false (laidWorld os) #[.slice none 0 0, .bool false, .int .i64 0, .int .i64 0] 8 rfl (by kernel_rfl) (by kernel_rfl) (by kernel_rfl) (by kernel_rfl) (by kernel_rfl) (laid_metH os _)) ?_
  intro W base args ds gs before hval0 hW _ hZ hL _
  have hval : ∀ (j : Nat) t v, Tryz.f4.params[j]? = some t → args[j]? = some v → Value.okWide Tryz.prog W .any base t v := hval0
  have hW' := hW
  obtain ⟨p, q, hA0, hV, rfl, _, _⟩ := hW
  have hA : DataW.TrodAll enc Tryz.prog W 0 (fun _ => true) true Tryz.f4.params.toList args.toList ds p := hA0
  rw [Tryz.params4] at hA hval
  obtain ⟨v1, v2, v3, v4, d1, d2, d3, d4, p1, p2, p3, p4, rfl, rfl, rfl, h1, h2, h3, h4⟩ := trodAll_four hA
  obtain ⟨rfl, rfl⟩ := trodVars_none hV
  have hz : ∀ q ∈ d1.weights Tryz.prog 37, q ≤ reachBytes := by
    intro q hq
    have := List.all_eq_true.1 hZ q (by
      rw [Tryz.params4]
      simp only [List.cons_append, List.nil_append, DataW.weightsEach, List.mem_append]
      exact Or.inl hq)
    simpa using this
  obtain ⟨l, hl, hls⟩ : ∃ l, PutsIn W v1 l ∧ ∀ x ∈ l, smallT x.c.t := by
    obtain ⟨a0, n0, c0, rfl⟩ := okWide_slice Tryz.underlying37 (hval 0 37 v1 rfl rfl)
    obtain ⟨f, hf⟩ := h1
    exact open_puts (by simpa [Value.cells] using hf) hz
  obtain ⟨bc, rfl⟩ := okWide_bool Tryz.underlying4 (hval 1 4 v2 rfl rfl)
  obtain ⟨k, rfl⟩ := okWide_int Tryz.underlying3 (hval 2 3 v3 rfl rfl)
  obtain ⟨m, rfl⟩ := okWide_int Tryz.underlying3 (hval 3 3 v4 rfl rfl)
  have hkb := open_intB h3
  have hmb := open_intB h4
  have hT : Tabs W := tabs_of hL
  clear hA0 hval0 hval hA hz hZ
  simp only [List.append_nil] at hW'
  have hlt : ∀ x ∈ p1 ++ (p2 ++ (p3 ++ p4)), x.block < W.heap.size := fun x hx => by simpa using hW'.lt x (by simpa using hx)
  have harg1 : ∀ W', Xt W W' → DataW.Trod enc Tryz.prog W' 0 (fun b => decide (b < W.heap.size)) true 37 _ d1 p1 := fun W' hx =>
    Below.trod Tryz.laidOut' (by kernel_rfl) (of_decide_eq_true (by kernel_rfl)) h1 hx (fun x hx => hlt x (by simp [hx]))
  have harg2 : ∀ W', Xt W W' → DataW.Trod enc Tryz.prog W' 0 (fun b => decide (b < W.heap.size)) true 4 _ d2 p2 := fun W' hx =>
    Below.trod Tryz.laidOut' (by kernel_rfl) (of_decide_eq_true (by kernel_rfl)) h2 hx (fun x hx => hlt x (by simp [hx]))
  have harg3 : ∀ W', Xt W W' → DataW.Trod enc Tryz.prog W' 0 (fun b => decide (b < W.heap.size)) true 3 _ d3 p3 := fun W' hx =>
    Below.trod Tryz.laidOut' (by kernel_rfl) (of_decide_eq_true (by kernel_rfl)) h3 hx (fun x hx => hlt x (by simp [hx]))
  have harg4 : ∀ W', Xt W W' → DataW.Trod enc Tryz.prog W' 0 (fun b => decide (b < W.heap.size)) true 3 _ d4 p4 := fun W' hx =>
    Below.trod Tryz.laidOut' (by kernel_rfl) (of_decide_eq_true (by kernel_rfl)) h4 hx (fun x hx => hlt x (by simp [hx]))
  refine (moveLines_any l v1 bc k m W hT hl hls hkb hmb).mono fun e W' ⟨he, hx⟩ => ?_
  subst he
  exact ⟨_, rfl, _, _, _, [], _, [], hW', trodAll_mk1 (shut_bool Tryz.underlying4 _), trodAll_cons_mk (harg1 W' hx) (trodAll_cons_mk (harg2 W' hx) (trodAll_cons_mk (harg3 W' hx) (trodAll_cons_mk (harg4 W' hx) trodAll_mk0))), rfl, Below.frame hx _, fun h => by cases h⟩
theorem moveLines_row : Rows.MoveLinesSaid :=
  OpenClaim.holds_of_wide 4 Tryz.f4 rfl rfl rfl rfl rfl rfl rfl ⟨rfl, rfl, rfl, rfl, rfl⟩ rfl rfl rfl rfl rfl (by kernel_rfl) Tryz.func4 (by kernel_rfl)
    (of_decide_eq_true (by kernel_rfl)) (by unfold Func.isWrapper; rw [if_neg (of_decide_eq_false (by kernel_rfl))]; exact ⟨rfl, rfl⟩)
    (fun os started H enc _ => moveLines_lifted os started H enc)
theorem moveLines_holds : Rows.MoveLinesCardSaid :=
  Claim7.holds_tied_plain_at .later [] [.data, .pinned] true _ true
    moveLines_row (fun _ h => by cases h) (by kernel_rfl) (fun _ h => by cases h) moveLines_row_tie rfl ⟨rfl, rfl⟩ (by kernel_rfl) rfl
    (fun f fn hf hfn => by
      obtain rfl : f = 4 := Option.some.inj ((show Tryz.prog.funcNamed "quadrille/quadrillelaw22.MoveLines" = some 4 by kernel_rfl).symm.trans hf) |>.symm
      obtain rfl : fn = Tryz.f4 := (Option.some.inj (Tryz.func4.symm.trans hfn)).symm
      exact ⟨by kernel_rfl, fun j t ht => by
        rw [Tryz.params4] at ht
        have h3 : t = 37 ∨ t = 4 ∨ t = 3 := by
          rcases j with _ | _ | _ | _ | j
          · exact Or.inl (by simpa using ht.symm)
          · exact Or.inr (Or.inl (by simpa using ht.symm))
          · exact Or.inr (Or.inr (by simpa using ht.symm))
          · exact Or.inr (Or.inr (by simpa using ht.symm))
          · simp at ht
        rcases h3 with rfl | rfl | rfl
        · exact (show Tryz.prog.wantsStandIn 37 = false by kernel_rfl)
        · exact (show Tryz.prog.wantsStandIn 4 = false by kernel_rfl)
        · exact (show Tryz.prog.wantsStandIn 3 = false by kernel_rfl)⟩)
    (by kernel_rfl)
#print axioms moveLines_holds
end Go.Proofs.YtlgkaipgdhcajaaGreatDoor
