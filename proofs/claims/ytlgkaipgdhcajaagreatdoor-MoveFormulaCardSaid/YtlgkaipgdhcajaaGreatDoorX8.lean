/- quadrillelaw22.MoveFormula returns true for every input, and what is handed in reads afterwards as it read before; its row is tied to the program's text, which lays the two listed variables; no other condition. -/
import Derived.Test.YtlgkaipgdhcajaaGreatDoorA8
import Derived.Test.YtlgkaipgdhcajaaGreatDoorN6
import Derived.OpenShut
namespace Go.Proofs.YtlgkaipgdhcajaaGreatDoor
open Go.ChangeShapes Go.WideShapes Go.ChangeAt Go.RowKit Go.Joins Go.Deep Go.Shelf

set_option maxRecDepth 100000 in
theorem open_nodeV {H : Type} {enc : TypeId × Value → H} {W : World} {v : Value} {d : DataW H} {p : List MemPlace} {base : Nat} (hv : Value.okWide Tryz.prog W .any base 29 v) (h : DataW.Trod enc Tryz.prog W 0 (fun _ => true) true 29 v d p) (hz : ∀ q ∈ d.weights Tryz.prog 29, q ≤ reachBytes) :
    ∃ (t : NodeT) (a : Option Addr) (cap n : Nat), v = nodeV t a t.args.length cap ∧ ArgsIn W n (.slice a t.args.length cap) t.args ∧ t.ok ∧ smallT t := by
  obtain ⟨cs, rfl, _⟩ := okWide_struct Tryz.underlying29 hv
  obtain ⟨f, hf⟩ := h
  obtain ⟨t, av, e, h1, h2, h3⟩ := open_node f hf hz
  obtain ⟨a, cap, rfl, _, _⟩ := h1.shape
  obtain ⟨cs⟩ := cs
  have : cs = nodeC t (.slice a t.args.length cap) := by simpa [Value.cells] using e
  exact ⟨t, a, cap, f, by rw [this]; rfl, h1, h2, h3⟩
set_option maxRecDepth 100000 in
set_option maxHeartbeats 2000000 in
theorem moveFormula_lifted (os : Os) (started : os.Started) (H : Type) (enc : TypeId × Value → H) :
    ReturnsInHanded {} Tryz.checked os 3 .any (fun w args => (Rows.moveFormulaSpec.pre enc Tryz.prog Tryz.f3 [] false w args ∧ laidMetH Tryz.prog laidL w) ∧ sizedMet enc Tryz.prog Tryz.f3 (OpenSpec.ofChange Rows.moveFormulaSpec) false w args)
      (Rows.moveFormulaSpec.post enc Tryz.prog Tryz.f3 false true false false) := by
  refine returnsInHanded_of_change_and (C := Tryz.checked) (X := fun w _ => laidMetH Tryz.prog laidL w) (fun _ _ _ hh h => h.of_heap hh) Tryz.own' started (by kernel_rfl) Tryz.func3
    (ChangeSpec.witness_at (enc := enc) (C := Tryz.checked) (os := os) (X := fun w _ => laidMetH Tryz.prog laidL w) false (laidWorld os) #[.agg (nodeC (leafT 0 ⟨#[]⟩) (.slice none 0 0)).toArray, .bool false, .int .i64 0, .int .i64 0] 8 rfl (by kernel_rfl) (by kernel_rfl) (by kernel_rfl) (by kernel_rfl) (by kernel_rfl) (laid_metH os _)) ?_
  intro W base args ds gs before hval0 hW _ hZ hL _
  have hval : ∀ (j : Nat) t v, Tryz.f3.params[j]? = some t → args[j]? = some v → Value.okWide Tryz.prog W .any base t v := hval0
  have hW' := hW
  obtain ⟨p, q, hA0, hV, rfl, _, _⟩ := hW
  have hA : DataW.TrodAll enc Tryz.prog W 0 (fun _ => true) true Tryz.f3.params.toList args.toList ds p := hA0
  rw [Tryz.params3] at hA hval
  obtain ⟨v1, v2, v3, v4, d1, d2, d3, d4, p1, p2, p3, p4, rfl, rfl, rfl, h1, h2, h3, h4⟩ := trodAll_four hA
  obtain ⟨rfl, rfl⟩ := trodVars_none hV
  have hz : ∀ q ∈ d1.weights Tryz.prog 29, q ≤ reachBytes := by
    intro q hq
    have := List.all_eq_true.1 hZ q (by
      rw [Tryz.params3]
      simp only [List.cons_append, List.nil_append, DataW.weightsEach, List.mem_append]
      exact Or.inl hq)
    simpa using this
  obtain ⟨t, a, cap, n, rfl, hin, hok, hsm⟩ := open_nodeV (hval 0 29 v1 rfl rfl) h1 hz
  obtain ⟨bc, rfl⟩ := okWide_bool Tryz.underlying4 (hval 1 4 v2 rfl rfl)
  obtain ⟨k, rfl⟩ := okWide_int Tryz.underlying3 (hval 2 3 v3 rfl rfl)
  obtain ⟨m, rfl⟩ := okWide_int Tryz.underlying3 (hval 3 3 v4 rfl rfl)
  have hT : Tabs W := tabs_of hL
  clear hA0 hval0 hval hA hz hZ
  simp only [List.append_nil] at hW'
  have hlt : ∀ x ∈ p1 ++ (p2 ++ (p3 ++ p4)), x.block < W.heap.size := fun x hx => by simpa using hW'.lt x (by simpa using hx)
  have harg1 : ∀ W', Xt W W' → DataW.Trod enc Tryz.prog W' 0 (fun b => decide (b < W.heap.size)) true 29 _ d1 p1 := fun W' hx =>
    Below.trod Tryz.laidOut' (by kernel_rfl) (of_decide_eq_true (by kernel_rfl)) h1 hx (fun x hx => hlt x (by simp [hx]))
  have harg2 : ∀ W', Xt W W' → DataW.Trod enc Tryz.prog W' 0 (fun b => decide (b < W.heap.size)) true 4 _ d2 p2 := fun W' hx =>
    Below.trod Tryz.laidOut' (by kernel_rfl) (of_decide_eq_true (by kernel_rfl)) h2 hx (fun x hx => hlt x (by simp [hx]))
  have harg3 : ∀ W', Xt W W' → DataW.Trod enc Tryz.prog W' 0 (fun b => decide (b < W.heap.size)) true 3 _ d3 p3 := fun W' hx =>
    Below.trod Tryz.laidOut' (by kernel_rfl) (of_decide_eq_true (by kernel_rfl)) h3 hx (fun x hx => hlt x (by simp [hx]))
  have harg4 : ∀ W', Xt W W' → DataW.Trod enc Tryz.prog W' 0 (fun b => decide (b < W.heap.size)) true 3 _ d4 p4 := fun W' hx =>
    Below.trod Tryz.laidOut' (by kernel_rfl) (of_decide_eq_true (by kernel_rfl)) h4 hx (fun x hx => hlt x (by simp [hx]))
  refine (moveFormula_any n t a cap bc k m W hok hT hsm hin).mono fun e W' ⟨he, hx⟩ => ?_
  subst he
  exact ⟨_, rfl, _, _, _, [], _, [], hW', trodAll_mk1 (shut_bool Tryz.underlying4 _), trodAll_cons_mk (harg1 W' hx) (trodAll_cons_mk (harg2 W' hx) (trodAll_cons_mk (harg3 W' hx) (trodAll_cons_mk (harg4 W' hx) trodAll_mk0))), rfl, Below.frame hx _, fun h => by cases h⟩
theorem moveFormula_row : Rows.MoveFormulaSaid :=
  OpenClaim.holds_of_wide 3 Tryz.f3 rfl rfl rfl rfl rfl rfl rfl ⟨rfl, rfl, rfl, rfl, rfl⟩ rfl rfl rfl rfl rfl (by kernel_rfl) Tryz.func3 (by kernel_rfl)
    (of_decide_eq_true (by kernel_rfl)) (by unfold Func.isWrapper; rw [if_neg (of_decide_eq_false (by kernel_rfl))]; exact ⟨rfl, rfl⟩)
    (fun os started H enc _ => moveFormula_lifted os started H enc)
theorem moveFormula_holds : Rows.MoveFormulaCardSaid :=
  Claim7.holds_tied_plain_at .later [] [.data, .pinned] true _ true
    moveFormula_row (fun _ h => by cases h) (by kernel_rfl) (fun _ h => by cases h) moveFormula_row_tie rfl ⟨rfl, rfl⟩ (by kernel_rfl) rfl
    (fun f fn hf hfn => by
      obtain rfl : f = 3 := Option.some.inj ((show Tryz.prog.funcNamed "quadrille/quadrillelaw22.MoveFormula" = some 3 by kernel_rfl).symm.trans hf) |>.symm
      obtain rfl : fn = Tryz.f3 := (Option.some.inj (Tryz.func3.symm.trans hfn)).symm
      exact ⟨by kernel_rfl, fun j t ht => by
        rw [Tryz.params3] at ht
        have h3 : t = 29 ∨ t = 4 ∨ t = 3 := by
          rcases j with _ | _ | _ | _ | j
          · exact Or.inl (by simpa using ht.symm)
          · exact Or.inr (Or.inl (by simpa using ht.symm))
          · exact Or.inr (Or.inr (by simpa using ht.symm))
          · exact Or.inr (Or.inr (by simpa using ht.symm))
          · simp at ht
        rcases h3 with rfl | rfl | rfl
        · exact (show Tryz.prog.wantsStandIn 29 = false by kernel_rfl)
        · exact (show Tryz.prog.wantsStandIn 4 = false by kernel_rfl)
        · exact (show Tryz.prog.wantsStandIn 3 = false by kernel_rfl)⟩)
    (by kernel_rfl)
#print axioms moveFormula_holds
end Go.Proofs.YtlgkaipgdhcajaaGreatDoor
