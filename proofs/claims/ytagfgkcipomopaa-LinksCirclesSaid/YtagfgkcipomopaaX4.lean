/- quadrillelaw18.LinksCircles returns true for every input, and each argument reads afterwards as it read before; no condition. -/
import Derived.Test.YtagfgkcipomopaaRows
import Derived.Test.YtagfgkcipomopaaX0
import Derived.Test.YtagfgkcipomopaaW31
namespace Go.Proofs.Ytagfgkcipomopaa
open Go.ChangeShapes Go.WideShapes Go.ChangeAt Go.RowKit Go.Joins

set_option maxHeartbeats 800000 in
set_option maxRecDepth 100000 in
theorem linksCircles_lifted (os : Os) (started : os.Started) (H : Type) (enc : TypeId × Value → H) :
    ReturnsInHanded {} Try.checked os 5 .any (Rows.linksCirclesSpec.pre6 enc Try.prog Try.f5 Rows.linksCirclesRow.domain false) (Rows.linksCirclesSpec.post enc Try.prog Try.f5 false true false false) := by
  refine returnsInHanded_of_change (C := Try.checked) Try.own' started (by kernel_rfl) Try.func5
    (ChangeSpec.witness6 (enc := enc) (C := Try.checked) false ⟨#[], #[.slice none 0 0], []⟩ 8 (by kernel_rfl) (by kernel_rfl) (by kernel_rfl) (by kernel_rfl)) ?_
  intro W base args ds gs before hval0 hW _ _
  have hval : ∀ (j : Nat) t v, Try.f5.params[j]? = some t → args[j]? = some v → Value.okWide Try.prog W .any base t v := hval0
  have hW' := hW
  obtain ⟨p, q, hA0, hV, rfl, _, _⟩ := hW
  have hA : DataW.TrodAll enc Try.prog W 0 (fun _ => true) true Try.f5.params.toList args.toList ds p := hA0
  rw [Try.params5] at hA hval
  obtain ⟨v0, d0, rfl, rfl, h0⟩ := trodAll_one hA
  obtain ⟨rfl, rfl⟩ := trodVars_none hV
  simp only [List.append_nil] at hW'
  have hlt : ∀ x ∈ p, x.block < W.heap.size := fun x hx => by simpa using hW'.lt x (by simpa using hx)
  have harg0 : ∀ W', Xt W W' → DataW.Trod enc Try.prog W' 0 (fun b => decide (b < W.heap.size)) true 22 v0 d0 p := fun W' hx =>
    Below.trod Try.laidOut' (by kernel_rfl) (of_decide_eq_true (by kernel_rfl)) h0 hx (fun x hx => hlt x hx)
  have hr : ∃ rs, RulesOf W v0 rs := by
    obtain ⟨a0, n0, c0, rfl⟩ := okWide_slice Try.underlying22 (hval 0 22 v0 rfl rfl)
    obtain ⟨f0, g0⟩ := h0
    exact open_rules g0
  clear hA0 hval0 hval hA h0
  obtain ⟨rs, k0⟩ := hr
  have hcall : Calls Try.prog 5 #[v0] W fun e w' => e = .returned (.bool true) ∧ Xt W w' := circles5_any v0 rs W k0
  clear k0
  refine hcall.mono fun e W' ⟨he, hx⟩ => ?_
  subst he
  exact ⟨_, rfl, _, _, _, [], _, [], hW', trodAll_mk1 (shut_bool Try.underlying4 _), trodAll_mk1 (harg0 W' hx), rfl, Below.frame hx _, fun h => by cases h⟩

theorem linksCircles_holds : Rows.LinksCirclesSaid :=
  OpenClaim.holds_of_wide 5 Try.f5 rfl rfl rfl rfl rfl rfl rfl ⟨rfl, rfl, rfl, rfl, rfl⟩ rfl rfl rfl rfl rfl (by kernel_rfl) Try.func5 (by kernel_rfl)
    (of_decide_eq_true (by kernel_rfl)) (by unfold Func.isWrapper; first | (rw [if_pos (by decide +kernel)]; kernel_rfl) | (rw [if_neg (by decide +kernel)]; exact ⟨rfl, rfl⟩))
    (fun os started H enc _ => linksCircles_lifted os started H enc)
#print axioms linksCircles_holds
end Go.Proofs.Ytagfgkcipomopaa
