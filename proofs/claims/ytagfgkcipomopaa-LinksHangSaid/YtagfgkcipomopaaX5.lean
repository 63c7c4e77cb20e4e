/- quadrillelaw18.LinksHang returns true for every input, and each argument reads afterwards as it read before; no condition. -/
import Derived.Test.YtagfgkcipomopaaRows
import Derived.Test.YtagfgkcipomopaaX0
import Derived.Test.YtagfgkcipomopaaW35
namespace Go.Proofs.Ytagfgkcipomopaa
open Go.ChangeShapes Go.WideShapes Go.ChangeAt Go.RowKit Go.Joins

set_option maxHeartbeats 800000 in
set_option maxRecDepth 100000 in
theorem linksHang_lifted (os : Os) (started : os.Started) (H : Type) (enc : TypeId × Value → H) :
    ReturnsInHanded {} Try.checked os 6 .any (Rows.linksHangSpec.pre6 enc Try.prog Try.f6 Rows.linksHangRow.domain false) (Rows.linksHangSpec.post enc Try.prog Try.f6 false true false false) := by
  refine returnsInHanded_of_change (C := Try.checked) Try.own' started (by kernel_rfl) Try.func6
    (ChangeSpec.witness6 (enc := enc) (C := Try.checked) false ⟨#[], #[.slice none 0 0, .agg #[.int .i64 0, .int .i64 0]], []⟩ 8 (by kernel_rfl) (by kernel_rfl) (by kernel_rfl) (by kernel_rfl)) ?_
  intro W base args ds gs before hval0 hW _ _
  have hval : ∀ (j : Nat) t v, Try.f6.params[j]? = some t → args[j]? = some v → Value.okWide Try.prog W .any base t v := hval0
  have hW' := hW
  obtain ⟨p, q, hA0, hV, rfl, _, _⟩ := hW
  have hA : DataW.TrodAll enc Try.prog W 0 (fun _ => true) true Try.f6.params.toList args.toList ds p := hA0
  rw [Try.params6] at hA hval
  obtain ⟨v0, v1, d0, d1, p0, p1, rfl, rfl, rfl, h0, h1⟩ := trodAll_two hA
  obtain ⟨rfl, rfl⟩ := trodVars_none hV
  simp only [List.append_nil] at hW'
  have hlt : ∀ x ∈ p0 ++ p1, x.block < W.heap.size := fun x hx => by simpa using hW'.lt x hx
  have harg0 : ∀ W', Xt W W' → DataW.Trod enc Try.prog W' 0 (fun b => decide (b < W.heap.size)) true 22 v0 d0 p0 := fun W' hx =>
    Below.trod Try.laidOut' (by kernel_rfl) (of_decide_eq_true (by kernel_rfl)) h0 hx (fun x hx => hlt x (List.mem_append.2 (.inl hx)))
  have harg1 : ∀ W', Xt W W' → DataW.Trod enc Try.prog W' 0 (fun b => decide (b < W.heap.size)) true 34 v1 d1 p1 := fun W' hx =>
    Below.trod Try.laidOut' (by kernel_rfl) (of_decide_eq_true (by kernel_rfl)) h1 hx (fun x hx => hlt x (List.mem_append.2 (.inr hx)))
  have hr : ∃ rs, RulesOf W v0 rs := by
    obtain ⟨a0, n0, c0, rfl⟩ := okWide_slice Try.underlying22 (hval 0 22 v0 rfl rfl)
    obtain ⟨f0, g0⟩ := h0
    exact open_rules g0
  obtain ⟨b, hv1⟩ : ∃ b : Ad, v1 = .agg #[.int .i64 b.1, .int .i64 b.2] := by
    obtain ⟨k0, k1, z0, z1, n, rfl, rfl, rfl, hz0, hz1⟩ := open_agg2 Try.underlying34 (by kernel_rfl) Try.cells34 (hval 1 34 v1 rfl rfl) h1
    obtain ⟨c, e2, rfl, wc⟩ := DataW.trod_int Try.underlying3 hz0
    obtain ⟨d, e3, rfl, wd⟩ := DataW.trod_int Try.underlying3 hz1
    simp at e2 e3
    subst e2 e3
    exact ⟨(c, d), rfl⟩
  clear hA0 hval0 hval hA h0 h1
  obtain ⟨rs, k0⟩ := hr
  have hcall : Calls Try.prog 6 #[v0, v1] W fun e w' => e = .returned (.bool true) ∧ Xt W w' := by rw [hv1]; exact hang6_any v0 rs b W k0
  clear hv1 k0
  refine hcall.mono fun e W' ⟨he, hx⟩ => ?_
  subst he
  exact ⟨_, rfl, _, _, _, [], _, [], hW', trodAll_mk1 (shut_bool Try.underlying4 _), trodAll_mk2 (harg0 W' hx) (harg1 W' hx), rfl, Below.frame hx _, fun h => by cases h⟩

theorem linksHang_holds : Rows.LinksHangSaid :=
  OpenClaim.holds_of_wide 6 Try.f6 rfl rfl rfl rfl rfl rfl rfl ⟨rfl, rfl, rfl, rfl, rfl⟩ rfl rfl rfl rfl rfl (by kernel_rfl) Try.func6 (by kernel_rfl)
    (of_decide_eq_true (by kernel_rfl)) (by unfold Func.isWrapper; first | (rw [if_pos (by decide +kernel)]; kernel_rfl) | (rw [if_neg (by decide +kernel)]; exact ⟨rfl, rfl⟩))
    (fun os started H enc _ => linksHang_lifted os started H enc)
#print axioms linksHang_holds
end Go.Proofs.Ytagfgkcipomopaa
