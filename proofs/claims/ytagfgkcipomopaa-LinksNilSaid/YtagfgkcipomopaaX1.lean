/- quadrillelaw18.LinksNil returns true for every input, and each argument reads afterwards as it read before; no condition. -/
import Derived.Test.YtagfgkcipomopaaRows
import Derived.Test.YtagfgkcipomopaaW15
import Derived.ProofKit
import Derived.Lib.SmallJoins
namespace Go.Proofs.Ytagfgkcipomopaa
open Go.ChangeShapes Go.WideShapes Go.ChangeAt Go.RowKit Go.Joins

theorem Try.own' : ownKnob Try.prog.godebug = none := by kernel_rfl
theorem Try.laidOut' : laidOutB Try.prog = true := by kernel_rfl
theorem Try.cells34 : Try.prog.cellsOf 34 = 2 := by kernel_rfl

set_option maxHeartbeats 800000 in
set_option maxRecDepth 100000 in
theorem linksNil_lifted (os : Os) (started : os.Started) (H : Type) (enc : TypeId × Value → H) :
    ReturnsInHanded {} Try.checked os 8 .any (Rows.linksNilSpec.pre6 enc Try.prog Try.f8 Rows.linksNilRow.domain false) (Rows.linksNilSpec.post enc Try.prog Try.f8 false true false false) := by
  refine returnsInHanded_of_change (C := Try.checked) Try.own' started (by kernel_rfl) Try.func8
    (ChangeSpec.witness6 (enc := enc) (C := Try.checked) false ⟨#[], #[.agg #[.int .i64 0, .int .i64 0], .slice none 0 0], []⟩ 8 (by kernel_rfl) (by kernel_rfl) (by kernel_rfl) (by kernel_rfl)) ?_
  intro W base args ds gs before hval0 hW _ _
  have hval : ∀ (j : Nat) t v, Try.f8.params[j]? = some t → args[j]? = some v → Value.okWide Try.prog W .any base t v := hval0
  have hW' := hW
  obtain ⟨p, q, hA0, hV, rfl, _, _⟩ := hW
  have hA : DataW.TrodAll enc Try.prog W 0 (fun _ => true) true Try.f8.params.toList args.toList ds p := hA0
  rw [Try.params8] at hA hval
  obtain ⟨v0, v1, d0, d1, p0, p1, rfl, rfl, rfl, h0, h1⟩ := trodAll_two hA
  obtain ⟨rfl, rfl⟩ := trodVars_none hV
  simp only [List.append_nil] at hW'
  have hlt : ∀ x ∈ p0 ++ p1, x.block < W.heap.size := fun x hx => by simpa using hW'.lt x hx
  have harg0 : ∀ W', Xt W W' → DataW.Trod enc Try.prog W' 0 (fun b => decide (b < W.heap.size)) true 34 v0 d0 p0 := fun W' hx =>
    Below.trod Try.laidOut' (by kernel_rfl) (of_decide_eq_true (by kernel_rfl)) h0 hx (fun x hx => hlt x (List.mem_append.2 (.inl hx)))
  have harg1 : ∀ W', Xt W W' → DataW.Trod enc Try.prog W' 0 (fun b => decide (b < W.heap.size)) true 23 v1 d1 p1 := fun W' hx =>
    Below.trod Try.laidOut' (by kernel_rfl) (of_decide_eq_true (by kernel_rfl)) h1 hx (fun x hx => hlt x (List.mem_append.2 (.inr hx)))
  obtain ⟨c0, c1, hv⟩ : ∃ a b : Int, v0 = .agg #[.int .i64 a, .int .i64 b] := by
    obtain ⟨c0, c1, y0, y1, m, rfl, rfl, rfl, hy0, hy1⟩ := open_agg2 Try.underlying34 (by kernel_rfl) Try.cells34 (hval 0 34 v0 rfl rfl) h0
    obtain ⟨a, e0, rfl, wa⟩ := DataW.trod_int Try.underlying3 hy0
    obtain ⟨b, e1, rfl, wb⟩ := DataW.trod_int Try.underlying3 hy1
    simp at e0 e1
    subst e0 e1
    exact ⟨_, _, rfl⟩
  clear hA0 hval0 hval hA h0 h1
  have hcall : Calls Try.prog 8 #[v0, v1] W fun e w' => e = .returned (.bool true) ∧ Xt W w' := by rw [hv]; exact nil8_any (c0, c1) v1 W
  clear hv
  refine hcall.mono fun e W' ⟨he, hx⟩ => ?_
  subst he
  exact ⟨_, rfl, _, _, _, [], _, [], hW', trodAll_mk1 (shut_bool Try.underlying4 _), trodAll_mk2 (harg0 W' hx) (harg1 W' hx), rfl, Below.frame hx _, fun h => by cases h⟩

theorem linksNil_holds : Rows.LinksNilSaid :=
  OpenClaim.holds_of_wide 8 Try.f8 rfl rfl rfl rfl rfl rfl rfl ⟨rfl, rfl, rfl, rfl, rfl⟩ rfl rfl rfl rfl rfl (by kernel_rfl) Try.func8 (by kernel_rfl)
    (of_decide_eq_true (by kernel_rfl)) (by unfold Func.isWrapper; first | (rw [if_pos (by decide +kernel)]; kernel_rfl) | (rw [if_neg (by decide +kernel)]; exact ⟨rfl, rfl⟩))
    (fun os started H enc _ => linksNil_lifted os started H enc)
#print axioms linksNil_holds
end Go.Proofs.Ytagfgkcipomopaa
