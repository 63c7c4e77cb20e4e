/- quadrillelaw17.GridBack returns true for every input, and each argument reads afterwards as it read before; its row is tied to the program's text, which lays the two listed variables; no other condition. -/
import Derived.Test.YtfpdleljhbkehaaDoorA9
import Derived.Test.YtfpdleljhbkehaaDoorW50
import Derived.OpenShut
namespace Go.Proofs.YtfpdleljhbkehaaDoor
open Go.ChangeShapes Go.WideShapes Go.ChangeAt Go.RowKit Go.Joins Go.Deep Go.Shelf

set_option maxRecDepth 100000 in
set_option maxHeartbeats 2000000 in
theorem gridBack_lifted (os : Os) (started : os.Started) (H : Type) (enc : TypeId × Value → H) :
    ReturnsInHanded {} Tryd.checked os 4 .any (fun w args => (Rows.gridBackSpec.pre enc Tryd.prog Tryd.f4 [] false w args ∧ laidMetH Tryd.prog laidL w) ∧ sizedMet enc Tryd.prog Tryd.f4 (OpenSpec.ofChange Rows.gridBackSpec) false w args)
      (Rows.gridBackSpec.post enc Tryd.prog Tryd.f4 false true false false) := by
  refine returnsInHanded_of_change_and (C := Tryd.checked) (X := fun w _ => laidMetH Tryd.prog laidL w) (fun _ _ _ hh h => h.of_heap hh) Tryd.own' started (by kernel_rfl) Tryd.func4
    (ChangeSpec.witness_at (enc := enc) (C := Tryd.checked) (os := os) (X := fun w _ => laidMetH Tryd.prog laidL w) false (laidWorld os) #[.slice none 0 0, .slice none 0 0, .slice none 0 0] 8 rfl (by kernel_rfl) (by kernel_rfl) (by kernel_rfl) (by kernel_rfl) (by kernel_rfl) (laid_metH os _)) ?_
  intro W base args ds gs before hval0 hW _ _ hL _
  have hval : ∀ (j : Nat) t v, Tryd.f4.params[j]? = some t → args[j]? = some v → Value.okWide Tryd.prog W .any base t v := hval0
  have hW' := hW
  obtain ⟨p, q, hA0, hV, rfl, _, _⟩ := hW
  have hA : DataW.TrodAll enc Tryd.prog W 0 (fun _ => true) true Tryd.f4.params.toList args.toList ds p := hA0
  rw [Tryd.params4] at hA hval
  obtain ⟨v0, v1, v2, d0, d1, d2, p0, p1, p2, rfl, rfl, rfl, h0, h1, h2⟩ := trodAll_three hA
  obtain ⟨rfl, rfl⟩ := trodVars_none hV
  obtain ⟨l, hl⟩ : ∃ l, PutsIn W v0 l := by
    obtain ⟨a0, n0, c0, rfl⟩ := okWide_slice Tryd.underlying44 (hval 0 44 v0 rfl rfl)
    obtain ⟨f, hf⟩ := h0
    exact open_puts (by simpa [Value.cells] using hf)
  obtain ⟨k, hk⟩ : ∃ k, PutsIn W v1 k := by
    obtain ⟨a0, n0, c0, rfl⟩ := okWide_slice Tryd.underlying44 (hval 1 44 v1 rfl rfl)
    obtain ⟨f, hf⟩ := h1
    exact open_puts (by simpa [Value.cells] using hf)
  obtain ⟨od, ho, hob⟩ : ∃ od, SlOf W inC 1 v2 od ∧ ∀ x ∈ od, -9223372036854775808 ≤ x ∧ x ≤ 9223372036854775807 := by
    obtain ⟨a0, n0, c0, rfl⟩ := okWide_slice Tryd.underlying45 (hval 2 45 v2 rfl rfl)
    obtain ⟨f, hf⟩ := h2
    exact open_nums (by simpa [Value.cells] using hf)
  have hT : Tabs W := tabs_of hL
  clear hA0 hval0 hval hA
  simp only [List.append_nil] at hW'
  have hlt : ∀ x ∈ p0 ++ (p1 ++ p2), x.block < W.heap.size := fun x hx => by simpa using hW'.lt x (by simpa using hx)
  have harg0 : ∀ W', Xt W W' → DataW.Trod enc Tryd.prog W' 0 (fun b => decide (b < W.heap.size)) true 44 _ d0 p0 := fun W' hx =>
    Below.trod Tryd.laidOut' (by kernel_rfl) (of_decide_eq_true (by kernel_rfl)) h0 hx (fun x hx => hlt x (by simp [hx]))
  have harg1 : ∀ W', Xt W W' → DataW.Trod enc Tryd.prog W' 0 (fun b => decide (b < W.heap.size)) true 44 _ d1 p1 := fun W' hx =>
    Below.trod Tryd.laidOut' (by kernel_rfl) (of_decide_eq_true (by kernel_rfl)) h1 hx (fun x hx => hlt x (by simp [hx]))
  have harg2 : ∀ W', Xt W W' → DataW.Trod enc Tryd.prog W' 0 (fun b => decide (b < W.heap.size)) true 45 _ d2 p2 := fun W' hx =>
    Below.trod Tryd.laidOut' (by kernel_rfl) (of_decide_eq_true (by kernel_rfl)) h2 hx (fun x hx => hlt x (by simp [hx]))
  refine (gridBack_any l k od v0 v1 v2 W hT hl hk ho hob).mono fun e W' ⟨he, hx⟩ => ?_
  subst he
  exact ⟨_, rfl, _, _, _, [], _, [], hW', trodAll_mk1 (shut_bool Tryd.underlying4 _), trodAll_cons_mk (harg0 W' hx) (trodAll_cons_mk (harg1 W' hx) (trodAll_cons_mk (harg2 W' hx) trodAll_mk0)), rfl, Below.frame hx _, fun h => by cases h⟩
theorem gridBack_row : Rows.GridBackSaid :=
  OpenClaim.holds_of_wide 4 Tryd.f4 rfl rfl rfl rfl rfl rfl rfl ⟨rfl, rfl, rfl, rfl, rfl⟩ rfl rfl rfl rfl rfl (by kernel_rfl) Tryd.func4 (by kernel_rfl)
    (of_decide_eq_true (by kernel_rfl)) (by unfold Func.isWrapper; rw [if_neg (of_decide_eq_false (by kernel_rfl))]; exact ⟨rfl, rfl⟩)
    (fun os started H enc _ => gridBack_lifted os started H enc)
theorem gridBack_holds : Rows.GridBackCardSaid :=
  Claim7.holds_tied_plain_at .later [] [.data, .pinned] true _ true
    gridBack_row (fun _ h => by cases h) (by kernel_rfl) (fun _ h => by cases h) gridBack_row_tie rfl ⟨rfl, rfl⟩ (by kernel_rfl) rfl
    (fun f fn hf hfn => by
      obtain rfl : f = 4 := Option.some.inj ((show Tryd.prog.funcNamed "quadrille/quadrillelaw17.GridBack" = some 4 by kernel_rfl).symm.trans hf) |>.symm
      obtain rfl : fn = Tryd.f4 := (Option.some.inj (Tryd.func4.symm.trans hfn)).symm
      exact ⟨by kernel_rfl, fun j t ht => by
        rw [Tryd.params4] at ht
        have h3 : t = 44 ∨ t = 45 := by
          rcases j with _ | _ | _ | j
          · exact Or.inl (by simpa using ht.symm)
          · exact Or.inl (by simpa using ht.symm)
          · exact Or.inr (by simpa using ht.symm)
          · simp at ht
        rcases h3 with rfl | rfl
        · exact (show Tryd.prog.wantsStandIn 44 = false by kernel_rfl)
        · exact (show Tryd.prog.wantsStandIn 45 = false by kernel_rfl)⟩)
    (by kernel_rfl)
#print axioms gridBack_holds
end Go.Proofs.YtfpdleljhbkehaaDoor
