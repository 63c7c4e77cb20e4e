/- quadrillelaw17.GridNil returns true for every input, and each argument reads afterwards as it read before; its row is tied to the program's text, which lays the two listed variables; no other condition. -/
import Derived.Test.YtfpdleljhbkehaaDoorA9
import Derived.Test.YtfpdleljhbkehaaDoorW42
import Derived.OpenShut
namespace Go.Proofs.YtfpdleljhbkehaaDoor
open Go.ChangeShapes Go.WideShapes Go.ChangeAt Go.RowKit Go.Joins Go.Deep Go.Shelf

set_option maxRecDepth 100000 in
theorem open_ar {H : Type} {enc : TypeId × Value → H} {W : World} {v : Value} {d : DataW H} {p : List MemPlace} {base : Nat} (hv : Value.okWide Tryd.prog W .any base 55 v) (h : DataW.Trod enc Tryd.prog W 0 (fun _ => true) true 55 v d p) : ∃ x : Ar, v = arV x := by
  obtain ⟨cs, rfl, _⟩ := okWide_struct Tryd.underlying55 hv
  obtain ⟨f, hf⟩ := h
  obtain ⟨y0, y1, m, hx, hl, h0, h1⟩ := trod_struct2 Tryd.underlying55 hf
  rw [show Tryd.prog.cellsOf 55 = 4 by kernel_rfl] at hl
  have hl' : cs.toList.length = 4 := by simpa [Value.cells] using hl
  obtain ⟨cs⟩ := cs
  match cs, hl' with
  | [c0, c1, c2, c3], _ =>
    obtain ⟨a, ea⟩ := open_ad (show DataW.trod enc Tryd.prog W 0 (fun _ => true) true m 26 [c0, c1] = some y0 by simpa [Tryd.cellsAddr, Value.cells] using h0)
    obtain ⟨b, eb⟩ := open_ad (show DataW.trod enc Tryd.prog W 0 (fun _ => true) true m 26 [c2, c3] = some y1 by simpa [Tryd.cellsAddr, Value.cells] using h1)
    simp only [adC, List.cons.injEq, and_true] at ea eb
    obtain ⟨rfl, rfl⟩ := ea
    obtain ⟨rfl, rfl⟩ := eb
    exact ⟨(a, b), rfl⟩
set_option maxRecDepth 100000 in
theorem open_adr {H : Type} {enc : TypeId × Value → H} {W : World} {v : Value} {d : DataW H} {p : List MemPlace} {base : Nat} (hv : Value.okWide Tryd.prog W .any base 26 v) (h : DataW.Trod enc Tryd.prog W 0 (fun _ => true) true 26 v d p) : ∃ x : Ad, v = adW x := by
  obtain ⟨cs, rfl, _⟩ := okWide_struct Tryd.underlying26 hv
  obtain ⟨f, hf⟩ := h
  obtain ⟨a, ea⟩ := open_ad hf
  obtain ⟨cs⟩ := cs
  have : cs = adC a := by simpa [Value.cells] using ea
  exact ⟨a, by rw [this]; rfl⟩
set_option maxRecDepth 100000 in
set_option maxHeartbeats 2000000 in
theorem gridNil_lifted (os : Os) (started : os.Started) (H : Type) (enc : TypeId × Value → H) :
    ReturnsInHanded {} Tryd.checked os 5 .any (fun w args => (Rows.gridNilSpec.pre enc Tryd.prog Tryd.f5 [] false w args ∧ laidMetH Tryd.prog laidL w) ∧ sizedMet enc Tryd.prog Tryd.f5 (OpenSpec.ofChange Rows.gridNilSpec) false w args)
      (Rows.gridNilSpec.post enc Tryd.prog Tryd.f5 false true false false) := by
  refine returnsInHanded_of_change_and (C := Tryd.checked) (X := fun w _ => laidMetH Tryd.prog laidL w) (fun _ _ _ hh h => h.of_heap hh) Tryd.own' started (by kernel_rfl) Tryd.func5
    (ChangeSpec.witness_at (enc := enc) (C := Tryd.checked) (os := os) (X := fun w _ => laidMetH Tryd.prog laidL w) false (laidWorld os) #[adW (0, 0), zeroV, arV ((0, 0), (0, 0))] 8 rfl (by kernel_rfl) (by kernel_rfl) (by kernel_rfl) (by kernel_rfl) (by kernel_rfl) (laid_metH os _)) ?_
  intro W base args ds gs before hval0 hW _ _ hL _
  have hval : ∀ (j : Nat) t v, Tryd.f5.params[j]? = some t → args[j]? = some v → Value.okWide Tryd.prog W .any base t v := hval0
  have hW' := hW
  obtain ⟨p, q, hA0, hV, rfl, _, _⟩ := hW
  have hA : DataW.TrodAll enc Tryd.prog W 0 (fun _ => true) true Tryd.f5.params.toList args.toList ds p := hA0
  rw [Tryd.params5] at hA hval
  obtain ⟨v0, v1, v2, d0, d1, d2, p0, p1, p2, rfl, rfl, rfl, h0, h1, h2⟩ := trodAll_three hA
  obtain ⟨rfl, rfl⟩ := trodVars_none hV
  obtain ⟨at_, rfl⟩ := open_adr (hval 0 26 v0 rfl rfl) h0
  obtain ⟨c, ca, capc, nc, rfl, hic, hoc⟩ := open_con (hval 1 33 v1 rfl rfl) h1
  obtain ⟨x, rfl⟩ := open_ar (hval 2 55 v2 rfl rfl) h2
  have hT : Tabs W := tabs_of hL
  clear hA0 hval0 hval hA
  simp only [List.append_nil] at hW'
  have hlt : ∀ x ∈ p0 ++ (p1 ++ p2), x.block < W.heap.size := fun x hx => by simpa using hW'.lt x (by simpa using hx)
  have harg0 : ∀ W', Xt W W' → DataW.Trod enc Tryd.prog W' 0 (fun b => decide (b < W.heap.size)) true 26 _ d0 p0 := fun W' hx =>
    Below.trod Tryd.laidOut' (by kernel_rfl) (of_decide_eq_true (by kernel_rfl)) h0 hx (fun x hx => hlt x (by simp [hx]))
  have harg1 : ∀ W', Xt W W' → DataW.Trod enc Tryd.prog W' 0 (fun b => decide (b < W.heap.size)) true 33 _ d1 p1 := fun W' hx =>
    Below.trod Tryd.laidOut' (by kernel_rfl) (of_decide_eq_true (by kernel_rfl)) h1 hx (fun x hx => hlt x (by simp [hx]))
  have harg2 : ∀ W', Xt W W' → DataW.Trod enc Tryd.prog W' 0 (fun b => decide (b < W.heap.size)) true 55 _ d2 p2 := fun W' hx =>
    Below.trod Tryd.laidOut' (by kernel_rfl) (of_decide_eq_true (by kernel_rfl)) h2 hx (fun x hx => hlt x (by simp [hx]))
  refine (nil_any nc at_ c x ca capc W hT hic).mono fun e W' ⟨he, hx⟩ => ?_
  subst he
  exact ⟨_, rfl, _, _, _, [], _, [], hW', trodAll_mk1 (shut_bool Tryd.underlying4 _), trodAll_cons_mk (harg0 W' hx) (trodAll_cons_mk (harg1 W' hx) (trodAll_cons_mk (harg2 W' hx) trodAll_mk0)), rfl, Below.frame hx _, fun h => by cases h⟩
theorem gridNil_row : Rows.GridNilSaid :=
  OpenClaim.holds_of_wide 5 Tryd.f5 rfl rfl rfl rfl rfl rfl rfl ⟨rfl, rfl, rfl, rfl, rfl⟩ rfl rfl rfl rfl rfl (by kernel_rfl) Tryd.func5 (by kernel_rfl)
    (of_decide_eq_true (by kernel_rfl)) (by unfold Func.isWrapper; rw [if_neg (of_decide_eq_false (by kernel_rfl))]; exact ⟨rfl, rfl⟩)
    (fun os started H enc _ => gridNil_lifted os started H enc)
theorem gridNil_holds : Rows.GridNilCardSaid :=
  Claim7.holds_tied_plain_at .later [] [.data, .pinned] true _ true
    gridNil_row (fun _ h => by cases h) (by kernel_rfl) (fun _ h => by cases h) gridNil_row_tie rfl ⟨rfl, rfl⟩ (by kernel_rfl) rfl
    (fun f fn hf hfn => by
      obtain rfl : f = 5 := Option.some.inj ((show Tryd.prog.funcNamed "quadrille/quadrillelaw17.GridNil" = some 5 by kernel_rfl).symm.trans hf) |>.symm
      obtain rfl : fn = Tryd.f5 := (Option.some.inj (Tryd.func5.symm.trans hfn)).symm
      exact ⟨by kernel_rfl, fun j t ht => by
        rw [Tryd.params5] at ht
        have h3 : t = 26 ∨ t = 33 ∨ t = 55 := by
          rcases j with _ | _ | _ | j
          · exact Or.inl (by simpa using ht.symm)
          · exact Or.inr (Or.inl (by simpa using ht.symm))
          · exact Or.inr (Or.inr (by simpa using ht.symm))
          · simp at ht
        rcases h3 with rfl | rfl | rfl
        · exact (show Tryd.prog.wantsStandIn 26 = false by kernel_rfl)
        · exact (show Tryd.prog.wantsStandIn 33 = false by kernel_rfl)
        · exact (show Tryd.prog.wantsStandIn 55 = false by kernel_rfl)⟩)
    (by kernel_rfl)
#print axioms gridNil_holds
end Go.Proofs.YtfpdleljhbkehaaDoor
