/- quadrillelaw17.GridContents returns true for every input, and each argument reads afterwards as it read before; its row is tied to the program's text, which lays the two listed variables; no other condition. -/
import Derived.Test.YtfpdleljhbkehaaGreatDoorB11
import Derived.Test.YtfpdleljhbkehaaGreatDoorV22
import Derived.OpenShut
namespace Go.Proofs.YtfpdleljhbkehaaGreatDoor
open Go.ChangeShapes Go.WideShapes Go.ChangeAt Go.RowKit Go.Joins Go.Deep Go.Shelf

theorem ArgsIn.le {w : World} {n m : Nat} {av : Value} {l : List NodeT} (h : ArgsIn w n av l) (hnm : n ≤ m) : ArgsIn w m av l := by
  obtain ⟨k, rfl⟩ := Nat.exists_eq_add_of_le hnm
  induction k with
  | zero => exact h
  | succ k ih => exact (ih (by omega)).up
set_option maxRecDepth 100000 in
set_option maxHeartbeats 2000000 in
theorem gridContents_lifted (os : Os) (started : os.Started) (H : Type) (enc : TypeId × Value → H) :
    ReturnsInHanded {} Tryz.checked os 3 .any (fun w args => (Rows.gridContentsSpec.pre enc Tryz.prog Tryz.f3 [] false w args ∧ laidMetH Tryz.prog laidL w) ∧ sizedMet enc Tryz.prog Tryz.f3 (OpenSpec.ofChange Rows.gridContentsSpec) false w args)
      (Rows.gridContentsSpec.post enc Tryz.prog Tryz.f3 false true false false) := by
  refine returnsInHanded_of_change_and (C := Tryz.checked) (X := fun w _ => laidMetH Tryz.prog laidL w) (fun _ _ _ hh h => h.of_heap hh) Tryz.own' started (by kernel_rfl) Tryz.func3
    (ChangeSpec.witness_at (enc := enc) (C := Tryz.checked) (os := os) (X := fun w _ => laidMetH Tryz.prog laidL w) false (laidWorld os) #[zeroV, zeroV] 8 rfl (by kernel_rfl) (by kernel_rfl) (by kernel_rfl) (by kernel_rfl) (by kernel_rfl) (laid_metH os _)) ?_
  intro W base args ds gs before hval0 hW _ hZ hL _
  have hval : ∀ (j : Nat) t v, Tryz.f3.params[j]? = some t → args[j]? = some v → Value.okWide Tryz.prog W .any base t v := hval0
  have hW' := hW
  obtain ⟨p, q, hA0, hV, rfl, _, _⟩ := hW
  have hA : DataW.TrodAll enc Tryz.prog W 0 (fun _ => true) true Tryz.f3.params.toList args.toList ds p := hA0
  rw [Tryz.params3] at hA hval
  obtain ⟨v1, v2, d1, d2, p1, p2, rfl, rfl, rfl, h1, h2⟩ := trodAll_two hA
  obtain ⟨rfl, rfl⟩ := trodVars_none hV
  have hz : ∀ q ∈ d1.weights Tryz.prog 33 ++ d2.weights Tryz.prog 33, q ≤ reachBytes := by
    intro q hq
    have := List.all_eq_true.1 hZ q (by
      have h := List.mem_append.1 hq
      rw [Tryz.params3]
      simp [DataW.weightsEach]
      exact h)
    simpa using this
  obtain ⟨c, ca, capc, nc, rfl, hic, hoc⟩ := open_con (hval 0 33 v1 rfl rfl) h1 (fun q hq => hz q (by simp [hq]))
  obtain ⟨d, da, capd, nd, rfl, hid, hod⟩ := open_con (hval 1 33 v2 rfl rfl) h2 (fun q hq => hz q (by simp [hq]))
  have hT : Tabs W := tabs_of hL
  clear hA0 hval0 hval hA hz hZ
  simp only [List.append_nil] at hW'
  have hlt : ∀ x ∈ p1 ++ p2, x.block < W.heap.size := fun x hx => by simpa using hW'.lt x (by simpa using hx)
  have harg1 : ∀ W', Xt W W' → DataW.Trod enc Tryz.prog W' 0 (fun b => decide (b < W.heap.size)) true 33 _ d1 p1 := fun W' hx =>
    Below.trod Tryz.laidOut' (by kernel_rfl) (of_decide_eq_true (by kernel_rfl)) h1 hx (fun x hx => hlt x (by simp [hx]))
  have harg2 : ∀ W', Xt W W' → DataW.Trod enc Tryz.prog W' 0 (fun b => decide (b < W.heap.size)) true 33 _ d2 p2 := fun W' hx =>
    Below.trod Tryz.laidOut' (by kernel_rfl) (of_decide_eq_true (by kernel_rfl)) h2 hx (fun x hx => hlt x (by simp [hx]))
  refine (gridContents_any (nc + nd) c d ca da capc capd W hT hoc hod (hic.le (by omega)) (hid.le (by omega))).mono fun e W' ⟨he, hx⟩ => ?_
  subst he
  exact ⟨_, rfl, _, _, _, [], _, [], hW', trodAll_mk1 (shut_bool Tryz.underlying4 _), trodAll_cons_mk (harg1 W' hx) (trodAll_cons_mk (harg2 W' hx) trodAll_mk0), rfl, Below.frame hx _, fun h => by cases h⟩
theorem gridContents_row : Rows.GridContentsSaid :=
  OpenClaim.holds_of_wide 3 Tryz.f3 rfl rfl rfl rfl rfl rfl rfl ⟨rfl, rfl, rfl, rfl, rfl⟩ rfl rfl rfl rfl rfl (by kernel_rfl) Tryz.func3 (by kernel_rfl)
    (of_decide_eq_true (by kernel_rfl)) (by unfold Func.isWrapper; rw [if_neg (of_decide_eq_false (by kernel_rfl))]; exact ⟨rfl, rfl⟩)
    (fun os started H enc _ => gridContents_lifted os started H enc)
theorem gridContents_holds : Rows.GridContentsCardSaid :=
  Claim7.holds_tied_plain_at .later [] [.data, .pinned] true _ true
    gridContents_row (fun _ h => by cases h) (by kernel_rfl) (fun _ h => by cases h) gridContents_row_tie rfl ⟨rfl, rfl⟩ (by kernel_rfl) rfl
    (fun f fn hf hfn => by
      obtain rfl : f = 3 := Option.some.inj ((show Tryz.prog.funcNamed "quadrille/quadrillelaw17.GridContents" = some 3 by kernel_rfl).symm.trans hf) |>.symm
      obtain rfl : fn = Tryz.f3 := (Option.some.inj (Tryz.func3.symm.trans hfn)).symm
      exact ⟨by kernel_rfl, fun j t ht => by
        rw [Tryz.params3] at ht
        have h3 : t = 33 := by
          rcases j with _ | _ | j
          · simpa using ht.symm
          · simpa using ht.symm
          · simp at ht
        subst h3
        exact (show Tryz.prog.wantsStandIn 33 = false by kernel_rfl)⟩)
    (by kernel_rfl)
#print axioms gridContents_holds
end Go.Proofs.YtfpdleljhbkehaaGreatDoor
