/- quadrillelaw22.MoveRefuses returns true for every input, and what is handed in reads afterwards as it read before; its row is tied to the program's text, which lays the two listed variables; no other condition. -/
import Derived.Test.YtdoeejhdenifpaaGreatDoorA5
import Derived.Test.YtdoeejhdenifpaaGreatDoorT11
import Derived.Test.YtdoeejhdenifpaaGreatDoorA17
import Derived.OpenShut
namespace Go.Proofs.YtdoeejhdenifpaaGreatDoor
open Go.ChangeShapes Go.WideShapes Go.ChangeAt Go.RowKit Go.Joins Go.Deep Go.Shelf
set_option maxRecDepth 100000 in
set_option maxHeartbeats 2000000 in
theorem moveRefuses_lifted (os : Os) (started : os.Started) (H : Type) (enc : TypeId × Value → H) :
    ReturnsInHanded {} Tryz.checked os 7 .any (fun w args => (Rows.moveRefusesSpec.pre enc Tryz.prog Tryz.f7 [] false w args ∧ laidMetH Tryz.prog laidL w) ∧ sizedMet enc Tryz.prog Tryz.f7 (OpenSpec.ofChange Rows.moveRefusesSpec) false w args)
     (Rows.moveRefusesSpec.post enc Tryz.prog Tryz.f7 false true false false) := by
 refine returnsInHanded_of_change_and (C := Tryz.checked) (X := fun w _ => laidMetH Tryz.prog laidL w) (fun _ _ _ hh h => h.of_heap hh) Tryz.own' started (by kernel_rfl) Tryz.func7
  (ChangeSpec.witness_at (enc := enc) (C := Tryz.checked) (os := os) (X := fun w _ => laidMetH Tryz.prog laidL w) false (laidWorld os) #[.slice none 0 0, .agg #[.int .i64 0, .int .i64 0, .int .i64 0, .int .i64 0, .int .i64 0, .int .i64 0, .int .i64 0, .int .i64 0, .int .i64 0]] 8 rfl (by kernel_rfl) (by kernel_rfl) (by kernel_rfl) (by kernel_rfl) (by kernel_rfl) (laid_metH os _)) ?_
 intro W base args ds gs before hval0 hW _ hZ hL _
 have hval : ∀ (j : Nat) t v, Tryz.f7.params[j]? = some t → args[j]? = some v → Value.okWide Tryz.prog W .any base t v := hval0
 have hW' := hW
 obtain ⟨p, q, hA0, hV, rfl, _, _⟩ := hW
 have hA : DataW.TrodAll enc Tryz.prog W 0 (fun _ => true) true Tryz.f7.params.toList args.toList ds p := hA0
 rw [Tryz.params7] at hA hval
 obtain ⟨v1, v2, d1, d2, p1, p2, rfl, rfl, rfl, h1, h2⟩ := trodAll_two hA
 obtain ⟨rfl, rfl⟩ := trodVars_none hV
 have hz : ∀ q ∈ d1.weights Tryz.prog 22, q ≤ reachBytes := by
  intro q hq
  have := List.all_eq_true.1 hZ q (by
   rw [Tryz.params7]
   simp only [List.cons_append, List.nil_append, DataW.weightsEach, List.mem_append]
   exact Or.inl hq)
  simpa using this
 obtain ⟨l, hl, hls⟩ : ∃ l, PutsIn W v1 l ∧ ∀ x ∈ l, smallT x.c.t := by
  obtain ⟨a0, n0, c0, rfl⟩ := okWide_slice Tryz.underlying22 (hval 0 22 v1 rfl rfl)
  obtain ⟨f, hf⟩ := h1
  exact open_puts (by simpa [Value.cells] using hf) hz
 obtain ⟨cs, rfl, _⟩ := okWide_struct Tryz.underlying28 (hval 1 28 v2 rfl rfl)
 obtain ⟨kk, aa, nn, f, g, hcs, hbd, hkk, haa, hnn⟩ : ∃ (kk aa nn : Int) (f : ArT) (g : Ad), cs.toList = [.int .i64 kk, .int .i64 aa, .int .i64 nn, .int .i64 f.a, .int .i64 f.b, .int .i64 f.c, .int .i64 f.d, .int .i64 g.1, .int .i64 g.2] ∧ (I64 f.a ∧ I64 f.b ∧ I64 f.c ∧ I64 f.d ∧ I64 g.1 ∧ I64 g.2) ∧ I64 kk ∧ I64 aa ∧ I64 nn := by
  obtain ⟨fu, hf⟩ := h2
  exact open_step (by simpa [Value.cells] using hf)
 obtain rfl : cs = #[.int .i64 kk, .int .i64 aa, .int .i64 nn, .int .i64 f.a, .int .i64 f.b, .int .i64 f.c, .int .i64 f.d, .int .i64 g.1, .int .i64 g.2] := by cases cs; simp_all
 clear hcs
 have hT : Tabs W := tabs_of hL
 clear hA0 hval0 hval hA hz hZ
 simp only [List.append_nil] at hW'
 have hlt : ∀ x ∈ p1 ++ p2, x.block < W.heap.size := fun x hx => by simpa using hW'.lt x (by simpa using hx)
 have harg1 : ∀ W', Xt W W' → DataW.Trod enc Tryz.prog W' 0 (fun b => decide (b < W.heap.size)) true 22 _ d1 p1 := fun W' hx =>
  Below.trod Tryz.laidOut' (by kernel_rfl) (of_decide_eq_true (by kernel_rfl)) h1 hx (fun x hx => hlt x (by simp [hx]))
 have harg2 : ∀ W', Xt W W' → DataW.Trod enc Tryz.prog W' 0 (fun b => decide (b < W.heap.size)) true 28 _ d2 p2 := fun W' hx =>
  Below.trod Tryz.laidOut' (by kernel_rfl) (of_decide_eq_true (by kernel_rfl)) h2 hx (fun x hx => hlt x (by simp [hx]))
 refine (moveRefuses_any l v1 kk aa nn f g W hT hl hls hbd haa hnn).mono fun e W' ⟨he, hx⟩ => ?_
 subst he
 exact ⟨_, rfl, _, _, _, [], _, [], hW', trodAll_mk1 (shut_bool Tryz.underlying4 _), trodAll_cons_mk (harg1 W' hx) (trodAll_cons_mk (harg2 W' hx) trodAll_mk0), rfl, Below.frame hx _, fun h => by cases h⟩
theorem moveRefuses_row : Rows.MoveRefusesSaid :=
 OpenClaim.holds_of_wide 7 Tryz.f7 rfl rfl rfl rfl rfl rfl rfl ⟨rfl, rfl, rfl, rfl, rfl⟩ rfl rfl rfl rfl rfl (by kernel_rfl) Tryz.func7 (by kernel_rfl)
  (of_decide_eq_true (by kernel_rfl)) (by unfold Func.isWrapper; rw [if_neg (of_decide_eq_false (by kernel_rfl))]; exact ⟨rfl, rfl⟩)
  (fun os started H enc _ => moveRefuses_lifted os started H enc)
theorem moveRefuses_holds : Rows.MoveRefusesCardSaid :=
 Claim7.holds_tied_plain_at .later [] [.data, .pinned] true _ true
  moveRefuses_row (fun _ h => by cases h) (by kernel_rfl) (fun _ h => by cases h) moveRefuses_row_tie rfl ⟨rfl, rfl⟩ (by kernel_rfl) rfl
  (fun f fn hf hfn => by
   obtain rfl : f = 7 := Option.some.inj ((show Tryz.prog.funcNamed "quadrille/quadrillelaw22.MoveRefuses" = some 7 by kernel_rfl).symm.trans hf) |>.symm
   obtain rfl : fn = Tryz.f7 := (Option.some.inj (Tryz.func7.symm.trans hfn)).symm
   exact ⟨by kernel_rfl, fun j t ht => by
    rw [Tryz.params7] at ht
    have h3 : t = 22 ∨ t = 28 := by
     rcases j with _ | _ | j
     · exact Or.inl (by simpa using ht.symm)
     · exact Or.inr (by simpa using ht.symm)
     · simp at ht
    rcases h3 with rfl | rfl
    · exact (show Tryz.prog.wantsStandIn 22 = false by kernel_rfl)
    · exact (show Tryz.prog.wantsStandIn 28 = false by kernel_rfl)⟩)
  (by kernel_rfl)
#print axioms moveRefuses_holds
end Go.Proofs.YtdoeejhdenifpaaGreatDoor
