/- quadrillelaw22.MoveThere returns true for every input whose arguments hold at most 1048576 values and letters, each counted as often as it is met, and what is handed in reads afterwards as it read before; its row is tied to the program's text, which lays the two listed variables; no other condition. -/
import Derived.Test.YtdoeejhdenifpaaGreatDoorA7
import Derived.Test.YtdoeejhdenifpaaGreatDoorA14
import Derived.Test.YtdoeejhdenifpaaGreatDoorA15
import Derived.Deep.DeepHandedRow
import Derived.OpenShut
namespace Go.Proofs.YtdoeejhdenifpaaGreatDoor
open Go.ChangeShapes Go.WideShapes Go.ChangeAt Go.RowKit Go.Joins Go.Deep Go.Shelf

theorem moveThere_reads (os : Os) {H : Type} (enc : TypeId × Value → H) : ∃ places, DataW.whole enc Tryz.prog ((laidWorld os).forCall (fun _ _ => 0) ⟨#[], #[.slice none 0 0, .agg #[.int .i64 0, .int .i64 0, .int .i64 0, .int .i64 0, .int .i64 0, .int .i64 0, .int .i64 0, .int .i64 0, .int .i64 0]], []⟩).memory Tryz.f3.params.toList Rows.moveThereSpec.vars false (#[.slice none 0 0, .agg #[.int .i64 0, .int .i64 0, .int .i64 0, .int .i64 0, .int .i64 0, .int .i64 0, .int .i64 0, .int .i64 0, .int .i64 0]] : Array Value).toList 8 = some ([.nil, .agg [.lit (.int .i64 0), .lit (.int .i64 0), .lit (.int .i64 0), .agg [.agg [.lit (.int .i64 0), .lit (.int .i64 0)], .agg [.lit (.int .i64 0), .lit (.int .i64 0)]], .agg [.lit (.int .i64 0), .lit (.int .i64 0)]]], [], places) :=
  ⟨[], by kernel_rfl⟩
set_option maxRecDepth 100000 in
set_option maxHeartbeats 2000000 in
theorem moveThere_lifted (os : Os) (started : os.Started) (H : Type) (enc : TypeId × Value → H) (F : Stop.Interp) :
    ReturnsInHanded {} Tryz.checked os 3 .any ((Rows.OpenSpec.upto Rows.moveThereSpec).preRow enc Tryz.prog Tryz.f3 Rows.moveThereUptoRow.domain false Rows.moveThereUptoRow.laid) (((Rows.OpenSpec.upto Rows.moveThereSpec).at F).post enc Tryz.prog Tryz.f3 false true false false) := by
  obtain ⟨places, hx⟩ := moveThere_reads os enc
  refine returnsInHanded_of_row (C := Tryz.checked) (s := Rows.OpenSpec.upto Rows.moveThereSpec) Tryz.own' started (by kernel_rfl) Tryz.func3
    (witness_row_at (enc := enc) (C := Tryz.checked) false (laidWorld os) #[.slice none 0 0, .agg #[.int .i64 0, .int .i64 0, .int .i64 0, .int .i64 0, .int .i64 0, .int .i64 0, .int .i64 0, .int .i64 0, .int .i64 0]] rfl (by kernel_rfl) (by kernel_rfl) (by kernel_rfl)
      (OpenSpec.preRow_of_cond 8 hx (by kernel_rfl) (fun k hk => by cases hk; kernel_rfl) (by kernel_rfl) (laid_metH os _))) ?_
  intro W base args ds gs before hval0 hW _ hcond hZ hL _ _
  have hval : ∀ (j : Nat) t v, Tryz.f3.params[j]? = some t → args[j]? = some v → Value.okWide Tryz.prog W .any base t v := hval0
  have hW' := hW
  obtain ⟨pp, qq, hA0, hV, rfl, _, _⟩ := hW
  have hA : DataW.TrodAll enc Tryz.prog W 0 (fun _ => true) true Tryz.f3.params.toList args.toList ds pp := hA0
  rw [Tryz.params3] at hA hval
  obtain ⟨v1, vs1, d1, ds1, p1, r1, hargs, rfl, rfl, h1, g1⟩ := trodAll_cons hA
  obtain ⟨v2, vs2, d2, ds2, p2, r2, rfl, rfl, rfl, h2, g2⟩ := trodAll_cons g1
  obtain ⟨rfl, rfl, rfl⟩ := trodAll_nil g2
  obtain rfl : args = #[v1, v2] := by cases args; simp_all
  obtain ⟨rfl, rfl⟩ := trodVars_none hV
  have hz : ∀ q ∈ d1.weights Tryz.prog 22, q ≤ reachBytes := by
    intro q hq
    have := List.all_eq_true.1 hZ q (by
      rw [Tryz.params3]
      simp only [List.cons_append, List.nil_append, DataW.weightsEach, List.mem_append]
      exact Or.inl hq)
    simpa using this
  have hbk : Rows.uptoBulk d1 ≤ 1048576 := by
    have h := of_decide_eq_true (hcond _ rfl)
    simp only [List.cons_append, List.nil_append, Rows.uptoBulkAll] at h
    omega
  obtain ⟨l, hl, hls, hlb⟩ : ∃ l, PutsIn W v1 l ∧ (∀ x ∈ l, smallT x.c.t) ∧ ∀ x ∈ l, (flatT x.c.t).length ≤ 1048576 := by
    obtain ⟨a0, n0, c0, rfl⟩ := okWide_slice Tryz.underlying22 (hval 0 22 v1 rfl rfl)
    obtain ⟨f, hf⟩ := h1
    exact open_putsB (by simpa [Value.cells] using hf) hz hbk
  obtain ⟨cs, rfl, _⟩ := okWide_struct Tryz.underlying28 (hval 1 28 v2 rfl rfl)
  obtain ⟨kk, aa, nn, f, g, hcs, hbd, hkk, haa, hnn⟩ : ∃ (kk aa nn : Int) (f : ArT) (g : Ad), cs.toList = [.int .i64 kk, .int .i64 aa, .int .i64 nn, .int .i64 f.a, .int .i64 f.b, .int .i64 f.c, .int .i64 f.d, .int .i64 g.1, .int .i64 g.2] ∧ (I64 f.a ∧ I64 f.b ∧ I64 f.c ∧ I64 f.d ∧ I64 g.1 ∧ I64 g.2) ∧ I64 kk ∧ I64 aa ∧ I64 nn := by
    obtain ⟨fu, hf⟩ := h2
    exact open_step (by simpa [Value.cells] using hf)
  obtain rfl : cs = #[.int .i64 kk, .int .i64 aa, .int .i64 nn, .int .i64 f.a, .int .i64 f.b, .int .i64 f.c, .int .i64 f.d, .int .i64 g.1, .int .i64 g.2] := by cases cs; simp_all
  clear hcs
  have hT : Tabs W := tabs_of hL
  have hbp : BulkP (pis l) := fun x hx => by
    obtain ⟨y, hy, rfl⟩ := List.mem_map.1 hx
    exact hlb y hy
  clear hA0 hval0 hval hA hz hZ hcond hx
  simp only [List.append_nil] at hW'
  have hlt : ∀ x ∈ p1 ++ p2, x.block < W.heap.size := fun x hx => by simpa using hW'.lt x (by simpa using hx)
  have harg1 : ∀ W', Xt W W' → DataW.Trod enc Tryz.prog W' 0 (fun b => decide (b < W.heap.size)) true 22 _ d1 p1 := fun W' hx =>
    Below.trod Tryz.laidOut' (by kernel_rfl) (of_decide_eq_true (by kernel_rfl)) h1 hx (fun x hx => hlt x (by simp [hx]))
  have harg2 : ∀ W', Xt W W' → DataW.Trod enc Tryz.prog W' 0 (fun b => decide (b < W.heap.size)) true 28 _ d2 p2 := fun W' hx =>
    Below.trod Tryz.laidOut' (by kernel_rfl) (of_decide_eq_true (by kernel_rfl)) h2 hx (fun x hx => hlt x (by simp [hx]))
  refine (moveThere_any l v1 kk aa nn f g W hT hl hls hbp hbd).mono fun e W' ⟨he, hx⟩ => ?_
  subst he
  exact ⟨_, rfl, _, _, _, [], _, [], hW', trodAll_mk1 (shut_bool Tryz.underlying4 _), trodAll_cons_mk (harg1 W' hx) (trodAll_cons_mk (harg2 W' hx) trodAll_mk0), rfl, Below.frame hx _, fun h => by cases h⟩
theorem moveThere_row : Rows.MoveThereUptoSaid :=
  OpenClaim.holds_of_cond 3 Tryz.f3 rfl rfl rfl rfl rfl rfl rfl ⟨rfl, rfl, rfl, rfl, rfl⟩ rfl rfl rfl rfl rfl (by kernel_rfl) Tryz.func3 (by kernel_rfl)
    (of_decide_eq_true (by kernel_rfl)) (by unfold Func.isWrapper; rw [if_neg (of_decide_eq_false (by kernel_rfl))]; exact ⟨rfl, rfl⟩)
    (fun os started H enc _ F => by rw [OpenClaim.pre_eq_preRow]; exact moveThere_lifted os started H enc F)
theorem moveThere_holds : Rows.MoveThereUptoCardSaid :=
  Claim7.holds_tied_plain_at .later [] _ _ _ _
    moveThere_row (fun _ h => by cases h) (by kernel_rfl) (fun _ h => by cases h) moveThereUpto_row_tie rfl ⟨rfl, rfl⟩ (by kernel_rfl) rfl
    (fun f fn hf hfn => by
      obtain rfl : f = 3 := Option.some.inj ((show Tryz.prog.funcNamed "quadrille/quadrillelaw22.MoveThere" = some 3 by kernel_rfl).symm.trans hf) |>.symm
      obtain rfl : fn = Tryz.f3 := (Option.some.inj (Tryz.func3.symm.trans hfn)).symm
      exact ⟨by kernel_rfl, fun j t ht => by
        rw [Tryz.params3] at ht
        have h3 : t = 22 ∨ t = 28 := by
          rcases j with _ | _ | j
          · exact Or.inl (by simpa using ht.symm)
          · exact Or.inr (by simpa using ht.symm)
          · simp at ht
        rcases h3 with rfl | rfl
        · exact (show Tryz.prog.wantsStandIn 22 = false by kernel_rfl)
        · exact (show Tryz.prog.wantsStandIn 28 = false by kernel_rfl)⟩)
    (by kernel_rfl)
#print axioms moveThere_holds
end Go.Proofs.YtdoeejhdenifpaaGreatDoor
