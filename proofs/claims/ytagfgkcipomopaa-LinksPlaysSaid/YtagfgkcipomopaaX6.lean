/- quadrillelaw18.LinksPlays returns true for every input, and each argument reads afterwards as it read before; no condition. -/
import Derived.Test.YtagfgkcipomopaaRows
import Derived.Test.YtagfgkcipomopaaX0
import Derived.Test.YtagfgkcipomopaaW45
import Derived.SizedLaws
namespace Go.Proofs.Ytagfgkcipomopaa
open Go.ChangeShapes Go.WideShapes Go.ChangeAt Go.RowKit Go.Joins Go.Deep

theorem Try.cells61 : Try.prog.cellsOf 61 = 7 := by kernel_rfl
theorem Try.cells23 : Try.prog.cellsOf 23 = 1 := by kernel_rfl
theorem Try.cells24 : Try.prog.cellsOf 24 = 1 := by kernel_rfl
theorem Try.bytes34 : Try.prog.bytesOf 34 = 16 := by kernel_rfl
theorem Try.bytes41 : Try.prog.bytesOf 41 = 32 := by kernel_rfl
/-! ### what came in, opened, and how much of it there may be -/
section
variable {H : Type} {enc : TypeId × Value → H} {W : World} {base : Nat} {spare : Nat → Bool} {held : Bool}
theorem open_list2 {α : Type} {encA : α → List Value} {sz : Nat} {t e : TypeId} {n : Nat} {v : Value} {x : DataW H × List MemPlace} (ht : Try.prog.underlying t = some (.slice e)) (hc : Try.prog.cellsOf e = sz) (hpos : 0 < sz) (hk : ∀ x, (encA x).length = sz)
    (he : ∀ m cs y, DataW.trod enc Try.prog W base spare held m e cs = some y → ∃ a : α, cs = encA a) (h : DataW.trod enc Try.prog W base spare held n t [v] = some x) (hz : ∀ q ∈ x.1.weights Try.prog t, q ≤ reachBytes) : ∃ l, SlOf W encA sz v l ∧ l.length * Try.prog.bytesOf e ≤ reachBytes := by
  rcases open_slice ht h with ⟨h0, _⟩ | ⟨a, len, cap, m, k, D, Pl, hcs, hb, hl, hm, hmm, hx, hi⟩
  · cases h0
    exact ⟨[], SlOf.nil _ _ _ _ _ (by omega), by simp⟩
  · cases hcs
    rw [hc] at hi
    have each : ∀ i, i < len → ∃ u : α, ∀ (j : Nat) (c : Value), (encA u)[j]? = some c → W.cell? (a.add (i * sz + j)) = some c := by
      intro i hil
      have him : i < m := by rw [hmm]; split <;> omega
      obtain ⟨cs', h1, h2⟩ := hi i him
      obtain ⟨u, rfl⟩ := he _ _ _ h2
      obtain ⟨_, hlen, hcell⟩ := World.cells?_some h1
      refine ⟨u, fun j c hj => ?_⟩
      have hjs : j < sz := by have := (List.getElem?_eq_some_iff.1 hj).1; rw [hk] at this; exact this
      rw [← add_add, hcell j hjs, hj]
    obtain ⟨l, hl1, hl2⟩ := list_of len each
    have hw : len * Try.prog.bytesOf e ≤ reachBytes := by
      rw [hx] at hz
      have := hz ((len + (m - len)) * Try.prog.bytesOf e) (by simp [DataW.weights, ht])
      exact Nat.le_trans (Nat.mul_le_mul_right _ (by omega)) this
    refine ⟨l, ⟨some a, cap, by rw [hl1], by omega, by unfold maxLen at hm; omega, fun hne => ?_⟩, by rw [hl1]; exact hw⟩
    obtain ⟨b, o, spot⟩ := a
    obtain ⟨y, hy⟩ : ∃ y, l[0]? = some y := by
      cases l with
      | nil => exact absurd rfl hne
      | cons y _ => exact ⟨y, rfl⟩
    have hy0 : ∃ c, (encA y)[0]? = some c := ⟨(encA y)[0]'(by rw [hk]; exact hpos), List.getElem?_eq_getElem (by rw [hk]; exact hpos)⟩
    obtain ⟨c, hc0⟩ := hy0
    have hspot : spot = none := by simpa [Addr.add] using World.cell?_spot (hl2 0 y hy 0 c hc0)
    subst hspot
    refine ⟨b, o, rfl, fun k x hx i u hu => ?_⟩
    have := hl2 k x hx i u hu
    rw [Addr.add_lit] at this
    rwa [← Nat.add_assoc] at this
theorem weights_all_mem {P : Program} {e : TypeId} : ∀ {l : List (DataW H)} {d : DataW H} {q : Nat}, d ∈ l → q ∈ d.weights P e → q ∈ DataW.weightsAll P e l
  | x :: r, d, q, hd, hq => by
    simp only [DataW.weightsAll, List.mem_append]
    rcases List.mem_cons.1 hd with rfl | hd
    · exact Or.inl hq
    · exact Or.inr (weights_all_mem hd hq)
set_option maxRecDepth 100000 in
theorem open_op {n : Nat} {cs : List Value} {x : DataW H × List MemPlace} (h : DataW.trod enc Try.prog W base spare held n 61 cs = some x) (hz : ∀ q ∈ x.1.weights Try.prog 61, q ≤ reachBytes) :
    ∃ (o : OpS) (ov : OpV), cs = [.int .i64 o.kind, .int .i64 o.on, .int .i64 o.cell.1, .int .i64 o.cell.2, ov.lv, ov.uv, ov.pv] ∧ OpIs W o ov := by
  obtain ⟨xs, m, _, rfl, hl, hlen, hf⟩ := DataW.trod_struct Try.underlying61 h
  rw [Try.cells61] at hl
  match xs, hlen with
  | [y0, y1, y2, y3, y4, y5], _ =>
    match cs, hl with
    | [c0, c1, c2, c3, c4, c5, c6], _ =>
      have g0 : DataW.trod enc Try.prog W base spare held m 3 [c0] = some y0 := by simpa [Try.cells3] using hf 0 _ rfl
      have g1 : DataW.trod enc Try.prog W base spare held m 3 [c1] = some y1 := by simpa [Try.cells3] using hf 1 _ rfl
      have g2 : DataW.trod enc Try.prog W base spare held m 34 [c2, c3] = some y2 := by simpa [Try.cells34] using hf 2 _ rfl
      have g3 : DataW.trod enc Try.prog W base spare held m 23 [c4] = some y3 := by simpa [Try.cells23] using hf 3 _ rfl
      have g4 : DataW.trod enc Try.prog W base spare held m 42 [c5] = some y4 := by simpa [Try.cells42] using hf 4 _ rfl
      have g5 : DataW.trod enc Try.prog W base spare held m 24 [c6] = some y5 := by simpa [Try.cells24] using hf 5 _ rfl
      have hz3 : ∀ q ∈ y3.1.weights Try.prog 23, q ≤ reachBytes := fun q hq => hz q (by simp [DataW.weights, Try.underlying61, DataW.weightsEach, hq])
      have hz4 : ∀ q ∈ y4.1.weights Try.prog 42, q ≤ reachBytes := fun q hq => hz q (by simp [DataW.weights, Try.underlying61, DataW.weightsEach, hq])
      obtain ⟨a, e0, _, _⟩ := DataW.trod_int Try.underlying3 g0
      obtain ⟨b, e1, _, _⟩ := DataW.trod_int Try.underlying3 g1
      obtain ⟨at_, e2⟩ := open_ad g2
      obtain ⟨ll, s3, b3⟩ := open_list2 (encA := adC) Try.underlying23 Try.cells34 (by omega) adC_len (fun _ _ _ h => open_ad h) g3 hz3
      obtain ⟨us, s4, b4⟩ := open_list2 (encA := arC) Try.underlying42 Try.cells41 (by omega) arC_len (fun _ _ _ h => open_ar h) g4 hz4
      obtain ⟨pk, s5⟩ := open_nums g5
      rw [Try.bytes34] at b3
      rw [Try.bytes41] at b4
      simp only [List.cons.injEq, and_true] at e0 e1
      simp only [adC, List.cons.injEq, and_true] at e2
      obtain ⟨rfl, rfl⟩ := e2
      subst e0 e1
      unfold reachBytes at b3 b4
      exact ⟨⟨a, b, at_, ll, us, pk⟩, ⟨c4, c5, c6⟩, rfl, s3, s4, s5, by show ll.length ≤ _; omega, by show us.length ≤ _; omega⟩
theorem open_ops {n : Nat} {v : Value} {x : DataW H × List MemPlace} (h : DataW.trod enc Try.prog W base spare held n 59 [v] = some x) (hz : ∀ q ∈ x.1.weights Try.prog 59, q ≤ reachBytes) : ∃ ops, OpsOf W v ops := by
  rcases open_slice Try.underlying59 h with ⟨h0, _⟩ | ⟨a, len, cap, m, k, D, Pl, hcs, hb, hl, hm, hmm, hx, hi⟩
  · cases h0
    exact ⟨[], none, 0, rfl, by simp, by omega, fun h => absurd rfl h⟩
  · cases hcs
    rw [Try.cells61] at hi
    rw [hx] at hz
    have each : ∀ i, i < len → ∃ o : OpS, ∃ ov : OpV, W.cell? (a.add (i * 7)) = some (.int .i64 o.kind) ∧ W.cell? (a.add (i * 7 + 1)) = some (.int .i64 o.on) ∧ W.cell? (a.add (i * 7 + 2)) = some (.int .i64 o.cell.1) ∧ W.cell? (a.add (i * 7 + 3)) = some (.int .i64 o.cell.2) ∧
        W.cell? (a.add (i * 7 + 4)) = some ov.lv ∧ W.cell? (a.add (i * 7 + 5)) = some ov.uv ∧ W.cell? (a.add (i * 7 + 6)) = some ov.pv ∧ OpIs W o ov := by
      intro i hil
      have him : i < m := by rw [hmm]; split <;> omega
      obtain ⟨cs', h1, h2⟩ := hi i him
      obtain ⟨o, ov, rfl, hop⟩ := open_op h2 (fun q hq => hz q (by
        simp only [DataW.weights, Try.underlying59, List.mem_cons, List.mem_append]
        exact Or.inr (Or.inl (weights_all_mem (List.mem_map.2 ⟨i, List.mem_range.2 hil, rfl⟩) hq))))
      obtain ⟨_, hlen, hcell⟩ := World.cells?_some h1
      have e0 := hcell 0 (by omega)
      have e1 := hcell 1 (by omega)
      have e2 := hcell 2 (by omega)
      have e3 := hcell 3 (by omega)
      have e4 := hcell 4 (by omega)
      have e5 := hcell 5 (by omega)
      have e6 := hcell 6 (by omega)
      rw [add_add] at e0 e1 e2 e3 e4 e5 e6
      exact ⟨o, ov, e0, e1, e2, e3, e4, e5, e6, hop⟩
    obtain ⟨ops, hl1, hl2⟩ := list_of len each
    refine ⟨ops, some a, cap, by rw [hl1], by omega, by unfold maxLen at hm; omega, fun hne => ?_⟩
    obtain ⟨b, o, spot⟩ := a
    obtain ⟨y, hy⟩ : ∃ y, ops[0]? = some y := by
      cases ops with
      | nil => exact absurd rfl hne
      | cons y _ => exact ⟨y, rfl⟩
    have hspot : spot = none := by obtain ⟨_, h, _⟩ := hl2 0 y hy; simpa [Addr.add] using World.cell?_spot h
    subst hspot
    refine ⟨b, o, rfl, fun k r hr => ?_⟩
    have := hl2 k r hr
    simpa only [Addr.add_lit, Nat.add_assoc] using this
end
set_option maxHeartbeats 800000 in
set_option maxRecDepth 100000 in
theorem linksPlays_lifted (os : Os) (started : os.Started) (H : Type) (enc : TypeId × Value → H) :
    ReturnsInHanded {} Try.checked os 7 .any (Rows.linksPlaysSpec.pre6 enc Try.prog Try.f7 Rows.linksPlaysRow.domain false) (Rows.linksPlaysSpec.post enc Try.prog Try.f7 false true false false) := by
  refine returnsInHanded_of_change_sized (C := Try.checked) Try.own' started (by kernel_rfl) Try.func7
    (ChangeSpec.witness6 (enc := enc) (C := Try.checked) false ⟨#[], #[.slice none 0 0], []⟩ 8 (by kernel_rfl) (by kernel_rfl) (by kernel_rfl) (by kernel_rfl)) ?_
  intro W base args ds gs before hval0 hW _ hsz0 _
  have hval : ∀ (j : Nat) t v, Try.f7.params[j]? = some t → args[j]? = some v → Value.okWide Try.prog W .any base t v := hval0
  have hsz : (DataW.weightsEach Try.prog (Try.f7.params.toList ++ Rows.linksPlaysSpec.plain.varTypes Try.prog) (ds ++ gs)).all (· ≤ reachBytes) = true := hsz0
  have hW' := hW
  obtain ⟨p, q, hA0, hV, rfl, _, _⟩ := hW
  have hA : DataW.TrodAll enc Try.prog W 0 (fun _ => true) true Try.f7.params.toList args.toList ds p := hA0
  rw [Try.params7] at hA hval hsz
  obtain ⟨v0, d0, rfl, rfl, h0⟩ := trodAll_one hA
  obtain ⟨rfl, rfl⟩ := trodVars_none hV
  simp only [List.append_nil] at hW'
  have hlt : ∀ x ∈ p, x.block < W.heap.size := fun x hx => by simpa using hW'.lt x (by simpa using hx)
  have harg0 : ∀ W', Xt W W' → DataW.Trod enc Try.prog W' 0 (fun b => decide (b < W.heap.size)) true 59 v0 d0 p := fun W' hx =>
    Below.trod Try.laidOut' (by kernel_rfl) (of_decide_eq_true (by kernel_rfl)) h0 hx (fun x hx => hlt x hx)
  have hz : ∀ q ∈ d0.weights Try.prog 59, q ≤ reachBytes := fun q hq => by
    have := List.all_eq_true.1 hsz q (DataW.weights_mem_each (j := 0) (t := 59) rfl rfl q hq)
    simpa using this
  have hr : ∃ ops, OpsOf W v0 ops := by
    obtain ⟨a0, n0, c0, rfl⟩ := okWide_slice Try.underlying59 (hval 0 59 v0 rfl rfl)
    obtain ⟨f0, g0⟩ := h0
    exact open_ops g0 hz
  clear hA0 hval0 hval hA h0 hsz hsz0 hz
  obtain ⟨ops, k0⟩ := hr
  have hcall : Calls Try.prog 7 #[v0] W fun e w' => e = .returned (.bool true) ∧ Xt W w' := plays7_any v0 ops W k0
  clear k0
  refine hcall.mono fun e W' ⟨he, hx⟩ => ?_
  subst he
  exact ⟨_, rfl, _, _, _, [], _, [], hW', trodAll_mk1 (shut_bool Try.underlying4 _), trodAll_mk1 (harg0 W' hx), rfl, Below.frame hx _, fun h => by cases h⟩

theorem linksPlays_holds : Rows.LinksPlaysSaid :=
  OpenClaim.holds_of_wide 7 Try.f7 rfl rfl rfl rfl rfl rfl rfl ⟨rfl, rfl, rfl, rfl, rfl⟩ rfl rfl rfl rfl rfl (by kernel_rfl) Try.func7 (by kernel_rfl)
    (of_decide_eq_true (by kernel_rfl)) (by unfold Func.isWrapper; first | (rw [if_pos (by decide +kernel)]; kernel_rfl) | (rw [if_neg (by decide +kernel)]; exact ⟨rfl, rfl⟩))
    (fun os started H enc _ => linksPlays_lifted os started H enc)
#print axioms linksPlays_holds
end Go.Proofs.Ytagfgkcipomopaa
