import Derived.Test.YtfpdleljhbkehaaDoorD9
import Derived.Test.YtfpdleljhbkehaaDoorW23
namespace Go.Proofs.YtfpdleljhbkehaaDoor
open Go.RowKit Go.Sort

/-! ### the grid's map (made by mkget.py) -/
theorem stoodAd : Tryd.prog.stoodInHeld 26 = false := by kernel_rfl
theorem undAd : Tryd.prog.underlying 26 = some (.struct (Tryd.prog.fieldsOf 26)) := by kernel_rfl
theorem eqAd (w : World) (a b : Ad) : (Op.equal 26 (adV a) (adV b)).run Tryd.prog w = .ok (decide (a = b)) w := by
  obtain ⟨a1, a2⟩ := a
  obtain ⟨b1, b2⟩ := b
  have h := run_equalIn_struct (P := Tryd.prog) w 9999 26 #[.int .i64 a1, .int .i64 a2] #[.int .i64 b1, .int .i64 b2] undAd stoodAd
  simp only [Op.equal, Op.maxDepth, adV]
  rw [show (10000 : Nat) = 9999 + 1 from rfl, h]
  simp only [Program.fieldsOf, Tryd.underlying26]
  go_simp
  by_cases h1 : a1 = b1 <;> by_cases h2 : a2 = b2 <;> simp [h1, h2]
theorem checkAd (w : World) (em : Bool) (a : Ad) : (Instr.checkKey em 10000 26 (adV a)).run Tryd.prog w = .ok () w := by
  rw [show (10000 : Nat) = 9998 + 1 + 1 from rfl, Instr.checkKey]
  simp only [adV, Sem.run_bind, run_underlying Tryd.underlying26, Result.andThen_ok]
  go_simp
  have h3 : ∀ n W, (Instr.checkKey em 9999 3 (Value.int IntKind.i64 n)).run Tryd.prog W = .ok () W := fun n W => MapKept.run_checkKey (P := Tryd.prog) (w := W) Tryd.underlying3 (by simp [MapKept.IsKey]) em 9998
  simp only [h3, Result.andThen_ok]
theorem adrKey : AdrKey Tryd.prog 26 := ⟨⟨_, Tryd.underlying26⟩, checkAd, eqAd⟩

/-- The content of none. -/
def zeroC : ContT := ⟨0, ⟨0, 0, ⟨#[]⟩, false, 0⟩, .mk 0 0 0 ⟨#[]⟩ false 0 ⟨(0, 0), false, false⟩ ⟨(0, 0), false, false⟩ []⟩
theorem zeroCon (w : World) : (zeroValue 33).run Tryd.prog w = .ok (contV zeroC none 0 0) w := by kernel_rfl
theorem GridIs.look {w : World} {gb mb : Nat} {M : GM} (h : GridIs w gb mb M) (a : Ad) : ∃ E, MapIs w mb E ∧ (∀ a, lk a E = (lkM a M).map ceV) ∧ (lk a E).getD (contV zeroC none 0 0) = ceV ((lkM a M).getD (zeroC, none)) := by
  obtain ⟨E, hm, he⟩ := h.map
  refine ⟨E, hm, he, ?_⟩
  rw [he a]
  cases lkM a M <;> rfl
theorem GridIs.lookIn {w : World} {gb mb : Nat} {M : GM} (h : GridIs w gb mb M) (a : Ad) : ceIn w ((lkM a M).getD (zeroC, none)) := by
  cases hl : lkM a M with
  | none => exact ⟨by simp [zeroC, smallT, smallL], 0, ⟨rfl, none, 0, rfl, by simp⟩⟩
  | some x => exact h.args _ (lkM_mem hl)
set_option maxRecDepth 100000 in
theorem gnew_any (w : World) : Calls Tryd.prog 7 #[] w fun e w' => e = .returned (.pointer (some ⟨w.heap.size + 1, 0, none⟩)) ∧ GridIs w' (w.heap.size + 1) w.heap.size [] ∧ Gr w w' := by
  have hmm := @run_makeMap Tryd.prog
  go_enter Tryd.func7, Tryd.ntmps7
  go_wp2
  go_ret
  refine ⟨rfl, ⟨by simp, ⟨[], ?_, fun a => rfl⟩, List.Pairwise.nil, (fun x hx => by cases hx), by simp⟩, ((Gr.refl _).alloc _).alloc _⟩
  rw [MapIs_alloc _ _ _ _ (by simp)]; exact MapIs.made w
theorem glenNil_any (w : World) : Calls Tryd.prog 13 #[.pointer none] w fun e w' => e = .returned (.int .i64 0) ∧ w = w' := by
  go_enter Tryd.func13, Tryd.ntmps13
  go_wp2
  go_ret
  exact ⟨rfl, rfl⟩
theorem glen_any (gb mb : Nat) (M : GM) (w : World) (h : GridIs w gb mb M) : Calls Tryd.prog 13 #[.pointer (some ⟨gb, 0, none⟩)] w fun e w' => e = .returned (.int .i64 M.length) ∧ w = w' := by
  have hc := h.cell
  obtain ⟨E, hm, he⟩ := h.map
  have hl : ∀ ty, (Builtin.len_ #[63] ty #[.map (some mb)]).run Tryd.prog w = .ok (.int .i64 M.length) w := fun ty => by rw [← h.len hm he]; exact hm.len Tryd.underlying63
  clear hm he h
  go_enter Tryd.func13, Tryd.ntmps13
  go_wp2
  go_ret
  exact ⟨rfl, rfl⟩
set_option maxRecDepth 100000 in
set_option maxHeartbeats 4000000 in
theorem ggetNil_any (a : Ad) (w : World) : Calls Tryd.prog 20 #[.pointer none, .agg #[.int .i64 a.1, .int .i64 a.2]] w fun e w' => e = .returned (contV zeroC none 0 0) ∧ Xt w w' := by
  obtain ⟨w0, hw0, hb0, hs0, c0, c1⟩ := box1 w a.1 a.2 26
  have hx0 : Xt w w0 := by rw [← hw0]; exact (Xt.refl _).alloc _
  obtain ⟨wS, hwS⟩ : ∃ wS, w0.alloc (.cells #[.int .i64 0, .int .i64 0, .float .f64 0, .string ⟨#[]⟩, .bool false, .int .i64 0, .int .i64 0, .int .i64 0, .float .f64 0, .string ⟨#[]⟩, .bool false, .int .i64 0, .int .i64 0, .int .i64 0, .bool false, .bool false, .int .i64 0, .int .i64 0, .bool false, .bool false, .slice none 0 0] 33) = wS := ⟨_, rfl⟩
  have hxS : Xt w wS := by rw [← hwS]; exact hx0.alloc _
  have hrS : wS.heap[w.heap.size + 1]? = some (.cells #[.int .i64 0, .int .i64 0, .float .f64 0, .string ⟨#[]⟩, .bool false, .int .i64 0, .int .i64 0, .int .i64 0, .float .f64 0, .string ⟨#[]⟩, .bool false, .int .i64 0, .int .i64 0, .int .i64 0, .bool false, .bool false, .int .i64 0, .int .i64 0, .bool false, .bool false, .slice none 0 0] 33 (0, 0)) := by rw [← hwS, ← hs0]; exact (MapKept.heap_alloc w0 _).1
  obtain ⟨w6, hw6⟩ : ∃ w6, wS.setRow (w.heap.size + 1) #[.int .i64 0, .int .i64 0, .float .f64 0, .string ⟨#[]⟩, .bool false, .int .i64 0, .int .i64 0, .int .i64 0, .float .f64 0, .string ⟨#[]⟩, .bool false, .int .i64 0, .int .i64 0, .int .i64 0, .bool false, .bool false, .int .i64 0, .int .i64 0, .bool false, .bool false, .slice none 0 0] = w6 := ⟨_, rfl⟩
  have hg6 : wS.grownBy w6 (some (w.heap.size + 1)) := by rw [← hw6]; exact setRow_grown _ _ _
  have hr6 : w6.heap[w.heap.size + 1]? = some (.cells #[.int .i64 0, .int .i64 0, .float .f64 0, .string ⟨#[]⟩, .bool false, .int .i64 0, .int .i64 0, .int .i64 0, .float .f64 0, .string ⟨#[]⟩, .bool false, .int .i64 0, .int .i64 0, .int .i64 0, .bool false, .bool false, .int .i64 0, .int .i64 0, .bool false, .bool false, .slice none 0 0] 33 (0, 0)) := by rw [← hw6]; exact setRow_heap wS _ _ _ _ _ hrS
  have HRS := Lib.hid hrS
  have HR6 := Lib.hid hr6
  have HW6 := Lib.hid hw6
  have HEND : Hid (Xt w w6) := hxS.grownB hg6 (fun m hm => by cases hm; omega)
  clear hb0 hx0 hxS hrS hw6 hg6 hr6
  go_enter Tryd.func20, Tryd.ntmps20
  go_wp2_with (refine wpList_store_row (P := Tryd.prog) rfl 33 _ _ rfl (w.heap.size + 1) #[.int .i64 0, .int .i64 0, .float .f64 0, .string ⟨#[]⟩, .bool false, .int .i64 0, .int .i64 0, .int .i64 0, .float .f64 0, .string ⟨#[]⟩, .bool false, .int .i64 0, .int .i64 0, .int .i64 0, .bool false, .bool false, .int .i64 0, .int .i64 0, .bool false, .bool false, .slice none 0 0] rfl rfl 33 _ HRS.out (by kernel_rfl) rfl (by simp [Value.oneCell']) ?_; rw [HW6.out])
  (try simp only [Exit.inBlock, Exit.then])
  refine bodyPost_ret (results_cell_row rfl _ _ (w.heap.size + 1) _ _ _ _ rfl HR6.out Tryd.underlying33 rfl (by kernel_rfl)) rfl ?_
  exact ⟨rfl, HEND.out⟩
set_option maxRecDepth 100000 in
set_option maxHeartbeats 4000000 in
theorem gget_any (gb mb : Nat) (M : GM) (a : Ad) (w : World) (h : GridIs w gb mb M) : Calls Tryd.prog 20 #[.pointer (some ⟨gb, 0, none⟩), .agg #[.int .i64 a.1, .int .i64 a.2]] w fun e w' =>
    ∃ n a', e = .returned (copyCV ((lkM a M).getD (zeroC, none)).1 a') ∧ ArgsS (fun b => w.heap.size ≤ b) w' n (.slice a' ((lkM a M).getD (zeroC, none)).1.t.args.length ((lkM a M).getD (zeroC, none)).1.t.args.length) (copyL ((lkM a M).getD (zeroC, none)).1.t.args) ∧ Xt w w' := by
  obtain ⟨w0, hw0, hb0, hs0, c0, c1⟩ := box1 w a.1 a.2 26
  have hx0 : Xt w w0 := by rw [← hw0]; exact (Xt.refl _).alloc _
  obtain ⟨hsm, n, hin⟩ := h.lookIn a
  obtain ⟨E, hm, he, hlk⟩ := h.look a
  generalize (lkM a M).getD (zeroC, none) = x at hsm hin hlk ⊢
  obtain ⟨x, xa⟩ := x
  obtain ⟨wS, hwS⟩ : ∃ wS, w0.alloc (.cells #[.int .i64 0, .int .i64 0, .float .f64 0, .string ⟨#[]⟩, .bool false, .int .i64 0, .int .i64 0, .int .i64 0, .float .f64 0, .string ⟨#[]⟩, .bool false, .int .i64 0, .int .i64 0, .int .i64 0, .bool false, .bool false, .int .i64 0, .int .i64 0, .bool false, .bool false, .slice none 0 0] 33) = wS := ⟨_, rfl⟩
  have hxS : Xt w wS := by rw [← hwS]; exact hx0.alloc _
  have hrS : wS.heap[w.heap.size + 1]? = some (.cells #[.int .i64 0, .int .i64 0, .float .f64 0, .string ⟨#[]⟩, .bool false, .int .i64 0, .int .i64 0, .int .i64 0, .float .f64 0, .string ⟨#[]⟩, .bool false, .int .i64 0, .int .i64 0, .int .i64 0, .bool false, .bool false, .int .i64 0, .int .i64 0, .bool false, .bool false, .slice none 0 0] 33 (0, 0)) := by rw [← hwS, ← hs0]; exact (MapKept.heap_alloc w0 _).1
  have hl : (Instr.lookup 63 (.map (some mb)) (.agg #[.int .i64 a.1, .int .i64 a.2]) false).run Tryd.prog wS.drew = .ok (contV x xa x.t.args.length x.t.args.length) wS.drew := by
    have := (hm.of_heap (hxS.block mb hm.lt) : MapIs wS mb E).lookup (w := wS.drew) (P := Tryd.prog) (t := 63) (k := 26) (e := 33) adrKey Tryd.underlying63 zeroCon a
    rw [hlk] at this; exact this
  have hc := h.cell
  have hcS := ((hxS.cells).1 gb 0 h.lt.1).trans hc
  have d0 : wS.cell? ⟨w.heap.size, 0, none⟩ = some (.int .i64 a.1) := by rw [← hwS]; exact (World.cell?_of_block (w := w0) (a := ⟨w.heap.size, 0, none⟩) (Below.heap_alloc w0 _ _ (by show w.heap.size < _; omega))).trans c0
  have d1 : wS.cell? ⟨w.heap.size, 1, none⟩ = some (.int .i64 a.2) := by rw [← hwS]; exact (World.cell?_of_block (w := w0) (a := ⟨w.heap.size, 1, none⟩) (Below.heap_alloc w0 _ _ (by show w.heap.size < _; omega))).trans c1
  have HXS := Lib.hid hxS
  have HRS := Lib.hid hrS
  have HGC := Lib.hid (gcopy_any n x xa x.t.args.length wS.drew hsm (hin.xt hxS.drew))
  clear hm he hlk hb0 hx0 hxS hrS hsm hin h
  go_enter Tryd.func20, Tryd.ntmps20
  go_wp2_with fail
  refine wp_region_still_tail 6 (by kernel_rfl) (by kernel_rfl) ?_
  change wpStill _ _ (World.drew _) _ _ _
  simp only [List.take_succ_cons, List.take_zero, List.drop_succ_cons, List.drop_zero]
  still_step
  still_step
  still_step
  still_step
  still_step
  still_step
  refine wpStill_nil ?_
  change wpList _ _ _ _ _ (World.drew _)
  refine wpList_step (fun K hK => ?_)
  go_simp
  refine HGC.out.mono ?_
  rintro e w5 ⟨a', rfl, hA, hx5⟩
  refine hK _ _ ?_
  clear hK K
  have hr5 := (hx5.block (w.heap.size + 1) ((Array.getElem?_eq_some_iff.1 HRS.out).1)).trans HRS.out
  obtain ⟨w6, hw6⟩ : ∃ w6, w5.setRow (w.heap.size + 1) (copyCV x a').cells = w6 := ⟨_, rfl⟩
  have hg6 : w5.grownBy w6 (some (w.heap.size + 1)) := by rw [← hw6]; exact setRow_grown _ _ _
  have hr6 : w6.heap[w.heap.size + 1]? = some (.cells (copyCV x a').cells 33 (0, 0)) := by rw [← hw6]; exact setRow_heap w5 _ _ _ _ _ hr5
  refine wpList_store_row (P := Tryd.prog) rfl 33 _ _ rfl (w.heap.size + 1) (copyCV x a').cells rfl rfl 33 _ hr5 (by kernel_rfl) rfl (by rw [copyCV_eq]; simp [Value.cells, Value.oneCell']) ?_
  rw [hw6]
  have HR6 := Lib.hid hr6
  have HG6 := Lib.hid hg6
  have HX5 := Lib.hid hx5
  have HA := Lib.hid hA
  clear hr5 hw6 hg6 hr6 hx5 hA
  go_wp2_with fail
  (try simp only [Exit.inBlock, Exit.then])
  refine bodyPost_ret (results_cell_row rfl _ _ (w.heap.size + 1) _ _ _ _ rfl HR6.out Tryd.underlying33 rfl (by kernel_rfl)) rfl ?_
  have hsz : w.heap.size + 1 < wS.heap.size := (Array.getElem?_eq_some_iff.1 HRS.out).1
  have hdr : wS.drew.heap.size = wS.heap.size := rfl
  refine ⟨n, a', rfl, HA.out.keep (fun b hb hlt => ?_) (fun b o hb hlt => ?_), ?_⟩
  · omega
  · exact World.cell?_of_block (w := w5) (a := ⟨b, o, none⟩) (HG6.out.block b hlt (fun e => by cases e; omega))
  · exact ((HXS.out.drew).trans HX5.out).grownB HG6.out (fun m hm => by cases hm; omega)
end Go.Proofs.YtfpdleljhbkehaaDoor
