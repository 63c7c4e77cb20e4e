import Derived.Test.YtagfgkcipomopaaW4
namespace Go.Proofs.Ytagfgkcipomopaa
open Go.RowKit Go.Sort

/-! ### New, Len, Drop, Uses -/
def NewR (w : World) (e : Ending) (w' : World) : Prop := e = .returned (.pointer (some ⟨w.heap.size + 1, 0, none⟩)) ∧ Lk w' (w.heap.size + 1) w.heap.size (fun b => w.heap.size ≤ b ∧ b < w'.heap.size) [] ∧ Gr w w'
theorem new_any (w : World) : Calls Try.prog 15 #[] w (NewR w) := by
  have hmm := @run_makeMap Try.prog
  go_enter Try.func15, Try.ntmps15
  go_wp2
  go_ret
  refine ⟨rfl, ⟨by simp, ?_, ?_, ⟨[], ?_, ⟨?_, ?_, ?_⟩⟩, by simp, fun x hx => by cases hx⟩, ((Gr.refl _).alloc _).alloc _⟩
  · exact ⟨by omega, by simp⟩
  · exact ⟨Nat.le_refl _, by simp; omega⟩
  · rw [MapIs_alloc _ _ _ _ (by simp)]; exact MapIs.made w
  · exact List.Pairwise.nil
  · intro a _; rfl
  · intro a l h; cases h
theorem lenNil_any (w : World) : Calls Try.prog 19 #[.pointer none] w fun e w' => e = .returned (.int .i64 0) ∧ w = w' := by
  go_enter Try.func19, Try.ntmps19
  go_wp2
  go_ret
  exact ⟨rfl, rfl⟩
theorem len_any (pb bm : Nat) (F : Nat → Prop) (M : Mp) (w : World) (h : Lk w pb bm F M) : Calls Try.prog 19 #[.pointer (some ⟨pb, 0, none⟩)] w fun e w' => e = .returned (.int .i64 M.length) ∧ w = w' := by
  have hc := h.cell
  obtain ⟨E, hm, he⟩ := h.map
  have hl : ∀ ty, (Builtin.len_ #[74] ty #[.map (some bm)]).run Try.prog w = .ok (.int .i64 M.length) w := fun ty => by rw [← he.len hm.nodup]; exact hm.len Try.underlying74
  clear hm he h
  go_enter Try.func19, Try.ntmps19
  go_wp2
  go_ret
  exact ⟨rfl, rfl⟩
theorem dropNil_any (a : Ad) (w : World) : Calls Try.prog 18 #[.pointer none, .agg #[.int .i64 a.1, .int .i64 a.2]] w fun e w' => e = .returned (.bool false) ∧ Gr w w' := by
  go_enter Try.func18, Try.ntmps18
  go_wp2
  go_ret
  exact ⟨rfl, (Gr.refl _).alloc _⟩
theorem usesNil_any (a : Ad) (w : World) : Calls Try.prog 27 #[.pointer none, .agg #[.int .i64 a.1, .int .i64 a.2]] w fun e w' => e = .returned (.slice none 0 0) ∧ Gr w w' := by
  go_enter Try.func27, Try.ntmps27
  go_wp2
  go_ret
  exact ⟨rfl, (Gr.refl _).alloc _⟩
theorem usersNil_any (a : Ad) (w : World) : Calls Try.prog 14 #[.pointer none, .agg #[.int .i64 a.1, .int .i64 a.2]] w fun e w' => e = .returned (.slice none 0 0) ∧ Gr w w' := by
  go_enter Try.func14, Try.ntmps14
  go_wp2
  go_ret
  exact ⟨rfl, (Gr.refl _).alloc _⟩
theorem setNil_any (a : Ad) (v : Value) (w : World) : Calls Try.prog 16 #[.pointer none, .agg #[.int .i64 a.1, .int .i64 a.2], v] w fun e w' => e = .returned (.int .i64 1) ∧ Gr w w' := by
  go_enter Try.func16, Try.ntmps16
  go_wp2
  go_ret
  exact ⟨rfl, (Gr.refl _).alloc _⟩
set_option maxRecDepth 20000 in
theorem readyNil_any (v u : Value) (w : World) : Calls Try.prog 11 #[.pointer none, v, u] w fun e w' => e = .returned (.tuple #[.slice none 0 0, .int .i64 1]) ∧ w = w' := by
  go_enter Try.func11, Try.ntmps11
  go_wp2
  go_ret2
  exact ⟨rfl, rfl⟩
set_option maxRecDepth 20000 in
theorem orderNil_any (v : Value) (w : World) : Calls Try.prog 12 #[.pointer none, v] w fun e w' => e = .returned (.tuple #[.slice none 0 0, .int .i64 1]) ∧ w = w' := by
  go_enter Try.func12, Try.ntmps12
  go_wp2_with (go_at_call 11; refine (readyNil_any _ _ _).mono ?_; rintro e w' ⟨rfl, rfl⟩)
  go_ret2
  exact ⟨rfl, rfl⟩
theorem circleNil_any (w : World) : Calls Try.prog 22 #[.pointer none] w fun e w' => e = .returned (.tuple #[.slice none 0 0, .bool false]) ∧ w = w' := by
  go_enter Try.func22, Try.ntmps22
  go_wp2
  go_ret2
  exact ⟨rfl, rfl⟩
theorem copyNil_any (w : World) : Calls Try.prog 32 #[.pointer none] w fun e w' => e = .returned (.pointer none) ∧ w = w' := by
  go_enter Try.func32, Try.ntmps32
  go_wp2
  go_ret
  exact ⟨rfl, rfl⟩
theorem aboveNil_any (v : Value) (w : World) : Calls Try.prog 29 #[.pointer none, v] w fun e w' => e = .returned (.slice none 0 0) ∧ Gr w w' := by
  go_enter Try.func29, Try.ntmps29
  go_wp2
  go_ret
  exact ⟨rfl, (Gr.refl _).alloc _⟩

/-! ### Drop, of some -/
def DropR (w : World) (pb bm : Nat) (F : Nat → Prop) (M : Mp) (a : Ad) (e : Ending) (w' : World) : Prop :=
  e = .returned (.bool (lkM a M).isSome) ∧ Lk w' pb bm F (delM a M) ∧ w.grownBy w' (some bm)
set_option maxRecDepth 20000 in
theorem drop_any (pb bm : Nat) (F : Nat → Prop) (M : Mp) (a : Ad) (w : World) (h : Lk w pb bm F M) (hF : ∀ b, F b → b < w.heap.size) : Calls Try.prog 18 #[.pointer (some ⟨pb, 0, none⟩), .agg #[.int .i64 a.1, .int .i64 a.2]] w (DropR w pb bm F M a) := by
  have H := Lib.hid h
  obtain ⟨E, hm, he⟩ := h.map
  have HE := Lib.hid he
  have HF := Lib.hid hF
  have hbm' := hm.lt
  obtain ⟨w0, hw0, hb0, hs0, c0, c1⟩ := box1 w a.1 a.2 34
  have hpb' : pb < w.heap.size := World.block_lt_of_cell? w _ h.cell
  have hm0 : MapIs w0 bm E := hm.of_heap (hb0.block _ hbm')
  have hpb0 : w0.cell? ⟨pb, 0, none⟩ = some (.map (some bm)) := (hb0.cell (p := ⟨pb, 0, none⟩) hpb').trans h.cell
  have hlk : ∀ n : Nat, (Instr.lookup 74 (.map (some bm)) (.agg #[.int .i64 a.1, .int .i64 a.2]) true).run Try.prog (w0.drewN n) = .ok (.tuple #[(lk a E).getD (.slice none 0 0), .bool (lkM a M).isSome]) (w0.drewN n) := fun n => by
    rw [← (he.look a).2.2]; exact hm0.lookup_ok (w := w0.drewN n) adrKey Try.underlying74 zero42 a
  generalize hv : (lk a E).getD (.slice none 0 0) = v at hlk
  generalize hbb : (lkM a M).isSome = bb at hlk
  have HB := Lib.hid hbb
  clear hv hbb h he hm hF
  go_enter Try.func18, Try.ntmps18
  go_wp2_with fail
  clear hw0
  go_quiet (fail)
  go_wp2_with fail
  refine wp_region_still_tail 5 (by kernel_rfl) (by kernel_rfl) ?_
  change wpStill _ _ (World.drew _) _ _ _
  simp only [List.take_succ_cons, List.take_zero, List.drop_succ_cons, List.drop_zero]
  still_step
  still_step
  still_step
  still_step
  still_step
  refine wpStill_nil ?_
  change wpList _ _ _ _ _ (World.drew _)
  refine wpList_delete_it _ rfl _ _ 74 34 34 42 rfl adrKey Try.underlying74 bm E rfl a.1 a.2 rfl (by exact hm0) ?_
  intro w2 hm2 hg2 hs2
  go_wp2_with fail
  go_ret
  have hk : ∀ b, b < w.heap.size → b ≠ bm → w2.heap[b]? = w.heap[b]? := fun b hb hne => (hg2.block b (by show b < w0.heap.size; omega) (fun e => hne (by cases e; rfl))).trans (hb0.block b hb)
  have hno : ∀ o, w.cell? ⟨bm, o, none⟩ = none := H.out.map.elim fun _ q => q.1.nocell
  refine ⟨retB HB.out.symm, H.out.wrote (fun b hb hne => hk b (HF.out b hb) hne) (fun _ h => h) hm2 (((HE.out).keep' (fun b hb hne => hk b (HF.out b hb) hne) hno (fun _ h => h)).del a) (Nat.le_trans (delM_len _ _) H.out.many) (fun x hx => H.out.few x (List.mem_filter.1 hx).1), ?_⟩
  exact ⟨hg2.os.trans hb0.os, hg2.tape.trans hb0.tape, hg2.output.trans hb0.output, by have := hg2.size; have : w0.heap.size ≤ w2.heap.size := this; omega, fun k hk1 hk2 => hk k hk1 (fun e => hk2 (by rw [e]))⟩
end Go.Proofs.Ytagfgkcipomopaa
