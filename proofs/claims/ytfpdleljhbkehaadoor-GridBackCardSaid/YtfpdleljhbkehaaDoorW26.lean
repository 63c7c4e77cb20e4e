import Derived.Test.YtfpdleljhbkehaaDoorW25
namespace Go.Proofs.YtfpdleljhbkehaaDoor
open Go.RowKit Go.Sort

/-! ### Put, the last cases (made by mkput.py) -/
set_option maxRecDepth 100000 in
set_option maxHeartbeats 4000000 in
theorem gput_full (n : Nat) (gb mb : Nat) (M : GM) (a : Ad) (c : ContT) (ca : Option Addr) (cap : Nat) (w : World) (h : GridIs w gb mb M) (hok : c.ok) (hT : Tabs w) (hsm : smallT c.t) (hin : ArgsIn w n (.slice ca c.t.args.length cap) c.t.args) (hb : gvalidB c = true) (hb2 : validB a.1 a.2 = true) (hk : (c.kind == 0) = false) (his : (lkM a M).isSome = false) (hfu : fullB M a = true) : Calls Tryd.prog 11 #[.pointer (some ⟨gb, 0, none⟩), .agg #[.int .i64 a.1, .int .i64 a.2], contV c ca c.t.args.length cap] w fun e w' => e = .returned (.int .i64 41) ∧ Xt w w' := by
  have H := Lib.hid h
  obtain ⟨E, he, w1, hw1, hP1⟩ := put_start h a c ca cap
  have HE := Lib.hid he
  have HP1 := Lib.hid hP1
  have HLM : Hid (E.length = M.length) := Lib.hid ((H.out.xt hP1.xt).len hP1.map he)
  have HIN := Lib.hid hin
  have HSM := Lib.hid hsm
  have HV := Lib.hid (gvalid_any n c ca cap w1 hok (hT.xt hP1.xt) (hin.xt hP1.xt))
  clear h he hP1 hin hsm hok hT
  have HIS : Hid ((lk a E).isSome = false) := by have h0 := HE.out a; rw [h0, Option.isSome_map]; exact his
  obtain ⟨⟨X, xa⟩, hX⟩ : ∃ x, (lkM a M).getD (zeroC, none) = x := ⟨_, rfl⟩
  have HX : Hid ((lk a E).getD (contV zeroC none 0 0) = contV X xa X.t.args.length X.t.args.length) := by rw [HE.out]; revert hX; cases lkM a M <;> (intro hX; cases hX; rfl)
  have HLE : Hid (4096 ≤ M.length) := Lib.hid (by unfold fullB at hfu; rw [his] at hfu; simpa using hfu)
  clear hfu his hX
  have HB := Lib.hid hb
  have HB2 := Lib.hid hb2
  clear hb hb2
  go_enter Tryd.func11, Tryd.ntmps11
  go_wp2_with (first
    | (refine HV.out.mono ?_; rintro e w2 ⟨rfl, hx2⟩; rw [HB.out]; have HP2 := Lib.hid (HP1.out.step hx2); have hc2 := HP2.out.cell; obtain ⟨d0, d1⟩ := HP2.out.ad;  clear hx2)
    | (refine (valid_gr a.1 a.2 w2).mono ?_; rintro e w3 ⟨rfl, hg3⟩; rw [HB2.out]; have HP3 := Lib.hid (HP2.out.step hg3.xt); have hc3 := HP3.out.cell; obtain ⟨p0, p1⟩ := HP3.out.ad; have k3 := HP3.out.kind; clear hg3)
    | (refine BigFrame.wpList_want (by rfl) (fun K hK => wp_load_row 33 _ rfl (w.heap.size + 1) rfl 33 _ (0, 0) _ HP1.out.con Tryd.underlying33 rfl (by kernel_rfl) (hK _ _ ?_)); clear hK K))
  have HL : Hid (∀ w', MapIs w' mb E → (Instr.lookup 63 (.map (some mb)) (.agg #[.int .i64 a.1, .int .i64 a.2]) true).run Tryd.prog w' = .ok (.tuple #[contV X xa X.t.args.length X.t.args.length, .bool false]) w') := fun w' hm => by
    have := hm.lookup_ok (P := Tryd.prog) (t := 63) (k := 26) (e := 33) adrKey Tryd.underlying63 zeroCon a
    rw [HX.out, HIS.out] at this
    exact this
  have hS3 : w3.drew.cell? ⟨gb, 0, none⟩ = some (.map (some mb)) ∧ w3.drew.cell? ⟨w.heap.size, 0, none⟩ = some (.int .i64 a.1) ∧ w3.drew.cell? ⟨w.heap.size, 1, none⟩ = some (.int .i64 a.2) ∧ MapIs w3.drew mb E := ⟨hc3, p0, p1, HP3.out.map⟩
  refine wp_region_held_drew (S := fun w' => w'.cell? ⟨gb, 0, none⟩ = some (.map (some mb)) ∧ w'.cell? ⟨w.heap.size, 0, none⟩ = some (.int .i64 a.1) ∧ w'.cell? ⟨w.heap.size, 1, none⟩ = some (.int .i64 a.2) ∧ MapIs w' mb E) (by kernel_rfl) hS3 (fun hHeld => ?_)
  refine wpAnyH_take (i := 0) (oi := _) (v := ?_) rfl (by kernel_rfl) (by kernel_rfl) (by kernel_rfl) (fun _ _ _ h => h) (Or.inl ⟨by rfl, ?_⟩) (by assumption) ?_
  rotate_left
  · intro w hSw; (try dsimp only at hSw); obtain ⟨s0, s1, s2, s3⟩ := hSw; go_simp; first | done | with_reducible rfl
  try simp only [Act.put, List.getElem_toArray, List.getElem_cons_zero, List.setIfInBounds_toArray, List.set_cons_zero, List.set_cons_succ]
  refine wpAnyH_take (i := 1) (oi := _) (v := ?_) rfl (by kernel_rfl) (by kernel_rfl) (by kernel_rfl) (fun _ _ _ h => h) (Or.inl ⟨by rfl, ?_⟩) (by assumption) ?_
  rotate_left
  · intro w hSw; (try dsimp only at hSw); obtain ⟨s0, s1, s2, s3⟩ := hSw; go_simp; first | done | with_reducible rfl
  try simp only [Act.put, List.getElem_toArray, List.getElem_cons_zero, List.getElem_cons_succ, List.setIfInBounds_toArray, List.set_cons_zero, List.set_cons_succ]
  refine wpAnyH_take (i := 2) (oi := _) (v := ?_) rfl (by kernel_rfl) (by kernel_rfl) (by kernel_rfl) (fun _ _ _ h => h) (Or.inl ⟨by rfl, ?_⟩) (by assumption) ?_
  rotate_left
  · intro w hSw; (try dsimp only at hSw); obtain ⟨s0, s1, s2, s3⟩ := hSw; go_simp; first | done | with_reducible rfl
  try simp only [Act.put, List.getElem_toArray, List.getElem_cons_zero, List.getElem_cons_succ, List.setIfInBounds_toArray, List.set_cons_zero, List.set_cons_succ]
  refine wpAnyH_take (i := 3) (oi := _) (v := ?_) rfl (by kernel_rfl) (by kernel_rfl) (by kernel_rfl) (fun _ _ _ h => h) (Or.inl ⟨by rfl, ?_⟩) (by assumption) ?_
  rotate_left
  · intro w hSw; (try dsimp only at hSw); obtain ⟨s0, s1, s2, s3⟩ := hSw; go_simp; first | done | with_reducible rfl
  try simp only [Act.put, List.getElem_toArray, List.getElem_cons_zero, List.getElem_cons_succ, List.setIfInBounds_toArray, List.set_cons_zero, List.set_cons_succ]
  refine wpAnyH_take (i := 4) (oi := _) (v := ?_) rfl (by kernel_rfl) (by kernel_rfl) (by kernel_rfl) (fun _ _ _ h => h) (Or.inl ⟨by rfl, ?_⟩) (by assumption) ?_
  rotate_left
  · intro w hSw; (try dsimp only at hSw); obtain ⟨s0, s1, s2, s3⟩ := hSw; go_simp; first | done | with_reducible rfl
  try simp only [Act.put, List.getElem_toArray, List.getElem_cons_zero, List.getElem_cons_succ, List.setIfInBounds_toArray, List.set_cons_zero, List.set_cons_succ]
  refine wpAnyH_take (i := 5) (oi := _) (v := ?_) rfl (by kernel_rfl) (by kernel_rfl) (by kernel_rfl) (fun _ _ _ h => h) (Or.inl ⟨by rfl, ?_⟩) (by assumption) ?_
  rotate_left
  · intro w hSw; (try dsimp only at hSw); obtain ⟨s0, s1, s2, s3⟩ := hSw; have hl := HL.out _ s3; go_simp; first | done | with_reducible rfl
  try simp only [Act.put, List.getElem_toArray, List.getElem_cons_zero, List.getElem_cons_succ, List.setIfInBounds_toArray, List.set_cons_zero, List.set_cons_succ]
  refine wpAnyH_take (i := 6) (oi := _) (v := ?_) rfl (by kernel_rfl) (by kernel_rfl) (by kernel_rfl) (fun _ _ _ h => h) (Or.inl ⟨by rfl, ?_⟩) (by assumption) ?_
  rotate_left
  · intro w hSw; (try dsimp only at hSw); go_simp; first | done | with_reducible rfl
  try simp only [Act.put, List.getElem_toArray, List.getElem_cons_zero, List.getElem_cons_succ, List.setIfInBounds_toArray, List.set_cons_zero, List.set_cons_succ]
  refine wpAnyH_take (i := 7) (oi := _) (v := ?_) rfl (by kernel_rfl) (by kernel_rfl) (by kernel_rfl) (fun _ _ _ h => h) (Or.inl ⟨by rfl, ?_⟩) (by assumption) ?_
  rotate_left
  · intro w hSw; (try dsimp only at hSw); go_simp; first | done | with_reducible rfl
  try simp only [Act.put, List.getElem_toArray, List.getElem_cons_zero, List.getElem_cons_succ, List.setIfInBounds_toArray, List.set_cons_zero, List.set_cons_succ]
  refine wpAnyH_take (i := 8) (oi := _) (v := ?_) rfl (by kernel_rfl) (by kernel_rfl) (by kernel_rfl) (fun _ _ _ h => h) (Or.inl ⟨by rfl, ?_⟩) (by assumption) ?_
  rotate_left
  · intro w hSw; (try dsimp only at hSw); go_simp; first | done | with_reducible rfl
  try simp only [Act.put, List.getElem_toArray, List.getElem_cons_zero, List.getElem_cons_succ, List.setIfInBounds_toArray, List.set_cons_zero, List.set_cons_succ]
  refine wpAnyH_ready (rs := [9]) (by kernel_rfl) (by simp) ?_
  refine AllReadyH.cons (o := _) rfl (fun K hK => ?_) AllReadyH.nil
  go_simp
  obtain ⟨wD, hwD⟩ : ∃ wD, (w3.alloc (.cells #[.int .i64 0, .int .i64 0, .float .f64 0, .string ⟨#[]⟩, .bool false, .int .i64 0, .int .i64 0, .int .i64 0, .float .f64 0, .string ⟨#[]⟩, .bool false, .int .i64 0, .int .i64 0, .int .i64 0, .bool false, .bool false, .int .i64 0, .int .i64 0, .bool false, .bool false, .slice none 0 0] 33)).drew = wD := ⟨_, rfl⟩
  have hxD : Xt w3 wD := by rw [← hwD]; exact ((Xt.refl w3).alloc _).drew
  have hrD : wD.heap[w3.heap.size]? = some (.cells #[.int .i64 0, .int .i64 0, .float .f64 0, .string ⟨#[]⟩, .bool false, .int .i64 0, .int .i64 0, .int .i64 0, .float .f64 0, .string ⟨#[]⟩, .bool false, .int .i64 0, .int .i64 0, .int .i64 0, .bool false, .bool false, .int .i64 0, .int .i64 0, .bool false, .bool false, .slice none 0 0] 33 (0, 0)) := by rw [← hwD]; exact (MapKept.heap_alloc w3 _).1
  have HPD := Lib.hid (HP3.out.step hxD)
  rw [hwD]
  refine hK.out _ _ ⟨HPD.out.cell, HPD.out.ad.1, HPD.out.ad.2, HPD.out.map⟩ (fun hHeld2 => ?_)
  clear hK K
  try simp only [Act.put, List.getElem_toArray, List.getElem_cons_zero, List.getElem_cons_succ, List.setIfInBounds_toArray, List.set_cons_zero, List.set_cons_succ]
  refine wpAnyH_ready (rs := [10]) (by kernel_rfl) (by simp) ?_
  refine AllReadyH.cons (o := _) rfl (fun K hK => ?_) AllReadyH.nil
  rw [if_pos (by rfl)]
  obtain ⟨w4, hw4⟩ : ∃ w4, wD.setRow w3.heap.size (contV X xa X.t.args.length X.t.args.length).cells = w4 := ⟨_, rfl⟩
  have hx4 : Xt w3 w4 := by rw [← hw4]; exact hxD.grownB (setRow_grown _ _ _) (fun m hm => by cases hm; exact Nat.le_refl _)
  refine wp_store_row 33 _ _ rfl w3.heap.size (contV X xa X.t.args.length X.t.args.length).cells rfl rfl 33 _ hrD (by kernel_rfl) rfl (by simp [Value.oneCell', Value.cells]) ?_
  rw [hw4]
  have HP4 := Lib.hid (HP3.out.step hx4)
  refine hK.out _ _ ⟨HP4.out.cell, HP4.out.ad.1, HP4.out.ad.2, HP4.out.map⟩ (fun hHeld3 => ?_)
  clear hK K
  try simp only [Act.put, List.getElem_toArray, List.getElem_cons_zero, List.getElem_cons_succ]
  refine wpAnyH_take (i := 11) (oi := _) (v := ?_) rfl (by kernel_rfl) (by kernel_rfl) (by kernel_rfl) (fun _ _ _ h => h) (Or.inl ⟨by rfl, ?_⟩) (by assumption) ?_
  rotate_left
  · intro w hSw; (try dsimp only at hSw); go_simp; first | done | with_reducible rfl
  try simp only [Act.put, List.getElem_toArray, List.getElem_cons_zero, List.getElem_cons_succ, List.setIfInBounds_toArray, List.set_cons_zero, List.set_cons_succ]
  refine wpAnyH_done (by kernel_rfl) ?_ _
  have hc4 := HP4.out.cell
  have hlen : ∀ ty, (Builtin.len_ #[63] ty #[.map (some mb)]).run Tryd.prog w4 = .ok (.int .i64 M.length) w4 := fun ty => by rw [← HLM.out]; exact HP4.out.map.len Tryd.underlying63
  have hge : (4096 : Int) ≤ (M.length : Int) := by have := HLE.out; omega
  go_wp2_with fail
  go_ret
  exact ⟨rfl, HP4.out.xt⟩
end Go.Proofs.YtfpdleljhbkehaaDoor
