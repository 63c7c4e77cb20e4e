import Derived.Test.YtideclfpbpjebaaGreatDoorB29
import Derived.Deep.Cut
namespace Go.Proofs.YtideclfpbpjebaaGreatDoor
section
open Go.RowKit Go.Sort
theorem ArgsS.kept {S : Nat → Prop} {w w' : World} (hx : CellsIn w w') : ∀ {n : Nat} {av : Value} {l : List NodeT}, ArgsS S w n av l → ArgsS S w' n av l
  | 0, _, _, h => h
  | n + 1, _, _, h => by
    obtain ⟨a, cap, rfl, h1, h2, h3⟩ := h
    refine ⟨a, cap, rfl, h1, h2, fun hne => ?_⟩
    obtain ⟨b, off, rfl, hS, hc⟩ := h3 hne
    refine ⟨b, off, rfl, hS, fun k t ht => ?_⟩
    obtain ⟨av', hcell, hin⟩ := hc k t ht
    exact ⟨av', fun i u hu => hx _ _ _ (hcell i u hu), hin.kept hx⟩
/-- The copy's nodes lie in blocks that have been laid since w. -/
def locS (w w' : World) (c : ContT) (x : Option Addr) : Prop := ∃ n, ArgsS (fun b => w.heap.size ≤ b) w' n (.slice x c.t.args.length c.t.args.length) (copyL c.t.args)
set_option maxRecDepth 100000 in
set_option maxHeartbeats 4000000 in
theorem gput_oldS (n : Nat) (gb mb : Nat) (M : GM) (a : Ad) (c : ContT) (ca : Option Addr) (cap : Nat) (w : World) (h : GridIs w gb mb M) (hok : c.ok) (hT : Tabs w) (hsm : smallT c.t) (hin : ArgsIn w n (.slice ca c.t.args.length cap) c.t.args) (hb : gvalidB c = true) (hb2 : validB a.1 a.2 = true) (hk : (c.kind == 0) = false) (his : (lkM a M).isSome = true) : Calls Tryz.prog 10 #[.pointer (some ⟨gb, 0, none⟩), .agg #[.int .i64 a.1, .int .i64 a.2], contV c ca c.t.args.length cap] w fun e w' => ∃ x, e = .returned (.int .i64 0) ∧ GridIs w' gb mb (setM a (copyC c, x) M) ∧ w.grownBy w' (some mb) ∧ locS w w' c x := by
  have H := Lib.hid h
  obtain ⟨E, he, w1, hw1, hP1⟩ := put_start h a c ca cap
  have HE := Lib.hid he
  have HP1 := Lib.hid hP1
  have HLM : Hid (E.length = M.length) := Lib.hid ((H.out.xt hP1.xt).len hP1.map he)
  have HIN := Lib.hid hin
  have HSM := Lib.hid hsm
  have HV := Lib.hid (gvalid_any n c ca cap w1 hok (hT.xt hP1.xt) (hin.xt hP1.xt))
  clear h he hP1 hin hsm hok hT
  have HIS : Hid ((lk a E).isSome = true) := by have h0 := HE.out a; rw [h0, Option.isSome_map]; exact his
  obtain ⟨⟨X, xa⟩, hX⟩ : ∃ x, (lkM a M).getD (zeroC, none) = x := ⟨_, rfl⟩
  have HX : Hid ((lk a E).getD (contV zeroC none 0 0) = contV X xa X.t.args.length X.t.args.length) := by rw [HE.out]; revert hX; cases lkM a M <;> (intro hX; cases hX; rfl)
  have HLS : Hid (∀ x, (setM a (copyC c, x) M).length ≤ 4096) := Lib.hid (fun x => by rw [len_setM H.out.sorted his]; exact H.out.many)
  clear his hX
  have HB := Lib.hid hb
  have HB2 := Lib.hid hb2
  clear hb hb2
  go_enter Tryz.func10, Tryz.ntmps10
  go_wp2_with (first
    | (refine HV.out.mono ?_; rintro e w2 ⟨rfl, hx2⟩; rw [HB.out]; have HP2 := Lib.hid (HP1.out.step hx2); have hc2 := HP2.out.cell; obtain ⟨d0, d1⟩ := HP2.out.ad;  clear hx2)
    | (refine (valid_gr a.1 a.2 w2).mono ?_; rintro e w3 ⟨rfl, hg3⟩; rw [HB2.out]; have HP3 := Lib.hid (HP2.out.step hg3.xt); have hc3 := HP3.out.cell; obtain ⟨p0, p1⟩ := HP3.out.ad; have k3 := HP3.out.kind; clear hg3)
    | (refine BigFrame.wpList_want (by rfl) (fun K hK => wp_load_row 46 _ rfl (w.heap.size + 1) rfl 46 _ (0, 0) _ HP1.out.con Tryz.underlying46 rfl (by kernel_rfl) (hK _ _ ?_)); clear hK K))
  have HL : Hid (∀ w', MapIs w' mb E → (Instr.lookup 66 (.map (some mb)) (.agg #[.int .i64 a.1, .int .i64 a.2]) true).run Tryz.prog w' = .ok (.tuple #[contV X xa X.t.args.length X.t.args.length, .bool true]) w') := fun w' hm => by
    have := hm.lookup_ok (P := Tryz.prog) (t := 66) (k := 36) (e := 46) adrKey Tryz.underlying66 zeroCon a
    rw [HX.out, HIS.out] at this
    exact this
  have hS3 : w3.drew.cell? ⟨gb, 0, none⟩ = some (.map (some mb)) ∧ w3.drew.cell? ⟨w.heap.size, 0, none⟩ = some (.int .i64 a.1) ∧ w3.drew.cell? ⟨w.heap.size, 1, none⟩ = some (.int .i64 a.2) ∧ MapIs w3.drew mb E := ⟨hc3, p0, p1, HP3.out.map⟩
  refine wp_region_held_drew (S := fun w' => w'.cell? ⟨gb, 0, none⟩ = some (.map (some mb)) ∧ w'.cell? ⟨w.heap.size, 0, none⟩ = some (.int .i64 a.1) ∧ w'.cell? ⟨w.heap.size, 1, none⟩ = some (.int .i64 a.2) ∧ MapIs w' mb E) (by kernel_rfl) hS3 (fun hHeld => ?_)
  refine wpAnyH_take (i := 0) (oi := _) (v := ?_) rfl (by kernel_rfl) (by kernel_rfl) (by kernel_rfl) (fun _ _ _ h => h) (Or.inl ⟨by rfl, ?_⟩) (by assumption) ?_
  rotate_left
  · intro w hSw; (try dsimp only at hSw); obtain ⟨s0, s1, s2, s3⟩ := hSw; go_simp; first | done | with_reducible rfl
  try simp only [Act.put, List.getElem_toArray, List.getElem_cons_zero, List.setIfInBounds_toArray, List.set_cons_zero, List.set_cons_succ]
  refine wpAnyH_take (i := 1) (oi := _) (v := ?_) rfl (by kernel_rfl) (by kernel_rfl) (by kernel_rfl) (fun _ _ _ h => h) (Or.inl ⟨by rfl, ?_⟩) (by assumption) ?_
  rotate_left
  · intro w hSw; (try dsimp only at hSw); obtain ⟨s0, s1, s2, s3⟩ := hSw; go_simp; first | done | with_reducible rfl
  try simp only [Act.put, List.getElem_toArray, List.getElem_cons_zero, List.getElem_cons_succ, List.setIfInBounds_toArray, List.set_cons_zero, List.set_cons_succ]
  refine wpAnyH_take (i := 2) (oi := _) (v := ?_) rfl (by kernel_rfl) (by kernel_rfl) (by kernel_rfl) (fun _ _ _ h => h) (Or.inl ⟨by rfl, ?_⟩) (by assumption) ?_
  rotate_left
  · intro w hSw; (try dsimp only at hSw); obtain ⟨s0, s1, s2, s3⟩ := hSw; go_simp; first | done | with_reducible rfl
  try simp only [Act.put, List.getElem_toArray, List.getElem_cons_zero, List.getElem_cons_succ, List.setIfInBounds_toArray, List.set_cons_zero, List.set_cons_succ]
  refine wpAnyH_take (i := 3) (oi := _) (v := ?_) rfl (by kernel_rfl) (by kernel_rfl) (by kernel_rfl) (fun _ _ _ h => h) (Or.inl ⟨by rfl, ?_⟩) (by assumption) ?_
  rotate_left
  · intro w hSw; (try dsimp only at hSw); obtain ⟨s0, s1, s2, s3⟩ := hSw; go_simp; first | done | with_reducible rfl
  try simp only [Act.put, List.getElem_toArray, List.getElem_cons_zero, List.getElem_cons_succ, List.setIfInBounds_toArray, List.set_cons_zero, List.set_cons_succ]
  refine wpAnyH_take (i := 4) (oi := _) (v := ?_) rfl (by kernel_rfl) (by kernel_rfl) (by kernel_rfl) (fun _ _ _ h => h) (Or.inl ⟨by rfl, ?_⟩) (by assumption) ?_
  rotate_left
  · intro w hSw; (try dsimp only at hSw); obtain ⟨s0, s1, s2, s3⟩ := hSw; go_simp; first | done | with_reducible rfl
  try simp only [Act.put, List.getElem_toArray, List.getElem_cons_zero, List.getElem_cons_succ, List.setIfInBounds_toArray, List.set_cons_zero, List.set_cons_succ]
  refine wpAnyH_take (i := 5) (oi := _) (v := ?_) rfl (by kernel_rfl) (by kernel_rfl) (by kernel_rfl) (fun _ _ _ h => h) (Or.inl ⟨by rfl, ?_⟩) (by assumption) ?_
  rotate_left
  · intro w hSw; (try dsimp only at hSw); obtain ⟨s0, s1, s2, s3⟩ := hSw; have hl := HL.out _ s3; go_simp; first | done | with_reducible rfl
  try simp only [Act.put, List.getElem_toArray, List.getElem_cons_zero, List.getElem_cons_succ, List.setIfInBounds_toArray, List.set_cons_zero, List.set_cons_succ]
  refine wpAnyH_take (i := 6) (oi := _) (v := ?_) rfl (by kernel_rfl) (by kernel_rfl) (by kernel_rfl) (fun _ _ _ h => h) (Or.inl ⟨by rfl, ?_⟩) (by assumption) ?_
  rotate_left
  · intro w hSw; (try dsimp only at hSw); go_simp; first | done | with_reducible rfl
  try simp only [Act.put, List.getElem_toArray, List.getElem_cons_zero, List.getElem_cons_succ, List.setIfInBounds_toArray, List.set_cons_zero, List.set_cons_succ]
  refine wpAnyH_take (i := 7) (oi := _) (v := ?_) rfl (by kernel_rfl) (by kernel_rfl) (by kernel_rfl) (fun _ _ _ h => h) (Or.inl ⟨by rfl, ?_⟩) (by assumption) ?_
  rotate_left
  · intro w hSw; (try dsimp only at hSw); go_simp; first | done | with_reducible rfl
  try simp only [Act.put, List.getElem_toArray, List.getElem_cons_zero, List.getElem_cons_succ, List.setIfInBounds_toArray, List.set_cons_zero, List.set_cons_succ]
  refine wpAnyH_take (i := 8) (oi := _) (v := ?_) rfl (by kernel_rfl) (by kernel_rfl) (by kernel_rfl) (fun _ _ _ h => h) (Or.inl ⟨by rfl, ?_⟩) (by assumption) ?_
  rotate_left
  · intro w hSw; (try dsimp only at hSw); go_simp; first | done | with_reducible rfl
  try simp only [Act.put, List.getElem_toArray, List.getElem_cons_zero, List.getElem_cons_succ, List.setIfInBounds_toArray, List.set_cons_zero, List.set_cons_succ]
  refine wpAnyH_ready (rs := [9]) (by kernel_rfl) (by simp) ?_
  refine AllReadyH.cons (o := _) rfl (fun K hK => ?_) AllReadyH.nil
  go_simp
  obtain ⟨wD, hwD⟩ : ∃ wD, (w3.alloc (.cells #[.int .i64 0, .int .i64 0, .float .f64 0, .string ⟨#[]⟩, .bool false, .int .i64 0, .int .i64 0, .int .i64 0, .float .f64 0, .string ⟨#[]⟩, .bool false, .int .i64 0, .int .i64 0, .int .i64 0, .bool false, .bool false, .int .i64 0, .int .i64 0, .bool false, .bool false, .slice none 0 0] 46)).drew = wD := ⟨_, rfl⟩
  have hxD : Xt w3 wD := by rw [← hwD]; exact ((Xt.refl w3).alloc _).drew
  have hrD : wD.heap[w3.heap.size]? = some (.cells #[.int .i64 0, .int .i64 0, .float .f64 0, .string ⟨#[]⟩, .bool false, .int .i64 0, .int .i64 0, .int .i64 0, .float .f64 0, .string ⟨#[]⟩, .bool false, .int .i64 0, .int .i64 0, .int .i64 0, .bool false, .bool false, .int .i64 0, .int .i64 0, .bool false, .bool false, .slice none 0 0] 46 (0, 0)) := by rw [← hwD]; exact (MapKept.heap_alloc w3 _).1
  have HPD := Lib.hid (HP3.out.step hxD)
  rw [hwD]
  refine hK.out _ _ ⟨HPD.out.cell, HPD.out.ad.1, HPD.out.ad.2, HPD.out.map⟩ (fun hHeld2 => ?_)
  clear hK K
  try simp only [Act.put, List.getElem_toArray, List.getElem_cons_zero, List.getElem_cons_succ, List.setIfInBounds_toArray, List.set_cons_zero, List.set_cons_succ]
  refine wpAnyH_ready (rs := [10]) (by kernel_rfl) (by simp) ?_
  refine AllReadyH.cons (o := _) rfl (fun K hK => ?_) AllReadyH.nil
  rw [if_pos (by rfl)]
  obtain ⟨w4, hw4⟩ : ∃ w4, wD.setRow w3.heap.size (contV X xa X.t.args.length X.t.args.length).cells = w4 := ⟨_, rfl⟩
  have hx4 : Xt w3 w4 := by rw [← hw4]; exact hxD.grownB (setRow_grown _ _ _) (fun m hm => by cases hm; exact Nat.le_refl _)
  refine wp_store_row 46 _ _ rfl w3.heap.size (contV X xa X.t.args.length X.t.args.length).cells rfl rfl 46 _ hrD (by kernel_rfl) rfl (by simp [Value.oneCell', Value.cells]) ?_
  rw [hw4]
  have HP4 := Lib.hid (HP3.out.step hx4)
  refine hK.out _ _ ⟨HP4.out.cell, HP4.out.ad.1, HP4.out.ad.2, HP4.out.map⟩ (fun hHeld3 => ?_)
  clear hK K
  try simp only [Act.put, List.getElem_toArray, List.getElem_cons_zero, List.getElem_cons_succ]
  refine wpAnyH_take (i := 11) (oi := _) (v := ?_) rfl (by kernel_rfl) (by kernel_rfl) (by kernel_rfl) (fun _ _ _ h => h) (Or.inl ⟨by rfl, ?_⟩) (by assumption) ?_
  rotate_left
  · intro w hSw; (try dsimp only at hSw); go_simp; first | done | with_reducible rfl
  try simp only [Act.put, List.getElem_toArray, List.getElem_cons_zero, List.getElem_cons_succ, List.setIfInBounds_toArray, List.set_cons_zero, List.set_cons_succ]
  refine wpAnyH_done (by kernel_rfl) ?_ _
  have hc4 := HP4.out.cell
  have hlen : ∀ ty, (Builtin.len_ #[66] ty #[.map (some mb)]).run Tryz.prog w4 = .ok (.int .i64 M.length) w4 := fun ty => by rw [← HLM.out]; exact HP4.out.map.len Tryz.underlying66
  go_wp2_with fail
  have hS4 : w4.drew.cell? ⟨gb, 0, none⟩ = some (.map (some mb)) ∧ w4.drew.cell? ⟨w.heap.size, 0, none⟩ = some (.int .i64 a.1) ∧ w4.drew.cell? ⟨w.heap.size, 1, none⟩ = some (.int .i64 a.2) ∧ w4.drew.rangeAt (w.heap.size + 1) 0 [.int .i64 c.kind, .int .i64 c.v.kind, .float .f64 c.v.x, .string c.v.s, .bool c.v.b, .int .i64 c.v.f, .int .i64 c.t.kind, .int .i64 c.t.op, .float .f64 c.t.x, .string c.t.s, .bool c.t.b, .int .i64 c.t.f, .int .i64 c.t.ref.a.1, .int .i64 c.t.ref.a.2, .bool c.t.ref.cf, .bool c.t.ref.rf, .int .i64 c.t.to.a.1, .int .i64 c.t.to.a.2, .bool c.t.to.cf, .bool c.t.to.rf, .slice ca c.t.args.length cap] := ⟨HP4.out.cell, HP4.out.ad.1, HP4.out.ad.2, range_row HP4.out.con⟩
  have HGC := Lib.hid (gcopy_any n c ca cap w4.drew HSM.out (HIN.out.xt HP4.out.xt.drew))
  refine wp_region_held_drew (S := fun w' => w'.cell? ⟨gb, 0, none⟩ = some (.map (some mb)) ∧ w'.cell? ⟨w.heap.size, 0, none⟩ = some (.int .i64 a.1) ∧ w'.cell? ⟨w.heap.size, 1, none⟩ = some (.int .i64 a.2) ∧ w'.rangeAt (w.heap.size + 1) 0 [.int .i64 c.kind, .int .i64 c.v.kind, .float .f64 c.v.x, .string c.v.s, .bool c.v.b, .int .i64 c.v.f, .int .i64 c.t.kind, .int .i64 c.t.op, .float .f64 c.t.x, .string c.t.s, .bool c.t.b, .int .i64 c.t.f, .int .i64 c.t.ref.a.1, .int .i64 c.t.ref.a.2, .bool c.t.ref.cf, .bool c.t.ref.rf, .int .i64 c.t.to.a.1, .int .i64 c.t.to.a.2, .bool c.t.to.cf, .bool c.t.to.rf, .slice ca c.t.args.length cap]) (by kernel_rfl) hS4 (fun hHeld => ?_)
  refine wpAnyH_take (i := 0) (oi := _) (v := ?_) rfl (by kernel_rfl) (by kernel_rfl) (by kernel_rfl) (fun _ _ _ h => h) (Or.inl ⟨by rfl, ?_⟩) (by assumption) ?_
  rotate_left
  · intro w hSw; (try dsimp only at hSw); obtain ⟨s0, s1, s2, s3⟩ := hSw; clear s3; go_simp; first | done | with_reducible rfl
  try simp only [Act.put, List.getElem_toArray, List.getElem_cons_zero, List.setIfInBounds_toArray, List.set_cons_zero, List.set_cons_succ]
  refine wpAnyH_take (i := 1) (oi := _) (v := ?_) rfl (by kernel_rfl) (by kernel_rfl) (by kernel_rfl) (fun _ _ _ h => h) (Or.inl ⟨by rfl, ?_⟩) (by assumption) ?_
  rotate_left
  · intro w hSw; (try dsimp only at hSw); obtain ⟨s0, s1, s2, s3⟩ := hSw; clear s3; go_simp; first | done | with_reducible rfl
  try simp only [Act.put, List.getElem_toArray, List.getElem_cons_zero, List.getElem_cons_succ, List.setIfInBounds_toArray, List.set_cons_zero, List.set_cons_succ]
  refine wpAnyH_take (i := 2) (oi := _) (v := ?_) rfl (by kernel_rfl) (by kernel_rfl) (by kernel_rfl) (fun _ _ _ h => h) (Or.inl ⟨by rfl, ?_⟩) (by assumption) ?_
  rotate_left
  · intro w hSw; (try dsimp only at hSw); obtain ⟨s0, s1, s2, s3⟩ := hSw; clear s3; go_simp; first | done | with_reducible rfl
  try simp only [Act.put, List.getElem_toArray, List.getElem_cons_zero, List.getElem_cons_succ, List.setIfInBounds_toArray, List.set_cons_zero, List.set_cons_succ]
  refine wpAnyH_take (i := 3) (oi := _) (v := ?_) rfl (by kernel_rfl) (by kernel_rfl) (by kernel_rfl) (fun _ _ _ h => h) (Or.inl ⟨by rfl, ?_⟩) (by assumption) ?_
  rotate_left
  · intro w hSw; (try dsimp only at hSw); obtain ⟨s0, s1, s2, s3⟩ := hSw; clear s3; go_simp; first | done | with_reducible rfl
  try simp only [Act.put, List.getElem_toArray, List.getElem_cons_zero, List.getElem_cons_succ, List.setIfInBounds_toArray, List.set_cons_zero, List.set_cons_succ]
  refine wpAnyH_take (i := 4) (oi := _) (v := ?_) rfl (by kernel_rfl) (by kernel_rfl) (by kernel_rfl) (fun _ _ _ h => h) (Or.inl ⟨by rfl, ?_⟩) (by assumption) ?_
  rotate_left
  · intro w hSw; (try dsimp only at hSw); obtain ⟨s0, s1, s2, s3⟩ := hSw; clear s3; go_simp; first | done | with_reducible rfl
  try simp only [Act.put, List.getElem_toArray, List.getElem_cons_zero, List.getElem_cons_succ, List.setIfInBounds_toArray, List.set_cons_zero, List.set_cons_succ]
  refine wpAnyH_take (i := 5) (oi := _) (v := .agg #[.int .i64 c.kind, .int .i64 c.v.kind, .float .f64 c.v.x, .string c.v.s, .bool c.v.b, .int .i64 c.v.f, .int .i64 c.t.kind, .int .i64 c.t.op, .float .f64 c.t.x, .string c.t.s, .bool c.t.b, .int .i64 c.t.f, .int .i64 c.t.ref.a.1, .int .i64 c.t.ref.a.2, .bool c.t.ref.cf, .bool c.t.ref.rf, .int .i64 c.t.to.a.1, .int .i64 c.t.to.a.2, .bool c.t.to.cf, .bool c.t.to.rf, .slice ca c.t.args.length cap]) rfl (by kernel_rfl) (by kernel_rfl) (by kernel_rfl) (fun _ _ _ h => h) (yieldsIf_load_mid (by rfl) 46 _ rfl (w.heap.size + 1) 0 rfl [.int .i64 c.kind, .int .i64 c.v.kind, .float .f64 c.v.x, .string c.v.s, .bool c.v.b, .int .i64 c.v.f, .int .i64 c.t.kind, .int .i64 c.t.op, .float .f64 c.t.x, .string c.t.s, .bool c.t.b, .int .i64 c.t.f, .int .i64 c.t.ref.a.1, .int .i64 c.t.ref.a.2, .bool c.t.ref.cf, .bool c.t.ref.rf, .int .i64 c.t.to.a.1, .int .i64 c.t.to.a.2, .bool c.t.to.cf, .bool c.t.to.rf, .slice ca c.t.args.length cap] _ (fun w' hw' => hw'.2.2.2) Tryz.underlying46 rfl (by kernel_rfl)) (by assumption) ?_
  try simp only [Act.put, List.getElem_toArray, List.getElem_cons_zero, List.getElem_cons_succ, List.setIfInBounds_toArray, List.set_cons_zero, List.set_cons_succ]
  refine wpAnyH_ready (rs := [6]) (by kernel_rfl) (by simp) ?_
  refine AllReadyH.cons (o := _) rfl (fun K hK => ?_) AllReadyH.nil
  go_simp
  refine HGC.out.mono ?_
  rintro e w5 ⟨a', rfl, hA, hx5⟩
  have HP5 := Lib.hid (HP4.out.step ((Xt.refl w4).drew.trans hx5))
  refine hK.out _ _ ⟨HP5.out.cell, HP5.out.ad.1, HP5.out.ad.2, range_row HP5.out.con⟩ (fun hHeld2 => ?_)
  clear hK K
  try simp only [Act.put, List.getElem_toArray, List.getElem_cons_zero, List.getElem_cons_succ, List.setIfInBounds_toArray, List.set_cons_zero, List.set_cons_succ]
  obtain ⟨w6, hupd, hm6, hg6, hd6, hs6⟩ := HP5.out.map.update (P := Tryz.prog) (t := 66) (k := 36) (e := 46) adrKey Tryz.underlying66 a (copyCV c a')
  have hupd' : (Instr.mapUpdate 66 (.map (some mb)) (.agg #[.int .i64 a.1, .int .i64 a.2]) (copyCV c a')).run Tryz.prog w5 = .ok () w6 := hupd
  have HC6 : Hid (CellsIn w5 w6) := CellsIn.of_grown HP5.out.map hg6
  have HM6 := Lib.hid hm6
  have HG6 := Lib.hid hg6
  have HA := Lib.hid hA
  clear hm6 hg6 hA hupd
  refine wpAnyH_ready (rs := [7]) (by kernel_rfl) (by simp) ?_
  refine AllReadyH.cons (o := _) rfl (fun K hK => ?_) AllReadyH.nil
  go_simp
  refine hK.out _ _ ⟨HC6.out _ _ _ HP5.out.cell, HC6.out _ _ _ HP5.out.ad.1, HC6.out _ _ _ HP5.out.ad.2, fun j v hv => HC6.out _ _ _ (range_row HP5.out.con j v hv)⟩ (fun hHeld3 => ?_)
  clear hK K
  try simp only [Act.put, List.getElem_toArray, List.getElem_cons_zero, List.getElem_cons_succ, List.setIfInBounds_toArray, List.set_cons_zero, List.set_cons_succ]
  refine wpAnyH_done (by kernel_rfl) ?_ _
  go_wp2_with fail
  go_ret
  refine ⟨a', rfl, H.out.put (HP5.out.xt.cellsIn.trans HC6.out) HE.out (x := (copyC c, a')) (by rw [ceV_copy]) HM6.out ⟨smallT_copy _ HSM.out, n, ?_⟩ (HLS.out a'), ?_, n, (HA.out.kept HC6.out).keep (fun b hb _ => Nat.le_trans HP4.out.xt.size hb) (fun _ _ _ _ => rfl)⟩
  · have h0 := HA.out.args.kept HC6.out
    show ArgsIn w6 n (.slice a' (copyT c.t).args.length (copyT c.t).args.length) (copyT c.t).args
    rw [copyT_len, copyT_args]; exact h0
  · have hx := HP5.out.xt
    exact ⟨HG6.out.os.trans hx.os, HG6.out.tape.trans hx.tape, HG6.out.output.trans hx.output, Nat.le_trans hx.size HG6.out.size, fun k hk hne => (HG6.out.block k (Nat.lt_of_lt_of_le hk hx.size) hne).trans (hx.block k hk)⟩
set_option maxRecDepth 100000 in
set_option maxHeartbeats 4000000 in
theorem gput_newS (n : Nat) (gb mb : Nat) (M : GM) (a : Ad) (c : ContT) (ca : Option Addr) (cap : Nat) (w : World) (h : GridIs w gb mb M) (hok : c.ok) (hT : Tabs w) (hsm : smallT c.t) (hin : ArgsIn w n (.slice ca c.t.args.length cap) c.t.args) (hb : gvalidB c = true) (hb2 : validB a.1 a.2 = true) (hk : (c.kind == 0) = false) (his : (lkM a M).isSome = false) (hlt : M.length < 4096) : Calls Tryz.prog 10 #[.pointer (some ⟨gb, 0, none⟩), .agg #[.int .i64 a.1, .int .i64 a.2], contV c ca c.t.args.length cap] w fun e w' => ∃ x, e = .returned (.int .i64 0) ∧ GridIs w' gb mb (setM a (copyC c, x) M) ∧ w.grownBy w' (some mb) ∧ locS w w' c x := by
  have H := Lib.hid h
  obtain ⟨E, he, w1, hw1, hP1⟩ := put_start h a c ca cap
  have HE := Lib.hid he
  have HP1 := Lib.hid hP1
  have HLM : Hid (E.length = M.length) := Lib.hid ((H.out.xt hP1.xt).len hP1.map he)
  have HIN := Lib.hid hin
  have HSM := Lib.hid hsm
  have HV := Lib.hid (gvalid_any n c ca cap w1 hok (hT.xt hP1.xt) (hin.xt hP1.xt))
  clear h he hP1 hin hsm hok hT
  have HIS : Hid ((lk a E).isSome = false) := by have h0 := HE.out a; rw [h0, Option.isSome_map]; exact his
  obtain ⟨⟨X, xa⟩, hX⟩ : ∃ x, (lkM a M).getD (zeroC, none) = x := ⟨_, rfl⟩
  have HX : Hid ((lk a E).getD (contV zeroC none 0 0) = contV X xa X.t.args.length X.t.args.length) := by rw [HE.out]; revert hX; cases lkM a M <;> (intro hX; cases hX; rfl)
  have HLS : Hid (∀ x, (setM a (copyC c, x) M).length ≤ 4096) := Lib.hid (fun x => Nat.le_trans len_setM_le hlt)
  have HLT := Lib.hid hlt
  clear hlt
  clear his hX
  have HB := Lib.hid hb
  have HB2 := Lib.hid hb2
  clear hb hb2
  go_enter Tryz.func10, Tryz.ntmps10
  go_wp2_with (first
    | (refine HV.out.mono ?_; rintro e w2 ⟨rfl, hx2⟩; rw [HB.out]; have HP2 := Lib.hid (HP1.out.step hx2); have hc2 := HP2.out.cell; obtain ⟨d0, d1⟩ := HP2.out.ad;  clear hx2)
    | (refine (valid_gr a.1 a.2 w2).mono ?_; rintro e w3 ⟨rfl, hg3⟩; rw [HB2.out]; have HP3 := Lib.hid (HP2.out.step hg3.xt); have hc3 := HP3.out.cell; obtain ⟨p0, p1⟩ := HP3.out.ad; have k3 := HP3.out.kind; clear hg3)
    | (refine BigFrame.wpList_want (by rfl) (fun K hK => wp_load_row 46 _ rfl (w.heap.size + 1) rfl 46 _ (0, 0) _ HP1.out.con Tryz.underlying46 rfl (by kernel_rfl) (hK _ _ ?_)); clear hK K))
  have HL : Hid (∀ w', MapIs w' mb E → (Instr.lookup 66 (.map (some mb)) (.agg #[.int .i64 a.1, .int .i64 a.2]) true).run Tryz.prog w' = .ok (.tuple #[contV X xa X.t.args.length X.t.args.length, .bool false]) w') := fun w' hm => by
    have := hm.lookup_ok (P := Tryz.prog) (t := 66) (k := 36) (e := 46) adrKey Tryz.underlying66 zeroCon a
    rw [HX.out, HIS.out] at this
    exact this
  have hS3 : w3.drew.cell? ⟨gb, 0, none⟩ = some (.map (some mb)) ∧ w3.drew.cell? ⟨w.heap.size, 0, none⟩ = some (.int .i64 a.1) ∧ w3.drew.cell? ⟨w.heap.size, 1, none⟩ = some (.int .i64 a.2) ∧ MapIs w3.drew mb E := ⟨hc3, p0, p1, HP3.out.map⟩
  refine wp_region_held_drew (S := fun w' => w'.cell? ⟨gb, 0, none⟩ = some (.map (some mb)) ∧ w'.cell? ⟨w.heap.size, 0, none⟩ = some (.int .i64 a.1) ∧ w'.cell? ⟨w.heap.size, 1, none⟩ = some (.int .i64 a.2) ∧ MapIs w' mb E) (by kernel_rfl) hS3 (fun hHeld => ?_)
  refine wpAnyH_take (i := 0) (oi := _) (v := ?_) rfl (by kernel_rfl) (by kernel_rfl) (by kernel_rfl) (fun _ _ _ h => h) (Or.inl ⟨by rfl, ?_⟩) (by assumption) ?_
  rotate_left
  · intro w hSw; (try dsimp only at hSw); obtain ⟨s0, s1, s2, s3⟩ := hSw; go_simp; first | done | with_reducible rfl
  try simp only [Act.put, List.getElem_toArray, List.getElem_cons_zero, List.setIfInBounds_toArray, List.set_cons_zero, List.set_cons_succ]
  refine wpAnyH_take (i := 1) (oi := _) (v := ?_) rfl (by kernel_rfl) (by kernel_rfl) (by kernel_rfl) (fun _ _ _ h => h) (Or.inl ⟨by rfl, ?_⟩) (by assumption) ?_
  rotate_left
  · intro w hSw; (try dsimp only at hSw); obtain ⟨s0, s1, s2, s3⟩ := hSw; go_simp; first | done | with_reducible rfl
  try simp only [Act.put, List.getElem_toArray, List.getElem_cons_zero, List.getElem_cons_succ, List.setIfInBounds_toArray, List.set_cons_zero, List.set_cons_succ]
  refine wpAnyH_take (i := 2) (oi := _) (v := ?_) rfl (by kernel_rfl) (by kernel_rfl) (by kernel_rfl) (fun _ _ _ h => h) (Or.inl ⟨by rfl, ?_⟩) (by assumption) ?_
  rotate_left
  · intro w hSw; (try dsimp only at hSw); obtain ⟨s0, s1, s2, s3⟩ := hSw; go_simp; first | done | with_reducible rfl
  try simp only [Act.put, List.getElem_toArray, List.getElem_cons_zero, List.getElem_cons_succ, List.setIfInBounds_toArray, List.set_cons_zero, List.set_cons_succ]
  refine wpAnyH_take (i := 3) (oi := _) (v := ?_) rfl (by kernel_rfl) (by kernel_rfl) (by kernel_rfl) (fun _ _ _ h => h) (Or.inl ⟨by rfl, ?_⟩) (by assumption) ?_
  rotate_left
  · intro w hSw; (try dsimp only at hSw); obtain ⟨s0, s1, s2, s3⟩ := hSw; go_simp; first | done | with_reducible rfl
  try simp only [Act.put, List.getElem_toArray, List.getElem_cons_zero, List.getElem_cons_succ, List.setIfInBounds_toArray, List.set_cons_zero, List.set_cons_succ]
  refine wpAnyH_take (i := 4) (oi := _) (v := ?_) rfl (by kernel_rfl) (by kernel_rfl) (by kernel_rfl) (fun _ _ _ h => h) (Or.inl ⟨by rfl, ?_⟩) (by assumption) ?_
  rotate_left
  · intro w hSw; (try dsimp only at hSw); obtain ⟨s0, s1, s2, s3⟩ := hSw; go_simp; first | done | with_reducible rfl
  try simp only [Act.put, List.getElem_toArray, List.getElem_cons_zero, List.getElem_cons_succ, List.setIfInBounds_toArray, List.set_cons_zero, List.set_cons_succ]
  refine wpAnyH_take (i := 5) (oi := _) (v := ?_) rfl (by kernel_rfl) (by kernel_rfl) (by kernel_rfl) (fun _ _ _ h => h) (Or.inl ⟨by rfl, ?_⟩) (by assumption) ?_
  rotate_left
  · intro w hSw; (try dsimp only at hSw); obtain ⟨s0, s1, s2, s3⟩ := hSw; have hl := HL.out _ s3; go_simp; first | done | with_reducible rfl
  try simp only [Act.put, List.getElem_toArray, List.getElem_cons_zero, List.getElem_cons_succ, List.setIfInBounds_toArray, List.set_cons_zero, List.set_cons_succ]
  refine wpAnyH_take (i := 6) (oi := _) (v := ?_) rfl (by kernel_rfl) (by kernel_rfl) (by kernel_rfl) (fun _ _ _ h => h) (Or.inl ⟨by rfl, ?_⟩) (by assumption) ?_
  rotate_left
  · intro w hSw; (try dsimp only at hSw); go_simp; first | done | with_reducible rfl
  try simp only [Act.put, List.getElem_toArray, List.getElem_cons_zero, List.getElem_cons_succ, List.setIfInBounds_toArray, List.set_cons_zero, List.set_cons_succ]
  refine wpAnyH_take (i := 7) (oi := _) (v := ?_) rfl (by kernel_rfl) (by kernel_rfl) (by kernel_rfl) (fun _ _ _ h => h) (Or.inl ⟨by rfl, ?_⟩) (by assumption) ?_
  rotate_left
  · intro w hSw; (try dsimp only at hSw); go_simp; first | done | with_reducible rfl
  try simp only [Act.put, List.getElem_toArray, List.getElem_cons_zero, List.getElem_cons_succ, List.setIfInBounds_toArray, List.set_cons_zero, List.set_cons_succ]
  refine wpAnyH_take (i := 8) (oi := _) (v := ?_) rfl (by kernel_rfl) (by kernel_rfl) (by kernel_rfl) (fun _ _ _ h => h) (Or.inl ⟨by rfl, ?_⟩) (by assumption) ?_
  rotate_left
  · intro w hSw; (try dsimp only at hSw); go_simp; first | done | with_reducible rfl
  try simp only [Act.put, List.getElem_toArray, List.getElem_cons_zero, List.getElem_cons_succ, List.setIfInBounds_toArray, List.set_cons_zero, List.set_cons_succ]
  refine wpAnyH_ready (rs := [9]) (by kernel_rfl) (by simp) ?_
  refine AllReadyH.cons (o := _) rfl (fun K hK => ?_) AllReadyH.nil
  go_simp
  obtain ⟨wD, hwD⟩ : ∃ wD, (w3.alloc (.cells #[.int .i64 0, .int .i64 0, .float .f64 0, .string ⟨#[]⟩, .bool false, .int .i64 0, .int .i64 0, .int .i64 0, .float .f64 0, .string ⟨#[]⟩, .bool false, .int .i64 0, .int .i64 0, .int .i64 0, .bool false, .bool false, .int .i64 0, .int .i64 0, .bool false, .bool false, .slice none 0 0] 46)).drew = wD := ⟨_, rfl⟩
  have hxD : Xt w3 wD := by rw [← hwD]; exact ((Xt.refl w3).alloc _).drew
  have hrD : wD.heap[w3.heap.size]? = some (.cells #[.int .i64 0, .int .i64 0, .float .f64 0, .string ⟨#[]⟩, .bool false, .int .i64 0, .int .i64 0, .int .i64 0, .float .f64 0, .string ⟨#[]⟩, .bool false, .int .i64 0, .int .i64 0, .int .i64 0, .bool false, .bool false, .int .i64 0, .int .i64 0, .bool false, .bool false, .slice none 0 0] 46 (0, 0)) := by rw [← hwD]; exact (MapKept.heap_alloc w3 _).1
  have HPD := Lib.hid (HP3.out.step hxD)
  rw [hwD]
  refine hK.out _ _ ⟨HPD.out.cell, HPD.out.ad.1, HPD.out.ad.2, HPD.out.map⟩ (fun hHeld2 => ?_)
  clear hK K
  try simp only [Act.put, List.getElem_toArray, List.getElem_cons_zero, List.getElem_cons_succ, List.setIfInBounds_toArray, List.set_cons_zero, List.set_cons_succ]
  refine wpAnyH_ready (rs := [10]) (by kernel_rfl) (by simp) ?_
  refine AllReadyH.cons (o := _) rfl (fun K hK => ?_) AllReadyH.nil
  rw [if_pos (by rfl)]
  obtain ⟨w4, hw4⟩ : ∃ w4, wD.setRow w3.heap.size (contV X xa X.t.args.length X.t.args.length).cells = w4 := ⟨_, rfl⟩
  have hx4 : Xt w3 w4 := by rw [← hw4]; exact hxD.grownB (setRow_grown _ _ _) (fun m hm => by cases hm; exact Nat.le_refl _)
  refine wp_store_row 46 _ _ rfl w3.heap.size (contV X xa X.t.args.length X.t.args.length).cells rfl rfl 46 _ hrD (by kernel_rfl) rfl (by simp [Value.oneCell', Value.cells]) ?_
  rw [hw4]
  have HP4 := Lib.hid (HP3.out.step hx4)
  refine hK.out _ _ ⟨HP4.out.cell, HP4.out.ad.1, HP4.out.ad.2, HP4.out.map⟩ (fun hHeld3 => ?_)
  clear hK K
  try simp only [Act.put, List.getElem_toArray, List.getElem_cons_zero, List.getElem_cons_succ]
  refine wpAnyH_take (i := 11) (oi := _) (v := ?_) rfl (by kernel_rfl) (by kernel_rfl) (by kernel_rfl) (fun _ _ _ h => h) (Or.inl ⟨by rfl, ?_⟩) (by assumption) ?_
  rotate_left
  · intro w hSw; (try dsimp only at hSw); go_simp; first | done | with_reducible rfl
  try simp only [Act.put, List.getElem_toArray, List.getElem_cons_zero, List.getElem_cons_succ, List.setIfInBounds_toArray, List.set_cons_zero, List.set_cons_succ]
  refine wpAnyH_done (by kernel_rfl) ?_ _
  have hc4 := HP4.out.cell
  have hlen : ∀ ty, (Builtin.len_ #[66] ty #[.map (some mb)]).run Tryz.prog w4 = .ok (.int .i64 M.length) w4 := fun ty => by rw [← HLM.out]; exact HP4.out.map.len Tryz.underlying66
  have hge : ¬ (4096 : Int) ≤ (M.length : Int) := by have := HLT.out; omega
  go_wp2_with fail
  have hS4 : w4.drew.cell? ⟨gb, 0, none⟩ = some (.map (some mb)) ∧ w4.drew.cell? ⟨w.heap.size, 0, none⟩ = some (.int .i64 a.1) ∧ w4.drew.cell? ⟨w.heap.size, 1, none⟩ = some (.int .i64 a.2) ∧ w4.drew.rangeAt (w.heap.size + 1) 0 [.int .i64 c.kind, .int .i64 c.v.kind, .float .f64 c.v.x, .string c.v.s, .bool c.v.b, .int .i64 c.v.f, .int .i64 c.t.kind, .int .i64 c.t.op, .float .f64 c.t.x, .string c.t.s, .bool c.t.b, .int .i64 c.t.f, .int .i64 c.t.ref.a.1, .int .i64 c.t.ref.a.2, .bool c.t.ref.cf, .bool c.t.ref.rf, .int .i64 c.t.to.a.1, .int .i64 c.t.to.a.2, .bool c.t.to.cf, .bool c.t.to.rf, .slice ca c.t.args.length cap] := ⟨HP4.out.cell, HP4.out.ad.1, HP4.out.ad.2, range_row HP4.out.con⟩
  have HGC := Lib.hid (gcopy_any n c ca cap w4.drew HSM.out (HIN.out.xt HP4.out.xt.drew))
  refine wp_region_held_drew (S := fun w' => w'.cell? ⟨gb, 0, none⟩ = some (.map (some mb)) ∧ w'.cell? ⟨w.heap.size, 0, none⟩ = some (.int .i64 a.1) ∧ w'.cell? ⟨w.heap.size, 1, none⟩ = some (.int .i64 a.2) ∧ w'.rangeAt (w.heap.size + 1) 0 [.int .i64 c.kind, .int .i64 c.v.kind, .float .f64 c.v.x, .string c.v.s, .bool c.v.b, .int .i64 c.v.f, .int .i64 c.t.kind, .int .i64 c.t.op, .float .f64 c.t.x, .string c.t.s, .bool c.t.b, .int .i64 c.t.f, .int .i64 c.t.ref.a.1, .int .i64 c.t.ref.a.2, .bool c.t.ref.cf, .bool c.t.ref.rf, .int .i64 c.t.to.a.1, .int .i64 c.t.to.a.2, .bool c.t.to.cf, .bool c.t.to.rf, .slice ca c.t.args.length cap]) (by kernel_rfl) hS4 (fun hHeld => ?_)
  refine wpAnyH_take (i := 0) (oi := _) (v := ?_) rfl (by kernel_rfl) (by kernel_rfl) (by kernel_rfl) (fun _ _ _ h => h) (Or.inl ⟨by rfl, ?_⟩) (by assumption) ?_
  rotate_left
  · intro w hSw; (try dsimp only at hSw); obtain ⟨s0, s1, s2, s3⟩ := hSw; clear s3; go_simp; first | done | with_reducible rfl
  try simp only [Act.put, List.getElem_toArray, List.getElem_cons_zero, List.setIfInBounds_toArray, List.set_cons_zero, List.set_cons_succ]
  refine wpAnyH_take (i := 1) (oi := _) (v := ?_) rfl (by kernel_rfl) (by kernel_rfl) (by kernel_rfl) (fun _ _ _ h => h) (Or.inl ⟨by rfl, ?_⟩) (by assumption) ?_
  rotate_left
  · intro w hSw; (try dsimp only at hSw); obtain ⟨s0, s1, s2, s3⟩ := hSw; clear s3; go_simp; first | done | with_reducible rfl
  try simp only [Act.put, List.getElem_toArray, List.getElem_cons_zero, List.getElem_cons_succ, List.setIfInBounds_toArray, List.set_cons_zero, List.set_cons_succ]
  refine wpAnyH_take (i := 2) (oi := _) (v := ?_) rfl (by kernel_rfl) (by kernel_rfl) (by kernel_rfl) (fun _ _ _ h => h) (Or.inl ⟨by rfl, ?_⟩) (by assumption) ?_
  rotate_left
  · intro w hSw; (try dsimp only at hSw); obtain ⟨s0, s1, s2, s3⟩ := hSw; clear s3; go_simp; first | done | with_reducible rfl
  try simp only [Act.put, List.getElem_toArray, List.getElem_cons_zero, List.getElem_cons_succ, List.setIfInBounds_toArray, List.set_cons_zero, List.set_cons_succ]
  refine wpAnyH_take (i := 3) (oi := _) (v := ?_) rfl (by kernel_rfl) (by kernel_rfl) (by kernel_rfl) (fun _ _ _ h => h) (Or.inl ⟨by rfl, ?_⟩) (by assumption) ?_
  rotate_left
  · intro w hSw; (try dsimp only at hSw); obtain ⟨s0, s1, s2, s3⟩ := hSw; clear s3; go_simp; first | done | with_reducible rfl
  try simp only [Act.put, List.getElem_toArray, List.getElem_cons_zero, List.getElem_cons_succ, List.setIfInBounds_toArray, List.set_cons_zero, List.set_cons_succ]
  refine wpAnyH_take (i := 4) (oi := _) (v := ?_) rfl (by kernel_rfl) (by kernel_rfl) (by kernel_rfl) (fun _ _ _ h => h) (Or.inl ⟨by rfl, ?_⟩) (by assumption) ?_
  rotate_left
  · intro w hSw; (try dsimp only at hSw); obtain ⟨s0, s1, s2, s3⟩ := hSw; clear s3; go_simp; first | done | with_reducible rfl
  try simp only [Act.put, List.getElem_toArray, List.getElem_cons_zero, List.getElem_cons_succ, List.setIfInBounds_toArray, List.set_cons_zero, List.set_cons_succ]
  refine wpAnyH_take (i := 5) (oi := _) (v := .agg #[.int .i64 c.kind, .int .i64 c.v.kind, .float .f64 c.v.x, .string c.v.s, .bool c.v.b, .int .i64 c.v.f, .int .i64 c.t.kind, .int .i64 c.t.op, .float .f64 c.t.x, .string c.t.s, .bool c.t.b, .int .i64 c.t.f, .int .i64 c.t.ref.a.1, .int .i64 c.t.ref.a.2, .bool c.t.ref.cf, .bool c.t.ref.rf, .int .i64 c.t.to.a.1, .int .i64 c.t.to.a.2, .bool c.t.to.cf, .bool c.t.to.rf, .slice ca c.t.args.length cap]) rfl (by kernel_rfl) (by kernel_rfl) (by kernel_rfl) (fun _ _ _ h => h) (yieldsIf_load_mid (by rfl) 46 _ rfl (w.heap.size + 1) 0 rfl [.int .i64 c.kind, .int .i64 c.v.kind, .float .f64 c.v.x, .string c.v.s, .bool c.v.b, .int .i64 c.v.f, .int .i64 c.t.kind, .int .i64 c.t.op, .float .f64 c.t.x, .string c.t.s, .bool c.t.b, .int .i64 c.t.f, .int .i64 c.t.ref.a.1, .int .i64 c.t.ref.a.2, .bool c.t.ref.cf, .bool c.t.ref.rf, .int .i64 c.t.to.a.1, .int .i64 c.t.to.a.2, .bool c.t.to.cf, .bool c.t.to.rf, .slice ca c.t.args.length cap] _ (fun w' hw' => hw'.2.2.2) Tryz.underlying46 rfl (by kernel_rfl)) (by assumption) ?_
  try simp only [Act.put, List.getElem_toArray, List.getElem_cons_zero, List.getElem_cons_succ, List.setIfInBounds_toArray, List.set_cons_zero, List.set_cons_succ]
  refine wpAnyH_ready (rs := [6]) (by kernel_rfl) (by simp) ?_
  refine AllReadyH.cons (o := _) rfl (fun K hK => ?_) AllReadyH.nil
  go_simp
  refine HGC.out.mono ?_
  rintro e w5 ⟨a', rfl, hA, hx5⟩
  have HP5 := Lib.hid (HP4.out.step ((Xt.refl w4).drew.trans hx5))
  refine hK.out _ _ ⟨HP5.out.cell, HP5.out.ad.1, HP5.out.ad.2, range_row HP5.out.con⟩ (fun hHeld2 => ?_)
  clear hK K
  try simp only [Act.put, List.getElem_toArray, List.getElem_cons_zero, List.getElem_cons_succ, List.setIfInBounds_toArray, List.set_cons_zero, List.set_cons_succ]
  obtain ⟨w6, hupd, hm6, hg6, hd6, hs6⟩ := HP5.out.map.update (P := Tryz.prog) (t := 66) (k := 36) (e := 46) adrKey Tryz.underlying66 a (copyCV c a')
  have hupd' : (Instr.mapUpdate 66 (.map (some mb)) (.agg #[.int .i64 a.1, .int .i64 a.2]) (copyCV c a')).run Tryz.prog w5 = .ok () w6 := hupd
  have HC6 : Hid (CellsIn w5 w6) := CellsIn.of_grown HP5.out.map hg6
  have HM6 := Lib.hid hm6
  have HG6 := Lib.hid hg6
  have HA := Lib.hid hA
  clear hm6 hg6 hA hupd
  refine wpAnyH_ready (rs := [7]) (by kernel_rfl) (by simp) ?_
  refine AllReadyH.cons (o := _) rfl (fun K hK => ?_) AllReadyH.nil
  go_simp
  refine hK.out _ _ ⟨HC6.out _ _ _ HP5.out.cell, HC6.out _ _ _ HP5.out.ad.1, HC6.out _ _ _ HP5.out.ad.2, fun j v hv => HC6.out _ _ _ (range_row HP5.out.con j v hv)⟩ (fun hHeld3 => ?_)
  clear hK K
  try simp only [Act.put, List.getElem_toArray, List.getElem_cons_zero, List.getElem_cons_succ, List.setIfInBounds_toArray, List.set_cons_zero, List.set_cons_succ]
  refine wpAnyH_done (by kernel_rfl) ?_ _
  go_wp2_with fail
  go_ret
  refine ⟨a', rfl, H.out.put (HP5.out.xt.cellsIn.trans HC6.out) HE.out (x := (copyC c, a')) (by rw [ceV_copy]) HM6.out ⟨smallT_copy _ HSM.out, n, ?_⟩ (HLS.out a'), ?_, n, (HA.out.kept HC6.out).keep (fun b hb _ => Nat.le_trans HP4.out.xt.size hb) (fun _ _ _ _ => rfl)⟩
  · have h0 := HA.out.args.kept HC6.out
    show ArgsIn w6 n (.slice a' (copyT c.t).args.length (copyT c.t).args.length) (copyT c.t).args
    rw [copyT_len, copyT_args]; exact h0
  · have hx := HP5.out.xt
    exact ⟨HG6.out.os.trans hx.os, HG6.out.tape.trans hx.tape, HG6.out.output.trans hx.output, Nat.le_trans hx.size HG6.out.size, fun k hk hne => (HG6.out.block k (Nat.lt_of_lt_of_le hk hx.size) hne).trans (hx.block k hk)⟩
theorem gputS_any (n : Nat) (gb mb : Nat) (M : GM) (a : Ad) (c : ContT) (ca : Option Addr) (cap : Nat) (w : World) (h : GridIs w gb mb M) (hok : c.ok) (hT : Tabs w) (hsm : smallT c.t) (hin : ArgsIn w n (.slice ca c.t.args.length cap) c.t.args) : Calls Tryz.prog 10 #[.pointer (some ⟨gb, 0, none⟩), .agg #[.int .i64 a.1, .int .i64 a.2], contV c ca c.t.args.length cap] w fun e w' => ∃ x, e = .returned (.int .i64 (putCode M a c)) ∧ GridIs w' gb mb (putTo M a c x) ∧ w.grownBy w' (some mb) ∧ ((putTo M a c x = M ∨ putTo M a c x = delM a M) ∨ putTo M a c x = setM a (copyC c, x) M ∧ locS w w' c x) := by
  by_cases hb : gvalidB c = true ∧ validB a.1 a.2 = true ∧ (c.kind == 0) = false ∧ fullB M a = false
  · obtain ⟨hb, hb2, hk, hf⟩ := hb
    by_cases his : (lkM a M).isSome = true
    · refine (gput_oldS n gb mb M a c ca cap w h hok hT hsm hin hb hb2 hk his).mono ?_
      rintro e w' ⟨x, rfl, q1, q2, q3⟩
      have e1 : putTo M a c x = setM a (copyC c, x) M := by simp [putTo, hb, hb2, hk, hf]
      exact ⟨x, by simp [putCode, hb, hb2, hk, hf], by rw [e1]; exact q1, q2, Or.inr ⟨e1, q3⟩⟩
    · have his := Bool.eq_false_iff.2 his
      have hlt : M.length < 4096 := by
        unfold fullB at hf
        rw [his] at hf
        simp at hf
        omega
      refine (gput_newS n gb mb M a c ca cap w h hok hT hsm hin hb hb2 hk his hlt).mono ?_
      rintro e w' ⟨x, rfl, q1, q2, q3⟩
      have e1 : putTo M a c x = setM a (copyC c, x) M := by simp [putTo, hb, hb2, hk, hf]
      exact ⟨x, by simp [putCode, hb, hb2, hk, hf], by rw [e1]; exact q1, q2, Or.inr ⟨e1, q3⟩⟩
  · refine (gput_any n gb mb M a c ca cap w h hok hT hsm hin).mono ?_
    rintro e w' ⟨x, rfl, q1, q2⟩
    refine ⟨x, rfl, q1, q2, Or.inl ?_⟩
    unfold putTo
    cases h1 : gvalidB c
    · exact Or.inl rfl
    cases h2 : validB a.1 a.2
    · exact Or.inl rfl
    cases h3 : (c.kind == 0)
    · cases h4 : fullB M a
      · exact absurd ⟨h1, h2, h3, h4⟩ hb
      · exact Or.inl rfl
    · exact Or.inr rfl

theorem wpList_append_run {P : Program} (w : World) {ops : Array Oper} {rest : List Oper} {o : Oper} {a : Act} {Q : Exit → Act → World → Prop} (hgd : o.guard = none) (s x : Operand) (t : TypeId)
    (ho : o.op = .call { callee := .builtin .append, args := #[s, x], argTypes := #[t, t] }) (vs vx : Value) (hs : a.eval s = vs) (hx : a.eval x = vx) {v' : Value} {w' : World}
    (hr : (Builtin.append_ #[t, t] o.type #[vs, vx]).run P w = .ok v' w') (h : wpList P ops Q rest (a.put o.dst v') w') : wpList P ops Q (o :: rest) a w := by
  refine wpList_plain hgd fun K' hK' => ?_
  unfold Oper.wp execOp
  simp only [ho, resolve, invoke, builtin, Sem.run_bind, Sem.run_pure, Result.andThen_ok, List.map_toArray, List.map_cons, List.map_nil, hs, hx, hr]
  exact hK' _ _ h
abbrev leafC (k : Int) (s : ByteArray) : Array Value := #[.int .i64 k, .int .i64 0, .float .f64 0, .string s, .bool false, .int .i64 0, .int .i64 0, .int .i64 0, .bool false, .bool false, .int .i64 0, .int .i64 0, .bool false, .bool false, .slice none 0 0]
theorem leafC_eq (k : Int) (s : ByteArray) : (leafC k s).toList = nodeC (leafT k s) (.slice none 0 0) := rfl
theorem at_mid (olds : List Value) (x : Value) (r : List Value) (zs : Array Value) : (olds.toArray ++ (x :: r).toArray ++ zs)[olds.length]? = some x := by
  rw [← Array.getElem?_toList]; simp
theorem at_mid0 (x : Value) (r : List Value) (zs : Array Value) : ((x :: r).toArray ++ zs)[0 * 15]? = some x := by
  rw [← Array.getElem?_toList]; simp
theorem frozen_new (w : World) (cs : Array Value) (T : TypeId) (o : Nat) : (w.alloc (.cells cs T)).frozen? ⟨w.heap.size, o, none⟩ = false := by simp
set_option maxHeartbeats 1000000 in
theorem over_push {S : Nat → Prop} {w : World} {n m cap : Nat} {a : Option Addr} (_hS : ∀ b, S b → b < w.heap.size) (h : Ov S w n (.slice a m cap)) :
    ∃ b' cap' w7, (Builtin.append_ #[42, 42] 42 #[.slice a m cap, .slice (some ⟨w.heap.size, 0, none⟩) 1 1]).run Tryz.prog (w.alloc (.cells (leafC 98 ⟨#[]⟩) 44)) = .ok (.slice (some ⟨b', 0, none⟩) (m + 1) cap') w7 ∧ m ≤ 1099511627744 ∧
      w7.cell? ⟨b', m * 15, none⟩ = some (.int .i64 98) ∧ w7.frozen? ⟨b', m * 15, none⟩ = false ∧ Hid (OvW S w (w7.setCell ⟨b', m * 15, none⟩ (.int .i64 97))) := by
  obtain ⟨i0, hi, hz0, hz1, hz2⟩ := info_parts infoNode
  obtain ⟨wA, hwA⟩ : ∃ wA, w.alloc (.cells (leafC 98 ⟨#[]⟩) 44) = wA := ⟨_, rfl⟩
  rw [hwA]
  have hxA : Xt w wA := by rw [← hwA]; exact (Xt.refl w).alloc _
  have hsA : wA.heap.size = w.heap.size + 1 := by rw [← hwA]; simp
  have hnews : ∀ (j : Nat) (u : Value), (nodeC (leafT 98 ⟨#[]⟩) (.slice none 0 0))[j]? = some u → wA.cell? ((⟨w.heap.size, 0, none⟩ : Addr).add j) = some u := by
    rw [← hwA]
    exact news_at w (nodeC (leafT 98 ⟨#[]⟩) (.slice none 0 0)) 44 (b := w.heap.size) rfl
  have h1 : ∀ u ∈ nodeC (leafT 98 ⟨#[]⟩) (.slice none 0 0), u.oneCell' = true := nodeC_one _ _ rfl
  have hl : (nodeC (leafT 98 ⟨#[]⟩) (.slice none 0 0)).length = 1 * i0.size := by rw [hz1]; rfl
  have hA := (OvW.of_xt hxA (S := S)).keep _ _ h
  obtain ⟨_, _, _, e0, hmc, hms, hcm⟩ := h.shape
  cases e0
  by_cases hroom : m + 1 ≤ cap
  · cases n with
    | zero => obtain ⟨a', e⟩ := h; simp only [Value.slice.injEq] at e; omega
    | succ n =>
      obtain ⟨_, _, _, e, _, _, _, h3⟩ := hA
      cases e
      obtain ⟨b, cur, K, rfl, hb, hr, hK, hcK, _⟩ := h3 (by omega)
      have ht := row_thereN hr hK (k := m) (by omega)
      have hrun := run_append_room_cells (P := Tryz.prog) (w := wA) 42 42 44 i0 Tryz.underlying42 hi b 0 m cap ⟨w.heap.size, 0, none⟩ 1 1 _ hl hnews h1 hroom (fun j hj => by rw [hz1, Nat.zero_add]; exact (ht j hj).1) (fun j hj => by rw [hz1, Nat.zero_add]; exact (ht j hj).2)
      rw [hz1, Nat.zero_add] at hrun
      obtain ⟨cur', hr', hs'⟩ := setCells_rowC b (nodeC (leafT 98 ⟨#[]⟩) (.slice none 0 0)) (m * 15) wA cur hr
      have hw := OvW.store (S := S) hb hr hK (k := m) (by omega) (leafT 98 ⟨#[]⟩)
      refine ⟨b, cap, _, hrun, hms, World.rangeAt_setCells_same wA b (m * 15) (nodeC (leafT 98 ⟨#[]⟩) (.slice none 0 0)) ht 0 _ rfl, (row_thereN hr' (hs'.trans hK) (k := m) (by omega) 0 (by omega)).2, ?_⟩
      exact ((OvW.of_xt hxA).trans hw).trans (OvW.kind hb hr' (hs'.trans hK) (by omega) 97)
  · have hmc2 : m = cap := by omega
    obtain ⟨cells, hat, hrun⟩ : ∃ cells : Array Value, cells[m * 15]? = some (.int .i64 98) ∧ (Builtin.append_ #[42, 42] 42 #[.slice a m cap, .slice (some ⟨w.heap.size, 0, none⟩) 1 1]).run Tryz.prog wA = .ok (.slice (some ⟨wA.heap.size, 0, none⟩) (m + 1) (grownCap wA (m + 1) cap 44)) (wA.drew.alloc (.cells cells 44)) := by
      have hfit : Builtin.nextslicecap (m + 1) cap * i0.bytes ≤ 281474976710656 := by rw [hz2]; exact growslice_fits (by omega) (by omega)
      cases a with
      | none =>
        have hc0 : cap = 0 := by
          cases n with
          | zero => obtain ⟨a', e⟩ := h; simp only [Value.slice.injEq] at e; omega
          | succ n =>
            obtain ⟨_, _, _, e, _, _, _, h3⟩ := hA
            cases e
            rcases Nat.eq_zero_or_pos cap with e | e
            · exact e
            · obtain ⟨b, cur, K, e2, _⟩ := h3 e; cases e2
        subst hc0
        subst hmc2
        have hrun0 := run_append_nil (P := Tryz.prog) wA 42 42 44 i0 _ Tryz.underlying42 hi hz0 ⟨w.heap.size, 0, none⟩ 1 1 _ hl hnews (by omega) (by omega) (by rw [hz2]; omega)
        refine ⟨_, ?_, hrun0⟩
        exact at_mid0 _ _ _
      | some ad =>
        obtain ⟨olds, hlo, holds⟩ : ∃ olds : List Value, olds.length = m * 15 ∧ ∀ j v, olds[j]? = some v → wA.cell? (ad.add j) = some v := by
          rcases Nat.eq_zero_or_pos cap with e | e
          · exact ⟨[], by rw [hmc2, e]; rfl, fun j v hv => by simp at hv⟩
          · cases n with
            | zero => obtain ⟨a', e2⟩ := h; simp only [Value.slice.injEq] at e2; omega
            | succ n =>
              obtain ⟨_, _, _, e2, _, _, _, h3⟩ := hA
              cases e2
              obtain ⟨b, cur, K, e3, hb, hr, hK, hcK, _⟩ := h3 e
              cases e3
              refine ⟨cur.toList.take (m * 15), by simp; omega, fun j v hv => ?_⟩
              rw [List.getElem?_take] at hv
              split at hv
              · rw [Addr.add_lit, Nat.zero_add]
                simpa [World.cell?, hr] using hv
              · cases hv
        refine ⟨_, ?_, run_append_grow (P := Tryz.prog) wA 42 42 44 i0 _ Tryz.underlying42 hi hz0 ad m cap olds (by rw [hz1]; exact hlo) holds ⟨w.heap.size, 0, none⟩ 1 1 _ hl hnews (by omega) (by omega) hfit⟩
        rw [← hlo]; exact at_mid olds _ _ _
    have hx7 : Xt w (wA.drew.alloc (.cells cells 44)) := hxA.drew.alloc _
    have hd : wA.drew.heap.size = wA.heap.size := rfl
    refine ⟨wA.heap.size, _, _, hrun, hms, ?_, ?_, ?_⟩
    · rw [← hd, World.cell?_alloc_new]; exact hat
    · exact frozen_new wA.drew cells _ _
    · refine OvW.of_xt (hx7.grownB (setCell_grown _ _ _ _) (fun q hq => by cases hq; show w.heap.size ≤ wA.heap.size; omega))
def OverIs (n : Nat) : Prop := ∀ (S : Nat → Prop) (t : NodeT) (a : Option Addr) (m cap : Nat) (w : World), (∀ b, S b → b < w.heap.size) → Ov S w n (.slice a m cap) →
  Calls Tryz.prog 20 #[nodeV t a m cap] w fun e w' => e = .returned (.tuple #[]) ∧ OvW S w w'
set_option maxRecDepth 100000 in
set_option maxHeartbeats 4000000 in
theorem over_any : ∀ n, OverIs n := by
  intro n
  induction n using Nat.strongRecOn with
  | ind n ih =>
    intro S t a m cap w hS h
    have IH := Lib.hid ih
    obtain ⟨w0, hw0, hg0, hs0, hN⟩ := boxN w t a m cap 44
    have c14 := hN.c14
    rw [Nat.zero_add] at c14
    obtain ⟨_, _, _, e0, hmc, hms, hcm⟩ := h.shape
    cases e0
    have HS := Lib.hid hS
    have HG0 := Lib.hid hg0
    have HOV : Hid (Ov S w0 n (.slice a m cap)) := (OvW.of_xt hg0.xt).keep _ _ h
    have hnB : ¬ S w.heap.size := fun e => Nat.lt_irrefl _ (hS _ e)
    clear hg0 ih hS h hN
    go_enter Tryz.func20, Tryz.ntmps20
    go_wp2_with fail
    clear hw0
    go_loopw [2] (fun s2 wr => ∃ i : Nat, i ≤ m ∧ s2 = .int .i64 i ∧ Hid (OvW S w0 wr)) (fun s2 _ => m - (intOf s2).toNat)
    case atStart => exact ⟨0, Nat.zero_le _, rfl, OvW.of_xt (Xt.refl _)⟩
    case round =>
      obtain ⟨i, hi, rfl, HW⟩ := hrel
      have hsz := HW.out.size
      have c14r := (World.cell?_of_block (w := w0) (a := ⟨w.heap.size, 14, none⟩) (HW.out.block w.heap.size (by omega) hnB)).trans c14
      by_cases hlt : i < m
      · have hii : (i : Int) < (m : Int) := by omega
        cases n with
        | zero => obtain ⟨a', e⟩ := HOV.out; simp only [Value.slice.injEq] at e; omega
        | succ n =>
          have hA := HW.out.keep _ _ HOV.out
          obtain ⟨_, _, _, e, _, _, _, h3⟩ := hA
          cases e
          obtain ⟨b, cur, K, rfl, hb, hr, hK, hcK, hel⟩ := h3 (by omega)
          obtain ⟨u, av', hcell, hsub⟩ := hel i hlt
          obtain ⟨a', m', cap', rfl, _⟩ := hsub.shape
          have hNu : NodeAt wr b (i * 15) u a' m' cap' := NodeAt.of hcell
          obtain ⟨d0, d1, d2, d3, d4, d5, d6, d7, d8, d9, d10, d11, d12, d13, d14⟩ := hNu
          have HC := Lib.hid (IH.out n (by omega) S u a' m' cap' wr (fun b hb => by have := HS.out b hb; omega) hsub)
          clear hr hK hcK hel hcell hsub h3 cur
          go_wp2_with fail
          refine (HC.out).mono ?_
          rintro e w2 ⟨rfl, hw2⟩
          have HW2 := Lib.hid (HW.out.trans hw2)
          have hsz2 := hw2.size
          have c14s := (World.cell?_of_block (w := wr) (a := ⟨w.heap.size, 14, none⟩) (hw2.block w.heap.size (by omega) hnB)).trans c14r
          clear hw2 d0 d1 d2 d3 d4 d5 d6 d7 d8 d9 d10 d11 d12 d13 d14 HC c14r
          obtain ⟨_, _, _, e, _, _, _, h4⟩ := HW2.out.keep _ _ HOV.out
          cases e
          obtain ⟨b2, cur2, K2, e2, hb2, hr2, hK2, hcK2, _⟩ := h4 (by omega)
          cases e2
          have hth := Lib.hid (row_thereN hr2 hK2 (k := i) (by omega))
          have HW3 : Hid (OvW S w0 (w2.setCells b (i * 15) (leafC 99 ⟨#[111, 118, 101, 114]⟩).toList)) := by
            rw [leafC_eq]; exact HW2.out.trans (OvW.store hb2 hr2 hK2 (by omega) _)
          clear h4 hr2 hK2 hcK2 cur2
          go_upto_region 5 with fail
          refine wp_region_lit ?_
          refine wpList_step (fun K hK => ?_)
          go_simp
          refine hK _ _ ?_
          clear hK K
          refine wpList_step (fun K hK => ?_)
          go_simp
          refine hK _ _ ?_
          clear hK K
          refine wpList_step (fun K hK => ?_)
          go_simp
          refine hK _ _ ?_
          clear hK K
          refine wpList_step (fun K hK => ?_)
          go_simp
          refine hK _ _ ?_
          clear hK K
          refine wpList_step (fun K hK => ?_)
          go_simp
          refine hK _ _ ?_
          clear hK K
          refine wpList_store_mid (P := Tryz.prog) rfl 44 _ _ rfl b (i * 15) (leafC 99 ⟨#[111, 118, 101, 114]⟩) rfl rfl hth.out (by kernel_rfl) (all_oneCell_toArray (nodeC_one (leafT 99 ⟨#[111, 118, 101, 114]⟩) (.slice none 0 0) rfl)) ?_
          go_wp2_with fail
          go_roundw
          case rel => exact ⟨i + 1, by omega, by go_num, HW3⟩
          case measure => simp [intOf]; omega
      · have he : i = m := by omega
        subst he
        obtain ⟨b', cap', w7, hpush, _, hc7, hf7, HW7⟩ := over_push (fun b hb => by have := HS.out b hb; omega) (HW.out.keep _ _ HOV.out)
        go_wp2_with (first | (refine wpList_append_run _ rfl _ _ _ rfl _ _ rfl rfl hpush ?_))
        refine bodyPost_end (results_none rfl _ _ _) rfl ?_
        exact ⟨rfl, (OvW.of_xt HG0.out.xt).trans (HW.out.trans HW7.out)⟩
end
end Go.Proofs.YtideclfpbpjebaaGreatDoor
