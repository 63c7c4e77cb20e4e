import Derived.Test.YtideclfpbpjebaaGreatDoorB13
import Derived.Shelf.SlMaps.Clone
import Derived.Shelf.SlIter.Keys
import Derived.RangeFuncNested
import Derived.RangeFuncBound
import Derived.RangeFuncCalls
import Derived.RangeFuncLeaves
import Derived.Shelf.RegionOpen
import Derived.OwnWalkIn
import Derived.TacticsInMore
import Derived.LoopNIn
import Derived.LoopIn
import Derived.Maps.AppendAt
import Derived.Shelf.Abstract
namespace Go.Proofs.YtideclfpbpjebaaGreatDoor
section
open Go.RowKit Go.Sort

/-! ### Put: a content is set (made by mkput.py) -/
theorem ceV_copy (c : ContT) (x : Option Addr) : ceV (copyC c, x) = copyCV c x := by
  show contV (copyC c) x (copyT c.t).args.length (copyT c.t).args.length = _
  rw [copyT_len]
theorem range_row {w : World} {b : Nat} {cs : List Value} {T : TypeId} {fz : Nat × Nat} (h : w.heap[b]? = some (.cells cs.toArray T fz)) : w.rangeAt b 0 cs := fun j v hv => by
  simp [World.cell?, h, hv]
set_option maxRecDepth 100000 in
set_option maxHeartbeats 4000000 in
theorem gput_old (n : Nat) (gb mb : Nat) (M : GM) (a : Ad) (c : ContT) (ca : Option Addr) (cap : Nat) (w : World) (h : GridIs w gb mb M) (hok : c.ok) (hT : Tabs w) (hsm : smallT c.t) (hin : ArgsIn w n (.slice ca c.t.args.length cap) c.t.args) (hb : gvalidB c = true) (hb2 : validB a.1 a.2 = true) (hk : (c.kind == 0) = false) (his : (lkM a M).isSome = true) : Calls Tryz.prog 10 #[.pointer (some ⟨gb, 0, none⟩), .agg #[.int .i64 a.1, .int .i64 a.2], contV c ca c.t.args.length cap] w fun e w' => ∃ x, e = .returned (.int .i64 0) ∧ GridIs w' gb mb (setM a (copyC c, x) M) ∧ w.grownBy w' (some mb) := by
  have H := Lib.hid h
  obtain ⟨E, he, w1, hw1, hP1⟩ := put_start h a c ca cap
  have HE := Lib.hid he
  have HP1 := Lib.hid hP1
  have HLM : Hid (E.length = M.length) := Lib.hid ((H.out.xt hP1.xt).len hP1.map he)
  have HIN := Lib.hid hin
  have HSM := Lib.hid hsm
  have HV := Lib.hid (gvalid_any n c ca cap w1 hok (hT.xt hP1.xt) (hin.xt hP1.xt))
  clear h he hP1 hin hsm hok hT
  have HIS : Hid ((lk a E).isSome = true) := by have h0 := HE.out a; rw [h0, Option.isSome_map]; exact his
  obtain ⟨⟨X, xa⟩, hX⟩ : ∃ x, (lkM a M).getD (zeroC, none) = x := ⟨_, rfl⟩
  have HX : Hid ((lk a E).getD (contV zeroC none 0 0) = contV X xa X.t.args.length X.t.args.length) := by rw [HE.out]; revert hX; cases lkM a M <;> (intro hX; cases hX; rfl)
  have HLS : Hid (∀ x, (setM a (copyC c, x) M).length ≤ 4096) := Lib.hid (fun x => by rw [len_setM H.out.sorted his]; exact H.out.many)
  clear his hX
  have HB := Lib.hid hb
  have HB2 := Lib.hid hb2
  clear hb hb2
  go_enter Tryz.func10, Tryz.ntmps10
  go_wp2_with (first
    | (refine HV.out.mono ?_; rintro e w2 ⟨rfl, hx2⟩; rw [HB.out]; have HP2 := Lib.hid (HP1.out.step hx2); have hc2 := HP2.out.cell; obtain ⟨d0, d1⟩ := HP2.out.ad;  clear hx2)
    | (refine (valid_gr a.1 a.2 w2).mono ?_; rintro e w3 ⟨rfl, hg3⟩; rw [HB2.out]; have HP3 := Lib.hid (HP2.out.step hg3.xt); have hc3 := HP3.out.cell; obtain ⟨p0, p1⟩ := HP3.out.ad; have k3 := HP3.out.kind; clear hg3)
    | (refine BigFrame.wpList_want (by rfl) (fun K hK => wp_load_row 46 _ rfl (w.heap.size + 1) rfl 46 _ (0, 0) _ HP1.out.con Tryz.underlying46 rfl (by kernel_rfl) (hK _ _ ?_)); clear hK K))
  have HL : Hid (∀ w', MapIs w' mb E → (Instr.lookup 66 (.map (some mb)) (.agg #[.int .i64 a.1, .int .i64 a.2]) true).run Tryz.prog w' = .ok (.tuple #[contV X xa X.t.args.length X.t.args.length, .bool true]) w') := fun w' hm => by
    have := hm.lookup_ok (P := Tryz.prog) (t := 66) (k := 36) (e := 46) adrKey Tryz.underlying66 zeroCon a
    rw [HX.out, HIS.out] at this
    exact this
  have hS3 : w3.drew.cell? ⟨gb, 0, none⟩ = some (.map (some mb)) ∧ w3.drew.cell? ⟨w.heap.size, 0, none⟩ = some (.int .i64 a.1) ∧ w3.drew.cell? ⟨w.heap.size, 1, none⟩ = some (.int .i64 a.2) ∧ MapIs w3.drew mb E := ⟨hc3, p0, p1, HP3.out.map⟩
  refine wp_region_held_drew (S := fun w' => w'.cell? ⟨gb, 0, none⟩ = some (.map (some mb)) ∧ w'.cell? ⟨w.heap.size, 0, none⟩ = some (.int .i64 a.1) ∧ w'.cell? ⟨w.heap.size, 1, none⟩ = some (.int .i64 a.2) ∧ MapIs w' mb E) (by kernel_rfl) hS3 (fun hHeld => ?_)
  refine wpAnyH_take (i := 0) (oi := _) (v := ?_) rfl (by kernel_rfl) (by kernel_rfl) (by kernel_rfl) (fun _ _ _ h => h) (Or.inl ⟨by rfl, ?_⟩) (by assumption) ?_
  rotate_left
  · intro w hSw; (try dsimp only at hSw); obtain ⟨s0, s1, s2, s3⟩ := hSw; go_simp; first | done | with_reducible rfl
  try simp only [Act.put, List.getElem_toArray, List.getElem_cons_zero, List.setIfInBounds_toArray, List.set_cons_zero, List.set_cons_succ]
  refine wpAnyH_take (i := 1) (oi := _) (v := ?_) rfl (by kernel_rfl) (by kernel_rfl) (by kernel_rfl) (fun _ _ _ h => h) (Or.inl ⟨by rfl, ?_⟩) (by assumption) ?_
  rotate_left
  · intro w hSw; (try dsimp only at hSw); obtain ⟨s0, s1, s2, s3⟩ := hSw; go_simp; first | done | with_reducible rfl
  try simp only [Act.put, List.getElem_toArray, List.getElem_cons_zero, List.getElem_cons_succ, List.setIfInBounds_toArray, List.set_cons_zero, List.set_cons_succ]
  refine wpAnyH_take (i := 2) (oi := _) (v := ?_) rfl (by kernel_rfl) (by kernel_rfl) (by kernel_rfl) (fun _ _ _ h => h) (Or.inl ⟨by rfl, ?_⟩) (by assumption) ?_
  rotate_left
  · intro w hSw; (try dsimp only at hSw); obtain ⟨s0, s1, s2, s3⟩ := hSw; go_simp; first | done | with_reducible rfl
  try simp only [Act.put, List.getElem_toArray, List.getElem_cons_zero, List.getElem_cons_succ, List.setIfInBounds_toArray, List.set_cons_zero, List.set_cons_succ]
  refine wpAnyH_take (i := 3) (oi := _) (v := ?_) rfl (by kernel_rfl) (by kernel_rfl) (by kernel_rfl) (fun _ _ _ h => h) (Or.inl ⟨by rfl, ?_⟩) (by assumption) ?_
  rotate_left
  · intro w hSw; (try dsimp only at hSw); obtain ⟨s0, s1, s2, s3⟩ := hSw; go_simp; first | done | with_reducible rfl
  try simp only [Act.put, List.getElem_toArray, List.getElem_cons_zero, List.getElem_cons_succ, List.setIfInBounds_toArray, List.set_cons_zero, List.set_cons_succ]
  refine wpAnyH_take (i := 4) (oi := _) (v := ?_) rfl (by kernel_rfl) (by kernel_rfl) (by kernel_rfl) (fun _ _ _ h => h) (Or.inl ⟨by rfl, ?_⟩) (by assumption) ?_
  rotate_left
  · intro w hSw; (try dsimp only at hSw); obtain ⟨s0, s1, s2, s3⟩ := hSw; go_simp; first | done | with_reducible rfl
  try simp only [Act.put, List.getElem_toArray, List.getElem_cons_zero, List.getElem_cons_succ, List.setIfInBounds_toArray, List.set_cons_zero, List.set_cons_succ]
  refine wpAnyH_take (i := 5) (oi := _) (v := ?_) rfl (by kernel_rfl) (by kernel_rfl) (by kernel_rfl) (fun _ _ _ h => h) (Or.inl ⟨by rfl, ?_⟩) (by assumption) ?_
  rotate_left
  · intro w hSw; (try dsimp only at hSw); obtain ⟨s0, s1, s2, s3⟩ := hSw; have hl := HL.out _ s3; go_simp; first | done | with_reducible rfl
  try simp only [Act.put, List.getElem_toArray, List.getElem_cons_zero, List.getElem_cons_succ, List.setIfInBounds_toArray, List.set_cons_zero, List.set_cons_succ]
  refine wpAnyH_take (i := 6) (oi := _) (v := ?_) rfl (by kernel_rfl) (by kernel_rfl) (by kernel_rfl) (fun _ _ _ h => h) (Or.inl ⟨by rfl, ?_⟩) (by assumption) ?_
  rotate_left
  · intro w hSw; (try dsimp only at hSw); go_simp; first | done | with_reducible rfl
  try simp only [Act.put, List.getElem_toArray, List.getElem_cons_zero, List.getElem_cons_succ, List.setIfInBounds_toArray, List.set_cons_zero, List.set_cons_succ]
  refine wpAnyH_take (i := 7) (oi := _) (v := ?_) rfl (by kernel_rfl) (by kernel_rfl) (by kernel_rfl) (fun _ _ _ h => h) (Or.inl ⟨by rfl, ?_⟩) (by assumption) ?_
  rotate_left
  · intro w hSw; (try dsimp only at hSw); go_simp; first | done | with_reducible rfl
  try simp only [Act.put, List.getElem_toArray, List.getElem_cons_zero, List.getElem_cons_succ, List.setIfInBounds_toArray, List.set_cons_zero, List.set_cons_succ]
  refine wpAnyH_take (i := 8) (oi := _) (v := ?_) rfl (by kernel_rfl) (by kernel_rfl) (by kernel_rfl) (fun _ _ _ h => h) (Or.inl ⟨by rfl, ?_⟩) (by assumption) ?_
  rotate_left
  · intro w hSw; (try dsimp only at hSw); go_simp; first | done | with_reducible rfl
  try simp only [Act.put, List.getElem_toArray, List.getElem_cons_zero, List.getElem_cons_succ, List.setIfInBounds_toArray, List.set_cons_zero, List.set_cons_succ]
  refine wpAnyH_ready (rs := [9]) (by kernel_rfl) (by simp) ?_
  refine AllReadyH.cons (o := _) rfl (fun K hK => ?_) AllReadyH.nil
  go_simp
  obtain ⟨wD, hwD⟩ : ∃ wD, (w3.alloc (.cells #[.int .i64 0, .int .i64 0, .float .f64 0, .string ⟨#[]⟩, .bool false, .int .i64 0, .int .i64 0, .int .i64 0, .float .f64 0, .string ⟨#[]⟩, .bool false, .int .i64 0, .int .i64 0, .int .i64 0, .bool false, .bool false, .int .i64 0, .int .i64 0, .bool false, .bool false, .slice none 0 0] 46)).drew = wD := ⟨_, rfl⟩
  have hxD : Xt w3 wD := by rw [← hwD]; exact ((Xt.refl w3).alloc _).drew
  have hrD : wD.heap[w3.heap.size]? = some (.cells #[.int .i64 0, .int .i64 0, .float .f64 0, .string ⟨#[]⟩, .bool false, .int .i64 0, .int .i64 0, .int .i64 0, .float .f64 0, .string ⟨#[]⟩, .bool false, .int .i64 0, .int .i64 0, .int .i64 0, .bool false, .bool false, .int .i64 0, .int .i64 0, .bool false, .bool false, .slice none 0 0] 46 (0, 0)) := by rw [← hwD]; exact (MapKept.heap_alloc w3 _).1
  have HPD := Lib.hid (HP3.out.step hxD)
  rw [hwD]
  refine hK.out _ _ ⟨HPD.out.cell, HPD.out.ad.1, HPD.out.ad.2, HPD.out.map⟩ (fun hHeld2 => ?_)
  clear hK K
  try simp only [Act.put, List.getElem_toArray, List.getElem_cons_zero, List.getElem_cons_succ, List.setIfInBounds_toArray, List.set_cons_zero, List.set_cons_succ]
  refine wpAnyH_ready (rs := [10]) (by kernel_rfl) (by simp) ?_
  refine AllReadyH.cons (o := _) rfl (fun K hK => ?_) AllReadyH.nil
  rw [if_pos (by rfl)]
  obtain ⟨w4, hw4⟩ : ∃ w4, wD.setRow w3.heap.size (contV X xa X.t.args.length X.t.args.length).cells = w4 := ⟨_, rfl⟩
  have hx4 : Xt w3 w4 := by rw [← hw4]; exact hxD.grownB (setRow_grown _ _ _) (fun m hm => by cases hm; exact Nat.le_refl _)
  refine wp_store_row 46 _ _ rfl w3.heap.size (contV X xa X.t.args.length X.t.args.length).cells rfl rfl 46 _ hrD (by kernel_rfl) rfl (by simp [Value.oneCell', Value.cells]) ?_
  rw [hw4]
  have HP4 := Lib.hid (HP3.out.step hx4)
  refine hK.out _ _ ⟨HP4.out.cell, HP4.out.ad.1, HP4.out.ad.2, HP4.out.map⟩ (fun hHeld3 => ?_)
  clear hK K
  try simp only [Act.put, List.getElem_toArray, List.getElem_cons_zero, List.getElem_cons_succ]
  refine wpAnyH_take (i := 11) (oi := _) (v := ?_) rfl (by kernel_rfl) (by kernel_rfl) (by kernel_rfl) (fun _ _ _ h => h) (Or.inl ⟨by rfl, ?_⟩) (by assumption) ?_
  rotate_left
  · intro w hSw; (try dsimp only at hSw); go_simp; first | done | with_reducible rfl
  try simp only [Act.put, List.getElem_toArray, List.getElem_cons_zero, List.getElem_cons_succ, List.setIfInBounds_toArray, List.set_cons_zero, List.set_cons_succ]
  refine wpAnyH_done (by kernel_rfl) ?_ _
  have hc4 := HP4.out.cell
  have hlen : ∀ ty, (Builtin.len_ #[66] ty #[.map (some mb)]).run Tryz.prog w4 = .ok (.int .i64 M.length) w4 := fun ty => by rw [← HLM.out]; exact HP4.out.map.len Tryz.underlying66
  go_wp2_with fail
  have hS4 : w4.drew.cell? ⟨gb, 0, none⟩ = some (.map (some mb)) ∧ w4.drew.cell? ⟨w.heap.size, 0, none⟩ = some (.int .i64 a.1) ∧ w4.drew.cell? ⟨w.heap.size, 1, none⟩ = some (.int .i64 a.2) ∧ w4.drew.rangeAt (w.heap.size + 1) 0 [.int .i64 c.kind, .int .i64 c.v.kind, .float .f64 c.v.x, .string c.v.s, .bool c.v.b, .int .i64 c.v.f, .int .i64 c.t.kind, .int .i64 c.t.op, .float .f64 c.t.x, .string c.t.s, .bool c.t.b, .int .i64 c.t.f, .int .i64 c.t.ref.a.1, .int .i64 c.t.ref.a.2, .bool c.t.ref.cf, .bool c.t.ref.rf, .int .i64 c.t.to.a.1, .int .i64 c.t.to.a.2, .bool c.t.to.cf, .bool c.t.to.rf, .slice ca c.t.args.length cap] := ⟨HP4.out.cell, HP4.out.ad.1, HP4.out.ad.2, range_row HP4.out.con⟩
  have HGC := Lib.hid (gcopy_any n c ca cap w4.drew HSM.out (HIN.out.xt HP4.out.xt.drew))
  refine wp_region_held_drew (S := fun w' => w'.cell? ⟨gb, 0, none⟩ = some (.map (some mb)) ∧ w'.cell? ⟨w.heap.size, 0, none⟩ = some (.int .i64 a.1) ∧ w'.cell? ⟨w.heap.size, 1, none⟩ = some (.int .i64 a.2) ∧ w'.rangeAt (w.heap.size + 1) 0 [.int .i64 c.kind, .int .i64 c.v.kind, .float .f64 c.v.x, .string c.v.s, .bool c.v.b, .int .i64 c.v.f, .int .i64 c.t.kind, .int .i64 c.t.op, .float .f64 c.t.x, .string c.t.s, .bool c.t.b, .int .i64 c.t.f, .int .i64 c.t.ref.a.1, .int .i64 c.t.ref.a.2, .bool c.t.ref.cf, .bool c.t.ref.rf, .int .i64 c.t.to.a.1, .int .i64 c.t.to.a.2, .bool c.t.to.cf, .bool c.t.to.rf, .slice ca c.t.args.length cap]) (by kernel_rfl) hS4 (fun hHeld => ?_)
  refine wpAnyH_take (i := 0) (oi := _) (v := ?_) rfl (by kernel_rfl) (by kernel_rfl) (by kernel_rfl) (fun _ _ _ h => h) (Or.inl ⟨by rfl, ?_⟩) (by assumption) ?_
  rotate_left
  · intro w hSw; (try dsimp only at hSw); obtain ⟨s0, s1, s2, s3⟩ := hSw; clear s3; go_simp; first | done | with_reducible rfl
  try simp only [Act.put, List.getElem_toArray, List.getElem_cons_zero, List.setIfInBounds_toArray, List.set_cons_zero, List.set_cons_succ]
  refine wpAnyH_take (i := 1) (oi := _) (v := ?_) rfl (by kernel_rfl) (by kernel_rfl) (by kernel_rfl) (fun _ _ _ h => h) (Or.inl ⟨by rfl, ?_⟩) (by assumption) ?_
  rotate_left
  · intro w hSw; (try dsimp only at hSw); obtain ⟨s0, s1, s2, s3⟩ := hSw; clear s3; go_simp; first | done | with_reducible rfl
  try simp only [Act.put, List.getElem_toArray, List.getElem_cons_zero, List.getElem_cons_succ, List.setIfInBounds_toArray, List.set_cons_zero, List.set_cons_succ]
  refine wpAnyH_take (i := 2) (oi := _) (v := ?_) rfl (by kernel_rfl) (by kernel_rfl) (by kernel_rfl) (fun _ _ _ h => h) (Or.inl ⟨by rfl, ?_⟩) (by assumption) ?_
  rotate_left
  · intro w hSw; (try dsimp only at hSw); obtain ⟨s0, s1, s2, s3⟩ := hSw; clear s3; go_simp; first | done | with_reducible rfl
  try simp only [Act.put, List.getElem_toArray, List.getElem_cons_zero, List.getElem_cons_succ, List.setIfInBounds_toArray, List.set_cons_zero, List.set_cons_succ]
  refine wpAnyH_take (i := 3) (oi := _) (v := ?_) rfl (by kernel_rfl) (by kernel_rfl) (by kernel_rfl) (fun _ _ _ h => h) (Or.inl ⟨by rfl, ?_⟩) (by assumption) ?_
  rotate_left
  · intro w hSw; (try dsimp only at hSw); obtain ⟨s0, s1, s2, s3⟩ := hSw; clear s3; go_simp; first | done | with_reducible rfl
  try simp only [Act.put, List.getElem_toArray, List.getElem_cons_zero, List.getElem_cons_succ, List.setIfInBounds_toArray, List.set_cons_zero, List.set_cons_succ]
  refine wpAnyH_take (i := 4) (oi := _) (v := ?_) rfl (by kernel_rfl) (by kernel_rfl) (by kernel_rfl) (fun _ _ _ h => h) (Or.inl ⟨by rfl, ?_⟩) (by assumption) ?_
  rotate_left
  · intro w hSw; (try dsimp only at hSw); obtain ⟨s0, s1, s2, s3⟩ := hSw; clear s3; go_simp; first | done | with_reducible rfl
  try simp only [Act.put, List.getElem_toArray, List.getElem_cons_zero, List.getElem_cons_succ, List.setIfInBounds_toArray, List.set_cons_zero, List.set_cons_succ]
  refine wpAnyH_take (i := 5) (oi := _) (v := .agg #[.int .i64 c.kind, .int .i64 c.v.kind, .float .f64 c.v.x, .string c.v.s, .bool c.v.b, .int .i64 c.v.f, .int .i64 c.t.kind, .int .i64 c.t.op, .float .f64 c.t.x, .string c.t.s, .bool c.t.b, .int .i64 c.t.f, .int .i64 c.t.ref.a.1, .int .i64 c.t.ref.a.2, .bool c.t.ref.cf, .bool c.t.ref.rf, .int .i64 c.t.to.a.1, .int .i64 c.t.to.a.2, .bool c.t.to.cf, .bool c.t.to.rf, .slice ca c.t.args.length cap]) rfl (by kernel_rfl) (by kernel_rfl) (by kernel_rfl) (fun _ _ _ h => h) (yieldsIf_load_mid (by rfl) 46 _ rfl (w.heap.size + 1) 0 rfl [.int .i64 c.kind, .int .i64 c.v.kind, .float .f64 c.v.x, .string c.v.s, .bool c.v.b, .int .i64 c.v.f, .int .i64 c.t.kind, .int .i64 c.t.op, .float .f64 c.t.x, .string c.t.s, .bool c.t.b, .int .i64 c.t.f, .int .i64 c.t.ref.a.1, .int .i64 c.t.ref.a.2, .bool c.t.ref.cf, .bool c.t.ref.rf, .int .i64 c.t.to.a.1, .int .i64 c.t.to.a.2, .bool c.t.to.cf, .bool c.t.to.rf, .slice ca c.t.args.length cap] _ (fun w' hw' => hw'.2.2.2) Tryz.underlying46 rfl (by kernel_rfl)) (by assumption) ?_
  try simp only [Act.put, List.getElem_toArray, List.getElem_cons_zero, List.getElem_cons_succ, List.setIfInBounds_toArray, List.set_cons_zero, List.set_cons_succ]
  refine wpAnyH_ready (rs := [6]) (by kernel_rfl) (by simp) ?_
  refine AllReadyH.cons (o := _) rfl (fun K hK => ?_) AllReadyH.nil
  go_simp
  refine HGC.out.mono ?_
  rintro e w5 ⟨a', rfl, hA, hx5⟩
  have HP5 := Lib.hid (HP4.out.step ((Xt.refl w4).drew.trans hx5))
  refine hK.out _ _ ⟨HP5.out.cell, HP5.out.ad.1, HP5.out.ad.2, range_row HP5.out.con⟩ (fun hHeld2 => ?_)
  clear hK K
  try simp only [Act.put, List.getElem_toArray, List.getElem_cons_zero, List.getElem_cons_succ, List.setIfInBounds_toArray, List.set_cons_zero, List.set_cons_succ]
  obtain ⟨w6, hupd, hm6, hg6, hd6, hs6⟩ := HP5.out.map.update (P := Tryz.prog) (t := 66) (k := 36) (e := 46) adrKey Tryz.underlying66 a (copyCV c a')
  have hupd' : (Instr.mapUpdate 66 (.map (some mb)) (.agg #[.int .i64 a.1, .int .i64 a.2]) (copyCV c a')).run Tryz.prog w5 = .ok () w6 := hupd
  have HC6 : Hid (CellsIn w5 w6) := CellsIn.of_grown HP5.out.map hg6
  have HM6 := Lib.hid hm6
  have HG6 := Lib.hid hg6
  have HA := Lib.hid hA
  clear hm6 hg6 hA hupd
  refine wpAnyH_ready (rs := [7]) (by kernel_rfl) (by simp) ?_
  refine AllReadyH.cons (o := _) rfl (fun K hK => ?_) AllReadyH.nil
  go_simp
  refine hK.out _ _ ⟨HC6.out _ _ _ HP5.out.cell, HC6.out _ _ _ HP5.out.ad.1, HC6.out _ _ _ HP5.out.ad.2, fun j v hv => HC6.out _ _ _ (range_row HP5.out.con j v hv)⟩ (fun hHeld3 => ?_)
  clear hK K
  try simp only [Act.put, List.getElem_toArray, List.getElem_cons_zero, List.getElem_cons_succ, List.setIfInBounds_toArray, List.set_cons_zero, List.set_cons_succ]
  refine wpAnyH_done (by kernel_rfl) ?_ _
  go_wp2_with fail
  go_ret
  refine ⟨a', rfl, H.out.put (HP5.out.xt.cellsIn.trans HC6.out) HE.out (x := (copyC c, a')) (by rw [ceV_copy]) HM6.out ⟨smallT_copy _ HSM.out, n, ?_⟩ (HLS.out a'), ?_⟩
  · have h0 := HA.out.args.kept HC6.out
    show ArgsIn w6 n (.slice a' (copyT c.t).args.length (copyT c.t).args.length) (copyT c.t).args
    rw [copyT_len, copyT_args]; exact h0
  · have hx := HP5.out.xt
    exact ⟨HG6.out.os.trans hx.os, HG6.out.tape.trans hx.tape, HG6.out.output.trans hx.output, Nat.le_trans hx.size HG6.out.size, fun k hk hne => (HG6.out.block k (Nat.lt_of_lt_of_le hk hx.size) hne).trans (hx.block k hk)⟩
set_option maxRecDepth 100000 in
set_option maxHeartbeats 4000000 in
theorem gput_new (n : Nat) (gb mb : Nat) (M : GM) (a : Ad) (c : ContT) (ca : Option Addr) (cap : Nat) (w : World) (h : GridIs w gb mb M) (hok : c.ok) (hT : Tabs w) (hsm : smallT c.t) (hin : ArgsIn w n (.slice ca c.t.args.length cap) c.t.args) (hb : gvalidB c = true) (hb2 : validB a.1 a.2 = true) (hk : (c.kind == 0) = false) (his : (lkM a M).isSome = false) (hlt : M.length < 4096) : Calls Tryz.prog 10 #[.pointer (some ⟨gb, 0, none⟩), .agg #[.int .i64 a.1, .int .i64 a.2], contV c ca c.t.args.length cap] w fun e w' => ∃ x, e = .returned (.int .i64 0) ∧ GridIs w' gb mb (setM a (copyC c, x) M) ∧ w.grownBy w' (some mb) := by
  have H := Lib.hid h
  obtain ⟨E, he, w1, hw1, hP1⟩ := put_start h a c ca cap
  have HE := Lib.hid he
  have HP1 := Lib.hid hP1
  have HLM : Hid (E.length = M.length) := Lib.hid ((H.out.xt hP1.xt).len hP1.map he)
  have HIN := Lib.hid hin
  have HSM := Lib.hid hsm
  have HV := Lib.hid (gvalid_any n c ca cap w1 hok (hT.xt hP1.xt) (hin.xt hP1.xt))
  clear h he hP1 hin hsm hok hT
  have HIS : Hid ((lk a E).isSome = false) := by have h0 := HE.out a; rw [h0, Option.isSome_map]; exact his
  obtain ⟨⟨X, xa⟩, hX⟩ : ∃ x, (lkM a M).getD (zeroC, none) = x := ⟨_, rfl⟩
  have HX : Hid ((lk a E).getD (contV zeroC none 0 0) = contV X xa X.t.args.length X.t.args.length) := by rw [HE.out]; revert hX; cases lkM a M <;> (intro hX; cases hX; rfl)
  have HLS : Hid (∀ x, (setM a (copyC c, x) M).length ≤ 4096) := Lib.hid (fun x => Nat.le_trans len_setM_le hlt)
  have HLT := Lib.hid hlt
  clear hlt
  clear his hX
  have HB := Lib.hid hb
  have HB2 := Lib.hid hb2
  clear hb hb2
  go_enter Tryz.func10, Tryz.ntmps10
  go_wp2_with (first
    | (refine HV.out.mono ?_; rintro e w2 ⟨rfl, hx2⟩; rw [HB.out]; have HP2 := Lib.hid (HP1.out.step hx2); have hc2 := HP2.out.cell; obtain ⟨d0, d1⟩ := HP2.out.ad;  clear hx2)
    | (refine (valid_gr a.1 a.2 w2).mono ?_; rintro e w3 ⟨rfl, hg3⟩; rw [HB2.out]; have HP3 := Lib.hid (HP2.out.step hg3.xt); have hc3 := HP3.out.cell; obtain ⟨p0, p1⟩ := HP3.out.ad; have k3 := HP3.out.kind; clear hg3)
    | (refine BigFrame.wpList_want (by rfl) (fun K hK => wp_load_row 46 _ rfl (w.heap.size + 1) rfl 46 _ (0, 0) _ HP1.out.con Tryz.underlying46 rfl (by kernel_rfl) (hK _ _ ?_)); clear hK K))
  have HL : Hid (∀ w', MapIs w' mb E → (Instr.lookup 66 (.map (some mb)) (.agg #[.int .i64 a.1, .int .i64 a.2]) true).run Tryz.prog w' = .ok (.tuple #[contV X xa X.t.args.length X.t.args.length, .bool false]) w') := fun w' hm => by
    have := hm.lookup_ok (P := Tryz.prog) (t := 66) (k := 36) (e := 46) adrKey Tryz.underlying66 zeroCon a
    rw [HX.out, HIS.out] at this
    exact this
  have hS3 : w3.drew.cell? ⟨gb, 0, none⟩ = some (.map (some mb)) ∧ w3.drew.cell? ⟨w.heap.size, 0, none⟩ = some (.int .i64 a.1) ∧ w3.drew.cell? ⟨w.heap.size, 1, none⟩ = some (.int .i64 a.2) ∧ MapIs w3.drew mb E := ⟨hc3, p0, p1, HP3.out.map⟩
  refine wp_region_held_drew (S := fun w' => w'.cell? ⟨gb, 0, none⟩ = some (.map (some mb)) ∧ w'.cell? ⟨w.heap.size, 0, none⟩ = some (.int .i64 a.1) ∧ w'.cell? ⟨w.heap.size, 1, none⟩ = some (.int .i64 a.2) ∧ MapIs w' mb E) (by kernel_rfl) hS3 (fun hHeld => ?_)
  refine wpAnyH_take (i := 0) (oi := _) (v := ?_) rfl (by kernel_rfl) (by kernel_rfl) (by kernel_rfl) (fun _ _ _ h => h) (Or.inl ⟨by rfl, ?_⟩) (by assumption) ?_
  rotate_left
  · intro w hSw; (try dsimp only at hSw); obtain ⟨s0, s1, s2, s3⟩ := hSw; go_simp; first | done | with_reducible rfl
  try simp only [Act.put, List.getElem_toArray, List.getElem_cons_zero, List.setIfInBounds_toArray, List.set_cons_zero, List.set_cons_succ]
  refine wpAnyH_take (i := 1) (oi := _) (v := ?_) rfl (by kernel_rfl) (by kernel_rfl) (by kernel_rfl) (fun _ _ _ h => h) (Or.inl ⟨by rfl, ?_⟩) (by assumption) ?_
  rotate_left
  · intro w hSw; (try dsimp only at hSw); obtain ⟨s0, s1, s2, s3⟩ := hSw; go_simp; first | done | with_reducible rfl
  try simp only [Act.put, List.getElem_toArray, List.getElem_cons_zero, List.getElem_cons_succ, List.setIfInBounds_toArray, List.set_cons_zero, List.set_cons_succ]
  refine wpAnyH_take (i := 2) (oi := _) (v := ?_) rfl (by kernel_rfl) (by kernel_rfl) (by kernel_rfl) (fun _ _ _ h => h) (Or.inl ⟨by rfl, ?_⟩) (by assumption) ?_
  rotate_left
  · intro w hSw; (try dsimp only at hSw); obtain ⟨s0, s1, s2, s3⟩ := hSw; go_simp; first | done | with_reducible rfl
  try simp only [Act.put, List.getElem_toArray, List.getElem_cons_zero, List.getElem_cons_succ, List.setIfInBounds_toArray, List.set_cons_zero, List.set_cons_succ]
  refine wpAnyH_take (i := 3) (oi := _) (v := ?_) rfl (by kernel_rfl) (by kernel_rfl) (by kernel_rfl) (fun _ _ _ h => h) (Or.inl ⟨by rfl, ?_⟩) (by assumption) ?_
  rotate_left
  · intro w hSw; (try dsimp only at hSw); obtain ⟨s0, s1, s2, s3⟩ := hSw; go_simp; first | done | with_reducible rfl
  try simp only [Act.put, List.getElem_toArray, List.getElem_cons_zero, List.getElem_cons_succ, List.setIfInBounds_toArray, List.set_cons_zero, List.set_cons_succ]
  refine wpAnyH_take (i := 4) (oi := _) (v := ?_) rfl (by kernel_rfl) (by kernel_rfl) (by kernel_rfl) (fun _ _ _ h => h) (Or.inl ⟨by rfl, ?_⟩) (by assumption) ?_
  rotate_left
  · intro w hSw; (try dsimp only at hSw); obtain ⟨s0, s1, s2, s3⟩ := hSw; go_simp; first | done | with_reducible rfl
  try simp only [Act.put, List.getElem_toArray, List.getElem_cons_zero, List.getElem_cons_succ, List.setIfInBounds_toArray, List.set_cons_zero, List.set_cons_succ]
  refine wpAnyH_take (i := 5) (oi := _) (v := ?_) rfl (by kernel_rfl) (by kernel_rfl) (by kernel_rfl) (fun _ _ _ h => h) (Or.inl ⟨by rfl, ?_⟩) (by assumption) ?_
  rotate_left
  · intro w hSw; (try dsimp only at hSw); obtain ⟨s0, s1, s2, s3⟩ := hSw; have hl := HL.out _ s3; go_simp; first | done | with_reducible rfl
  try simp only [Act.put, List.getElem_toArray, List.getElem_cons_zero, List.getElem_cons_succ, List.setIfInBounds_toArray, List.set_cons_zero, List.set_cons_succ]
  refine wpAnyH_take (i := 6) (oi := _) (v := ?_) rfl (by kernel_rfl) (by kernel_rfl) (by kernel_rfl) (fun _ _ _ h => h) (Or.inl ⟨by rfl, ?_⟩) (by assumption) ?_
  rotate_left
  · intro w hSw; (try dsimp only at hSw); go_simp; first | done | with_reducible rfl
  try simp only [Act.put, List.getElem_toArray, List.getElem_cons_zero, List.getElem_cons_succ, List.setIfInBounds_toArray, List.set_cons_zero, List.set_cons_succ]
  refine wpAnyH_take (i := 7) (oi := _) (v := ?_) rfl (by kernel_rfl) (by kernel_rfl) (by kernel_rfl) (fun _ _ _ h => h) (Or.inl ⟨by rfl, ?_⟩) (by assumption) ?_
  rotate_left
  · intro w hSw; (try dsimp only at hSw); go_simp; first | done | with_reducible rfl
  try simp only [Act.put, List.getElem_toArray, List.getElem_cons_zero, List.getElem_cons_succ, List.setIfInBounds_toArray, List.set_cons_zero, List.set_cons_succ]
  refine wpAnyH_take (i := 8) (oi := _) (v := ?_) rfl (by kernel_rfl) (by kernel_rfl) (by kernel_rfl) (fun _ _ _ h => h) (Or.inl ⟨by rfl, ?_⟩) (by assumption) ?_
  rotate_left
  · intro w hSw; (try dsimp only at hSw); go_simp; first | done | with_reducible rfl
  try simp only [Act.put, List.getElem_toArray, List.getElem_cons_zero, List.getElem_cons_succ, List.setIfInBounds_toArray, List.set_cons_zero, List.set_cons_succ]
  refine wpAnyH_ready (rs := [9]) (by kernel_rfl) (by simp) ?_
  refine AllReadyH.cons (o := _) rfl (fun K hK => ?_) AllReadyH.nil
  go_simp
  obtain ⟨wD, hwD⟩ : ∃ wD, (w3.alloc (.cells #[.int .i64 0, .int .i64 0, .float .f64 0, .string ⟨#[]⟩, .bool false, .int .i64 0, .int .i64 0, .int .i64 0, .float .f64 0, .string ⟨#[]⟩, .bool false, .int .i64 0, .int .i64 0, .int .i64 0, .bool false, .bool false, .int .i64 0, .int .i64 0, .bool false, .bool false, .slice none 0 0] 46)).drew = wD := ⟨_, rfl⟩
  have hxD : Xt w3 wD := by rw [← hwD]; exact ((Xt.refl w3).alloc _).drew
  have hrD : wD.heap[w3.heap.size]? = some (.cells #[.int .i64 0, .int .i64 0, .float .f64 0, .string ⟨#[]⟩, .bool false, .int .i64 0, .int .i64 0, .int .i64 0, .float .f64 0, .string ⟨#[]⟩, .bool false, .int .i64 0, .int .i64 0, .int .i64 0, .bool false, .bool false, .int .i64 0, .int .i64 0, .bool false, .bool false, .slice none 0 0] 46 (0, 0)) := by rw [← hwD]; exact (MapKept.heap_alloc w3 _).1
  have HPD := Lib.hid (HP3.out.step hxD)
  rw [hwD]
  refine hK.out _ _ ⟨HPD.out.cell, HPD.out.ad.1, HPD.out.ad.2, HPD.out.map⟩ (fun hHeld2 => ?_)
  clear hK K
  try simp only [Act.put, List.getElem_toArray, List.getElem_cons_zero, List.getElem_cons_succ, List.setIfInBounds_toArray, List.set_cons_zero, List.set_cons_succ]
  refine wpAnyH_ready (rs := [10]) (by kernel_rfl) (by simp) ?_
  refine AllReadyH.cons (o := _) rfl (fun K hK => ?_) AllReadyH.nil
  rw [if_pos (by rfl)]
  obtain ⟨w4, hw4⟩ : ∃ w4, wD.setRow w3.heap.size (contV X xa X.t.args.length X.t.args.length).cells = w4 := ⟨_, rfl⟩
  have hx4 : Xt w3 w4 := by rw [← hw4]; exact hxD.grownB (setRow_grown _ _ _) (fun m hm => by cases hm; exact Nat.le_refl _)
  refine wp_store_row 46 _ _ rfl w3.heap.size (contV X xa X.t.args.length X.t.args.length).cells rfl rfl 46 _ hrD (by kernel_rfl) rfl (by simp [Value.oneCell', Value.cells]) ?_
  rw [hw4]
  have HP4 := Lib.hid (HP3.out.step hx4)
  refine hK.out _ _ ⟨HP4.out.cell, HP4.out.ad.1, HP4.out.ad.2, HP4.out.map⟩ (fun hHeld3 => ?_)
  clear hK K
  try simp only [Act.put, List.getElem_toArray, List.getElem_cons_zero, List.getElem_cons_succ]
  refine wpAnyH_take (i := 11) (oi := _) (v := ?_) rfl (by kernel_rfl) (by kernel_rfl) (by kernel_rfl) (fun _ _ _ h => h) (Or.inl ⟨by rfl, ?_⟩) (by assumption) ?_
  rotate_left
  · intro w hSw; (try dsimp only at hSw); go_simp; first | done | with_reducible rfl
  try simp only [Act.put, List.getElem_toArray, List.getElem_cons_zero, List.getElem_cons_succ, List.setIfInBounds_toArray, List.set_cons_zero, List.set_cons_succ]
  refine wpAnyH_done (by kernel_rfl) ?_ _
  have hc4 := HP4.out.cell
  have hlen : ∀ ty, (Builtin.len_ #[66] ty #[.map (some mb)]).run Tryz.prog w4 = .ok (.int .i64 M.length) w4 := fun ty => by rw [← HLM.out]; exact HP4.out.map.len Tryz.underlying66
  have hge : ¬ (4096 : Int) ≤ (M.length : Int) := by have := HLT.out; omega
  go_wp2_with fail
  have hS4 : w4.drew.cell? ⟨gb, 0, none⟩ = some (.map (some mb)) ∧ w4.drew.cell? ⟨w.heap.size, 0, none⟩ = some (.int .i64 a.1) ∧ w4.drew.cell? ⟨w.heap.size, 1, none⟩ = some (.int .i64 a.2) ∧ w4.drew.rangeAt (w.heap.size + 1) 0 [.int .i64 c.kind, .int .i64 c.v.kind, .float .f64 c.v.x, .string c.v.s, .bool c.v.b, .int .i64 c.v.f, .int .i64 c.t.kind, .int .i64 c.t.op, .float .f64 c.t.x, .string c.t.s, .bool c.t.b, .int .i64 c.t.f, .int .i64 c.t.ref.a.1, .int .i64 c.t.ref.a.2, .bool c.t.ref.cf, .bool c.t.ref.rf, .int .i64 c.t.to.a.1, .int .i64 c.t.to.a.2, .bool c.t.to.cf, .bool c.t.to.rf, .slice ca c.t.args.length cap] := ⟨HP4.out.cell, HP4.out.ad.1, HP4.out.ad.2, range_row HP4.out.con⟩
  have HGC := Lib.hid (gcopy_any n c ca cap w4.drew HSM.out (HIN.out.xt HP4.out.xt.drew))
  refine wp_region_held_drew (S := fun w' => w'.cell? ⟨gb, 0, none⟩ = some (.map (some mb)) ∧ w'.cell? ⟨w.heap.size, 0, none⟩ = some (.int .i64 a.1) ∧ w'.cell? ⟨w.heap.size, 1, none⟩ = some (.int .i64 a.2) ∧ w'.rangeAt (w.heap.size + 1) 0 [.int .i64 c.kind, .int .i64 c.v.kind, .float .f64 c.v.x, .string c.v.s, .bool c.v.b, .int .i64 c.v.f, .int .i64 c.t.kind, .int .i64 c.t.op, .float .f64 c.t.x, .string c.t.s, .bool c.t.b, .int .i64 c.t.f, .int .i64 c.t.ref.a.1, .int .i64 c.t.ref.a.2, .bool c.t.ref.cf, .bool c.t.ref.rf, .int .i64 c.t.to.a.1, .int .i64 c.t.to.a.2, .bool c.t.to.cf, .bool c.t.to.rf, .slice ca c.t.args.length cap]) (by kernel_rfl) hS4 (fun hHeld => ?_)
  refine wpAnyH_take (i := 0) (oi := _) (v := ?_) rfl (by kernel_rfl) (by kernel_rfl) (by kernel_rfl) (fun _ _ _ h => h) (Or.inl ⟨by rfl, ?_⟩) (by assumption) ?_
  rotate_left
  · intro w hSw; (try dsimp only at hSw); obtain ⟨s0, s1, s2, s3⟩ := hSw; clear s3; go_simp; first | done | with_reducible rfl
  try simp only [Act.put, List.getElem_toArray, List.getElem_cons_zero, List.setIfInBounds_toArray, List.set_cons_zero, List.set_cons_succ]
  refine wpAnyH_take (i := 1) (oi := _) (v := ?_) rfl (by kernel_rfl) (by kernel_rfl) (by kernel_rfl) (fun _ _ _ h => h) (Or.inl ⟨by rfl, ?_⟩) (by assumption) ?_
  rotate_left
  · intro w hSw; (try dsimp only at hSw); obtain ⟨s0, s1, s2, s3⟩ := hSw; clear s3; go_simp; first | done | with_reducible rfl
  try simp only [Act.put, List.getElem_toArray, List.getElem_cons_zero, List.getElem_cons_succ, List.setIfInBounds_toArray, List.set_cons_zero, List.set_cons_succ]
  refine wpAnyH_take (i := 2) (oi := _) (v := ?_) rfl (by kernel_rfl) (by kernel_rfl) (by kernel_rfl) (fun _ _ _ h => h) (Or.inl ⟨by rfl, ?_⟩) (by assumption) ?_
  rotate_left
  · intro w hSw; (try dsimp only at hSw); obtain ⟨s0, s1, s2, s3⟩ := hSw; clear s3; go_simp; first | done | with_reducible rfl
  try simp only [Act.put, List.getElem_toArray, List.getElem_cons_zero, List.getElem_cons_succ, List.setIfInBounds_toArray, List.set_cons_zero, List.set_cons_succ]
  refine wpAnyH_take (i := 3) (oi := _) (v := ?_) rfl (by kernel_rfl) (by kernel_rfl) (by kernel_rfl) (fun _ _ _ h => h) (Or.inl ⟨by rfl, ?_⟩) (by assumption) ?_
  rotate_left
  · intro w hSw; (try dsimp only at hSw); obtain ⟨s0, s1, s2, s3⟩ := hSw; clear s3; go_simp; first | done | with_reducible rfl
  try simp only [Act.put, List.getElem_toArray, List.getElem_cons_zero, List.getElem_cons_succ, List.setIfInBounds_toArray, List.set_cons_zero, List.set_cons_succ]
  refine wpAnyH_take (i := 4) (oi := _) (v := ?_) rfl (by kernel_rfl) (by kernel_rfl) (by kernel_rfl) (fun _ _ _ h => h) (Or.inl ⟨by rfl, ?_⟩) (by assumption) ?_
  rotate_left
  · intro w hSw; (try dsimp only at hSw); obtain ⟨s0, s1, s2, s3⟩ := hSw; clear s3; go_simp; first | done | with_reducible rfl
  try simp only [Act.put, List.getElem_toArray, List.getElem_cons_zero, List.getElem_cons_succ, List.setIfInBounds_toArray, List.set_cons_zero, List.set_cons_succ]
  refine wpAnyH_take (i := 5) (oi := _) (v := .agg #[.int .i64 c.kind, .int .i64 c.v.kind, .float .f64 c.v.x, .string c.v.s, .bool c.v.b, .int .i64 c.v.f, .int .i64 c.t.kind, .int .i64 c.t.op, .float .f64 c.t.x, .string c.t.s, .bool c.t.b, .int .i64 c.t.f, .int .i64 c.t.ref.a.1, .int .i64 c.t.ref.a.2, .bool c.t.ref.cf, .bool c.t.ref.rf, .int .i64 c.t.to.a.1, .int .i64 c.t.to.a.2, .bool c.t.to.cf, .bool c.t.to.rf, .slice ca c.t.args.length cap]) rfl (by kernel_rfl) (by kernel_rfl) (by kernel_rfl) (fun _ _ _ h => h) (yieldsIf_load_mid (by rfl) 46 _ rfl (w.heap.size + 1) 0 rfl [.int .i64 c.kind, .int .i64 c.v.kind, .float .f64 c.v.x, .string c.v.s, .bool c.v.b, .int .i64 c.v.f, .int .i64 c.t.kind, .int .i64 c.t.op, .float .f64 c.t.x, .string c.t.s, .bool c.t.b, .int .i64 c.t.f, .int .i64 c.t.ref.a.1, .int .i64 c.t.ref.a.2, .bool c.t.ref.cf, .bool c.t.ref.rf, .int .i64 c.t.to.a.1, .int .i64 c.t.to.a.2, .bool c.t.to.cf, .bool c.t.to.rf, .slice ca c.t.args.length cap] _ (fun w' hw' => hw'.2.2.2) Tryz.underlying46 rfl (by kernel_rfl)) (by assumption) ?_
  try simp only [Act.put, List.getElem_toArray, List.getElem_cons_zero, List.getElem_cons_succ, List.setIfInBounds_toArray, List.set_cons_zero, List.set_cons_succ]
  refine wpAnyH_ready (rs := [6]) (by kernel_rfl) (by simp) ?_
  refine AllReadyH.cons (o := _) rfl (fun K hK => ?_) AllReadyH.nil
  go_simp
  refine HGC.out.mono ?_
  rintro e w5 ⟨a', rfl, hA, hx5⟩
  have HP5 := Lib.hid (HP4.out.step ((Xt.refl w4).drew.trans hx5))
  refine hK.out _ _ ⟨HP5.out.cell, HP5.out.ad.1, HP5.out.ad.2, range_row HP5.out.con⟩ (fun hHeld2 => ?_)
  clear hK K
  try simp only [Act.put, List.getElem_toArray, List.getElem_cons_zero, List.getElem_cons_succ, List.setIfInBounds_toArray, List.set_cons_zero, List.set_cons_succ]
  obtain ⟨w6, hupd, hm6, hg6, hd6, hs6⟩ := HP5.out.map.update (P := Tryz.prog) (t := 66) (k := 36) (e := 46) adrKey Tryz.underlying66 a (copyCV c a')
  have hupd' : (Instr.mapUpdate 66 (.map (some mb)) (.agg #[.int .i64 a.1, .int .i64 a.2]) (copyCV c a')).run Tryz.prog w5 = .ok () w6 := hupd
  have HC6 : Hid (CellsIn w5 w6) := CellsIn.of_grown HP5.out.map hg6
  have HM6 := Lib.hid hm6
  have HG6 := Lib.hid hg6
  have HA := Lib.hid hA
  clear hm6 hg6 hA hupd
  refine wpAnyH_ready (rs := [7]) (by kernel_rfl) (by simp) ?_
  refine AllReadyH.cons (o := _) rfl (fun K hK => ?_) AllReadyH.nil
  go_simp
  refine hK.out _ _ ⟨HC6.out _ _ _ HP5.out.cell, HC6.out _ _ _ HP5.out.ad.1, HC6.out _ _ _ HP5.out.ad.2, fun j v hv => HC6.out _ _ _ (range_row HP5.out.con j v hv)⟩ (fun hHeld3 => ?_)
  clear hK K
  try simp only [Act.put, List.getElem_toArray, List.getElem_cons_zero, List.getElem_cons_succ, List.setIfInBounds_toArray, List.set_cons_zero, List.set_cons_succ]
  refine wpAnyH_done (by kernel_rfl) ?_ _
  go_wp2_with fail
  go_ret
  refine ⟨a', rfl, H.out.put (HP5.out.xt.cellsIn.trans HC6.out) HE.out (x := (copyC c, a')) (by rw [ceV_copy]) HM6.out ⟨smallT_copy _ HSM.out, n, ?_⟩ (HLS.out a'), ?_⟩
  · have h0 := HA.out.args.kept HC6.out
    show ArgsIn w6 n (.slice a' (copyT c.t).args.length (copyT c.t).args.length) (copyT c.t).args
    rw [copyT_len, copyT_args]; exact h0
  · have hx := HP5.out.xt
    exact ⟨HG6.out.os.trans hx.os, HG6.out.tape.trans hx.tape, HG6.out.output.trans hx.output, Nat.le_trans hx.size HG6.out.size, fun k hk hne => (HG6.out.block k (Nat.lt_of_lt_of_le hk hx.size) hne).trans (hx.block k hk)⟩
theorem gput_any (n : Nat) (gb mb : Nat) (M : GM) (a : Ad) (c : ContT) (ca : Option Addr) (cap : Nat) (w : World) (h : GridIs w gb mb M) (hok : c.ok) (hT : Tabs w) (hsm : smallT c.t) (hin : ArgsIn w n (.slice ca c.t.args.length cap) c.t.args) : Calls Tryz.prog 10 #[.pointer (some ⟨gb, 0, none⟩), .agg #[.int .i64 a.1, .int .i64 a.2], contV c ca c.t.args.length cap] w (PutR w gb mb M a c) := by
  by_cases hb : gvalidB c = true
  · by_cases hb2 : validB a.1 a.2 = true
    · by_cases hk : (c.kind == 0) = true
      · refine (gput_del n gb mb M a c ca cap w h hok hT hsm hin hb hb2 hk).mono ?_
        rintro e w' ⟨rfl, q1, q2⟩
        exact ⟨none, by simp [putCode, hb, hb2, hk], by simpa [putTo, hb, hb2, hk] using q1, q2⟩
      · have hk := Bool.eq_false_iff.2 hk
        by_cases his : (lkM a M).isSome = true
        · refine (gput_old n gb mb M a c ca cap w h hok hT hsm hin hb hb2 hk his).mono ?_
          rintro e w' ⟨x, rfl, q1, q2⟩
          exact ⟨x, by simp [putCode, hb, hb2, hk, fullB, his], by simpa [putTo, hb, hb2, hk, fullB, his] using q1, q2⟩
        · have his := Bool.eq_false_iff.2 his
          by_cases hlt : M.length < 4096
          · refine (gput_new n gb mb M a c ca cap w h hok hT hsm hin hb hb2 hk his hlt).mono ?_
            rintro e w' ⟨x, rfl, q1, q2⟩
            have h4 : ¬ 4096 ≤ M.length := by omega
            exact ⟨x, by simp [putCode, hb, hb2, hk, fullB, his, h4], by simpa [putTo, hb, hb2, hk, fullB, his, h4] using q1, q2⟩
          · have h4 : 4096 ≤ M.length := by omega
            refine (gput_full n gb mb M a c ca cap w h hok hT hsm hin hb hb2 hk his (by simp [fullB, his, h4])).mono ?_
            rintro e w' ⟨rfl, q1⟩
            exact ⟨none, by simp [putCode, hb, hb2, hk, fullB, his, h4], by simpa [putTo, hb, hb2, hk, fullB, his, h4] using h.xt q1, ⟨q1.os, q1.tape, q1.output, q1.size, fun k hk _ => q1.block k hk⟩⟩
    · have hb2 := Bool.eq_false_iff.2 hb2
      refine (gput_ad n gb mb M a c ca cap w h hok hT hsm hin hb hb2).mono ?_
      rintro e w' ⟨rfl, q1⟩
      exact ⟨none, by simp [putCode, hb, hb2], by simpa [putTo, hb, hb2] using h.xt q1, ⟨q1.os, q1.tape, q1.output, q1.size, fun k hk _ => q1.block k hk⟩⟩
  · have hb := Bool.eq_false_iff.2 hb
    refine (gput_inv n gb mb M a c ca cap w h hok hT hsm hin hb).mono ?_
    rintro e w' ⟨rfl, q1⟩
    exact ⟨none, by simp [putCode, hb], by simpa [putTo, hb] using h.xt q1, ⟨q1.os, q1.tape, q1.output, q1.size, fun k hk _ => q1.block k hk⟩⟩

/-! ### how many cells a grid has -/
section
variable {α : Type}
theorem len_setM_new {a : Ad} {l : α} : ∀ {M : List (Ad × α)}, lkM a M = none → (setM a l M).length = M.length + 1
  | [], _ => by simp [setM]
  | x :: r, h => by
    unfold lkM at h
    by_cases hx : x.1 = a
    · simp [hx] at h
    · rw [if_neg hx] at h
      unfold setM
      rw [if_neg hx]
      split
      · simp
      · simp [len_setM_new h]
end
/-- The first n cells, row by row. -/
structure Full (wd n : Nat) (M : GM) : Prop where
  sorted : SortedM M
  len : M.length = n
  keys : ∀ x ∈ M, 1 ≤ x.1.1 ∧ x.1.1 ≤ wd ∧ 1 ≤ x.1.2 ∧ (x.1.2 - 1).toNat * wd + (x.1.1 - 1).toNat < n
  one : 0 < n → (lkM (1, 1) M).isSome = true
theorem Full.no {wd n : Nat} {M : GM} (h : Full wd n M) {a : Ad} (ha : n ≤ (a.2 - 1).toNat * wd + (a.1 - 1).toNat) : lkM a M = none := lkM_none.2 fun x hx e => by
  have := (h.keys x hx).2.2.2
  rw [e] at this; omega
theorem Full.put {wd n : Nat} {M : GM} (h : Full wd n M) {r c : Nat} (hc : c < wd) (hn : n = r * wd + c) (x : CE) : Full wd (n + 1) (setM ((c : Int) + 1, (r : Int) + 1) x M) := by
  have hno : lkM ((c : Int) + 1, (r : Int) + 1) M = none := h.no (by
    rw [show ((r : Int) + 1 - 1).toNat = r by omega, show ((c : Int) + 1 - 1).toNat = c by omega]; omega)
  refine ⟨sorted_setM _ _ h.sorted, by rw [len_setM_new hno, h.len], fun y hy => ?_, fun _ => ?_⟩
  · rcases mem_setM hy with rfl | hy
    · refine ⟨by show (1 : Int) ≤ (c : Int) + 1; omega, by show (c : Int) + 1 ≤ (wd : Int); omega, by show (1 : Int) ≤ (r : Int) + 1; omega, ?_⟩
      show ((r : Int) + 1 - 1).toNat * wd + ((c : Int) + 1 - 1).toNat < n + 1
      rw [show ((r : Int) + 1 - 1).toNat = r by omega, show ((c : Int) + 1 - 1).toNat = c by omega]; omega
    · have := h.keys y hy; omega
  · rw [lkM_set]
    by_cases hn0 : 0 < n
    · split
      · rfl
      · exact h.one hn0
    · have hz : r * wd = 0 ∧ c = 0 := by omega
      have hr : r = 0 := by
        rcases Nat.mul_eq_zero.1 hz.1 with h | h
        · exact h
        · omega
      rw [hr, hz.2]
      simp

/-! ### plain grids -/
abbrev PG := List (Ad × ContT)
def er (M : GM) : PG := M.map fun x => (x.1, x.2.1)
theorem er_lk (a : Ad) : ∀ M : GM, lkM a (er M) = (lkM a M).map (·.1)
  | [] => rfl
  | x :: r => by
    have ih := er_lk a r
    unfold er at ih ⊢
    rw [List.map_cons, lkM, lkM]
    by_cases h : x.1 = a
    · simp [h]
    · simp only [h, if_false]; exact ih
theorem er_set (a : Ad) (c : ContT) (p : Option Addr) : ∀ M : GM, er (setM a (c, p) M) = setM a c (er M)
  | [] => rfl
  | x :: r => by
    have ih := er_set a c p r
    unfold er at ih ⊢
    rw [List.map_cons, setM, setM]
    by_cases h : x.1 = a
    · simp [h]
    · simp only [h, if_false]
      by_cases h2 : adLt a x.1 = true
      · simp [h2]
      · simp only [h2, Bool.false_eq_true, if_false, List.map_cons, ih]
theorem er_del (a : Ad) (M : GM) : er (delM a M) = delM a (er M) := by
  unfold er delM
  rw [List.filter_map]
  rfl
theorem er_len (M : GM) : (er M).length = M.length := by simp [er]
theorem er_keys (M : GM) : (er M).map (·.1) = M.map (·.1) := by simp [er]
def fullP (P : PG) (a : Ad) : Bool := !(lkM a P).isSome && decide (4096 ≤ P.length)
def codeP (P : PG) (a : Ad) (c : ContT) : Int := if gvalidB c = false then 1 else if validB a.1 a.2 = false then 20 else if (c.kind == 0) = true then 0 else if fullP P a = true then 41 else 0
def putP (P : PG) (a : Ad) (c : ContT) : PG := if gvalidB c = false then P else if validB a.1 a.2 = false then P else if (c.kind == 0) = true then delM a P else if fullP P a = true then P else setM a (copyC c) P
theorem er_full (M : GM) (a : Ad) : fullB M a = fullP (er M) a := by unfold fullB fullP; rw [er_lk, er_len]; simp
theorem er_code (M : GM) (a : Ad) (c : ContT) : putCode M a c = codeP (er M) a c := by unfold putCode codeP; rw [er_full]
theorem er_put (M : GM) (a : Ad) (c : ContT) (x : Option Addr) : er (putTo M a c x) = putP (er M) a c := by
  unfold putTo putP
  rw [er_full]
  split
  · rfl
  split
  · rfl
  split
  · exact er_del a M
  split
  · rfl
  · exact er_set a (copyC c) x M
structure GOk (P : PG) : Prop where
  sorted : SortedM P
  many : P.length ≤ 4096
  each : ∀ x ∈ P, validB x.1.1 x.1.2 = true ∧ gvalidB x.2 = true ∧ (x.2.kind == 0) = false ∧ copyC x.2 = x.2 ∧ x.2.ok
theorem GOk.nil : GOk [] := ⟨List.Pairwise.nil, by simp, fun x hx => by cases hx⟩
theorem GOk.del {P : PG} (h : GOk P) (a : Ad) : GOk (delM a P) := ⟨sorted_delM a h.sorted, Nat.le_trans (List.length_filter_le ..) h.many, fun x hx => h.each x (List.mem_filter.1 hx).1⟩
theorem GOk.set {P : PG} (h : GOk P) {a : Ad} {c : ContT} (hf : fullP P a = false) (hv : validB a.1 a.2 = true) (hg : gvalidB c = true) (hk : (c.kind == 0) = false) (hok : c.ok) : GOk (setM a (copyC c) P) := by
  refine ⟨sorted_setM a _ h.sorted, ?_, fun x hx => ?_⟩
  · unfold fullP at hf
    cases hl : lkM a P with
    | none =>
      rw [len_setM_new hl]
      rw [hl] at hf
      simp only [Option.isSome_none, Bool.not_false, Bool.true_and, decide_eq_false_iff_not] at hf
      omega
    | some y =>
      rw [len_setM h.sorted (by rw [hl]; rfl)]
      exact h.many
  · rcases mem_setM hx with rfl | hx
    · exact ⟨hv, (gvalidB_copy c).trans hg, hk, copyC_idem c, okC_copy hok⟩
    · exact h.each x hx
theorem GOk.put {P : PG} (h : GOk P) (a : Ad) {c : ContT} (hok : c.ok) : GOk (putP P a c) := by
  unfold putP
  cases h1 : gvalidB c
  · exact h
  cases h2 : validB a.1 a.2
  · exact h
  cases h3 : (c.kind == 0)
  · simp only [Bool.true_eq_false, Bool.false_eq_true, if_false]
    cases h4 : fullP P a
    · exact h.set h4 h2 h1 h3 hok
    · exact h
  · exact h.del a
/-! ### equal -/
/-! ### put again in any order -/
theorem nodup_keys {P : PG} (h : SortedM P) : (P.map (·.1)).Nodup := nodup_M h
end
section
open Go.RowKit Go.Sort Go.Maps Go.Shelf

/-! ### maps.Clone -/
set_option maxHeartbeats 2000000 in
set_option maxRecDepth 100000 in
theorem mclone_any (b : Nat) (es : Array MapEntry) (clock : Nat) (w : World) (hb : w.heap[b]? = some (.map es clock)) :
    Calls Tryz.prog 49 #[.map (some b)] w fun e w' => e = .returned (.map (some w.heap.size)) ∧ w' = w.alloc (.map es clock) := by
  have hq := fun w => run_eql_map_nil_sl (P := Tryz.prog) w 66 _ _ (some b) Tryz.underlying66
  go_enter Tryz.func49, Tryz.ntmps49
  go_wp2
  rw [run_callFunc_extern Tryz.func75 (by kernel_rfl) (by kernel_rfl) (by kernel_rfl) (e := Extern.MapsClone.clone) (by kernel_rfl), run_maps_clone_sl w 66 hb]
  simp only [Result.andThen]
  rw [Oper.upon_value]
  go_wp2
  rw [run_typeAssert_map_sl _ 66 _ _ _ _ Tryz.underlying66]
  simp only [Result.andThen]
  rw [Oper.upon_value]
  go_wp2
  go_ret
  exact ⟨rfl, rfl⟩
/-! ### maps.Keys -/
section
variable {F : Fence} {n : Nat} {P : Program} (w : World) {ops : Array Oper} {rest : List Oper} {o : Oper} {a : Act} {Q : Exit → Act → World → Prop}
theorem wpListIn_range_it (hg : o.guard = none) (m : Operand) (t k e : TypeId) (hop : o.op = Op.range t m) (ht : P.underlying t = some (.map k e)) (b : Nat) (E : List (Ad × Value)) (hm : a.eval m = .map (some b)) (h : MapIs w b E)
    (hK : ∀ w', IterIs w' w.heap.size b E E none → Gr w w' → w'.heap.size = w.heap.size + 1 → wpListIn F n P ops Q rest (a.put o.dst (.pointer (some ⟨w.heap.size, 0, none⟩))) w') :
    wpListIn F n P ops Q (o :: rest) a w := by
  refine wpListIn_plain hg fun K' hK' => ?_
  obtain ⟨w', hrun, r1, r2, r3⟩ := h.range (P := P) ht
  unfold Oper.wpIn
  refine ⟨?_, ?_⟩
  · simp [Oper.about, hop]
  · rw [Oper.semAt_plain F _ _ (by rw [hop]; intro c hc'; cases hc')]
    simp [execOp, hop, hm, hrun, Result.andThen]
    exact hK' _ _ (hK w' r1 r2 r3)
theorem wpListIn_next_it (hg : o.guard = none) (it : Operand) (hop : o.op = Op.next it false) (r b : Nat) (E left : List (Ad × Value)) (cur : Option (Ad × Value)) (hit : a.eval it = .pointer (some ⟨r, 0, none⟩)) (h : IterIs w r b E left cur)
    (hDone : left = [] → wpListIn F n P ops Q rest (a.put o.dst (.tuple #[.bool false])) w)
    (hMore : ∀ (c d : Int) (v : Value) l1 l2 w1, left = l1 ++ ((c, d), v) :: l2 → IterIs w1 r b E (l1 ++ l2) (some ((c, d), v)) → w.grownBy w1 (some r) → w1.heap.size = w.heap.size →
      (Instr.entry (.pointer (some ⟨r, 0, none⟩))).run P w1 = .ok (.tuple #[.agg #[.int .i64 c, .int .i64 d], v]) w1 → wpListIn F n P ops Q rest (a.put o.dst (.tuple #[.bool true, .agg #[.int .i64 c, .int .i64 d], v])) w1) :
    wpListIn F n P ops Q (o :: rest) a w := by
  refine wpListIn_plain hg fun K' hK' => ?_
  unfold Oper.wpIn
  refine ⟨by simp [Oper.about, hop], ?_⟩
  rw [Oper.semAt_plain F _ _ (by rw [hop]; intro c hc'; cases hc')]
  rcases h.next (P := P) o.type with ⟨h0, hrun⟩ | ⟨x, l1, l2, w1, hl, hrun, hI, hgr, hsz⟩
  · simp [execOp, hop, hit, hrun, Result.andThen]
    exact hK' _ _ (hDone h0)
  · simp [execOp, hop, hit, hrun, Result.andThen]
    exact hK' _ _ (hMore x.1.1 x.1.2 x.2 l1 l2 w1 hl hI hgr hsz hI.entry)
end
theorem IterIs.walks {w w' : World} {r b : Nat} {E left : List (Ad × Value)} {cur : Option (Ad × Value)} (h : IterIs w r b E left cur) (hk : KeepsWalks w w') : IterIs w' r b E left cur := by
  obtain ⟨es, clock, seen, h1, h2, h3, h4, h5⟩ := h
  exact ⟨es, clock, seen, hk.same b _ h1 rfl, h2, h3, hk.same r _ h4 rfl, h5⟩
theorem IterIs.isWalk {w : World} {r b : Nat} {E left : List (Ad × Value)} {cur : Option (Ad × Value)} (h : IterIs w r b E left cur) : ∃ o : Obj, w.heap[r]? = some o ∧ o.isWalk = true := by
  obtain ⟨es, clock, seen, h1, h2, h3, h4, h5⟩ := h
  exact ⟨_, h4, rfl⟩
theorem Gr.grown {w w' : World} (h : Gr w w') : w.grownBy w' none := by
  obtain ⟨q, os, rfl⟩ := h
  exact ⟨rfl, rfl, rfl, by simp [World.drewN], fun k hk _ => heap_grow_old _ _ hk⟩
/-- How many are to come, read off the world. -/
noncomputable def itLeft (w : World) (b r : Nat) : Nat := match w.heap[b]?, w.heap[r]? with
  | some (.map es _), some (.mapIter _ _ seen _) => (leftOf es seen).size
  | _, _ => 0
theorem IterIs.itLeft {w : World} {r b : Nat} {E left : List (Ad × Value)} {cur : Option (Ad × Value)} (h : IterIs w r b E left cur) : itLeft w b r = left.length := by
  obtain ⟨es, clock, seen, h1, h2, h3, h4, h5, _⟩ := h
  simp only [YtideclfpbpjebaaGreatDoor.itLeft, h1, h4]
  have := congrArg List.length h5
  simpa using this
abbrev adW (x : Ad) : Value := .agg #[.int .i64 x.1, .int .i64 x.2]
set_option maxRecDepth 100000 in
set_option maxHeartbeats 2000000 in
theorem keys1_in (F : Fence) (n : Nat) (hf : F.fn 80) (hro : F.round = none) (hn : 1 ≤ n) (l Bm b : Nat) (E : List (Ad × Value)) (J Jx : List Ad → World → Prop)
    (hY : ∀ pre x W, J pre W → pre.length < E.length → YieldAt F (n - 1) Tryz.prog l #[adW x] W fun e W' => (e = .returned (.bool true) ∧ J (pre ++ [x]) W' ∧ KeepsWalks W W') ∨ (e = .returned (.bool false) ∧ Jx (pre ++ [x]) W'))
    (W : World) (hJ : AbidesFrom W.heap.size J) (hm : W.cell? ⟨Bm, 0, none⟩ = some (.map (some b))) (hown : MapIs W b E) (h0 : J [] W) :
    CallsIn F n Tryz.prog 80 #[.func (.yield l) #[] #[], .pointer (some ⟨Bm, 0, none⟩)] W fun e W' => (∃ v, e = .returned v) ∧ ((∃ ks : List Ad, ks.Perm (E.map (·.1)) ∧ J ks W') ∨ (∃ pre, True ∧ Jx pre W')) := by
  refine callsIn_of_wp Tryz.func80 rfl hf ?_ hro
  simp only [Tryz.ntmps80, List.size_toArray, List.length_cons, List.length_nil, Nat.reduceAdd, Nat.reduceSub, Array.replicate_succ, Array.replicate_zero, List.push_toArray, List.append_toArray, List.nil_append, List.cons_append]
  gi_wp2_with (first
    | (gi_at_range; refine wpListIn_range_it _ rfl _ 66 36 46 rfl Tryz.underlying66 b E rfl hown ?_; intro w0 hI0 hg0 hs0)
    | gi_in)
  go_frame
  gi_loopw [3] (fun _ wr => ∃ (left : List (Ad × Value)) (cur : Option (Ad × Value)) (ks : List Ad), IterIs wr W.heap.size b E left cur ∧ Hid ((ks ++ left.map (·.1)).Perm (E.map (·.1))) ∧ J ks wr ∧ wr.heap.size ≥ W.heap.size)
    (fun _ wr => itLeft wr b W.heap.size)
  case atStart => exact ⟨E, none, [], hI0, by unfold Hid; simp, hJ [] W w0 none h0 hg0.grown (fun r e => by cases e), by omega⟩
  case round =>
    obtain ⟨left, cur, ks, hI, HP, hJs, hsz⟩ := hrel
    gi_wp2_with (first
      | (gi_at_next; refine wpListIn_next_it _ rfl _ rfl _ _ _ _ _ rfl hI ?_ ?_)
      | gi_in)
    · intro hl0
      subst hl0
      gi_wp2
      go_end0
      exact ⟨⟨_, rfl⟩, Or.inl ⟨ks, by have := HP.out; simpa using this, hJs⟩⟩
    · intro c d v l1 l2 w1 hl hI1 hg1 hs1 hen
      have HL := Lib.hid hl
      have hkl : ks.length < E.length := by
        have := HP.out.length_eq
        rw [hl] at this; simp at this; omega
      have hJ1 : J ks w1 := hJ ks wr w1 (some W.heap.size) hJs hg1 (fun r e => by cases e; exact ⟨Nat.le_refl _, hI.isWalk⟩)
      have hJ2 : J ks (w1.alloc (.cells #[.int .i64 c, .int .i64 d] 36)) := hJ ks w1 _ none hJ1 (World.grownBy_alloc w1 _ none) (fun r e => by cases e)
      obtain ⟨fn, tmps, assign, body, hy, hR⟩ := hY ks (c, d) _ hJ2 hkl
      have hI2 : IterIs (w1.alloc (.cells #[.int .i64 c, .int .i64 d] 36)) W.heap.size b E (l1 ++ l2) (some ((c, d), v)) := hI1.walks (KeepsWalks.alloc _ _)
      clear hl hs1
      (try dsimp only at hy)
      gi_wp2
      refine hR.mono ?_
      rintro e W3 (⟨rfl, hJ3, hk3⟩ | ⟨rfl, hJ3⟩)
      rotate_left
      · gi_wp2
        refine bodyPost_ret (results_none rfl _ _ _) rfl ?_
        exact ⟨⟨_, rfl⟩, Or.inr ⟨_, trivial, hJ3⟩⟩
      gi_wp2
      have hI3 := hI2.walks hk3
      have hs3 := hk3.size
      go_roundw
      case rel =>
        refine ⟨l1 ++ l2, _, ks ++ [(c, d)], hI3, ?_, hJ3, by have := hg1.size; simp at hs3; omega⟩
        refine List.Perm.trans ?_ HP.out
        rw [HL.out]
        simp only [List.map_append, List.map_cons, List.append_assoc, List.singleton_append]
        exact List.Perm.append_left _ List.perm_middle.symm
      case measure => rw [hI3.itLeft, hI.itLeft, HL.out]; simp
/-- maps.Keys: the map is boxed, the function value captures the box. -/
theorem keys_in (F : Fence) (n : Nat) (hf : F.fn 54) (hro : F.round = none) (mb : Option Nat) (w : World) :
    CallsIn F n Tryz.prog 54 #[.map mb] w fun e w' => e = .returned (.func (.func 80) #[] #[.pointer (some ⟨w.heap.size, 0, none⟩)]) ∧ w' = w.alloc (.cells #[.map mb] 66) := by
  refine callsIn_of_wp Tryz.func54 rfl hf ?_ hro
  simp only [Tryz.ntmps54, List.size_toArray, List.length_cons, List.length_nil, Nat.reduceAdd, Nat.reduceSub, Array.replicate_succ, Array.replicate_zero, List.push_toArray, List.append_toArray, List.nil_append, List.cons_append]
  gi_wp2
  go_ret
  exact ⟨rfl, rfl⟩
/-- What it hands back gives the keys, each once, in some order. -/
theorem keys_stops (F : Fence) (n : Nat) (hf : F.fn 80) (hro : F.round = none) (hn : 1 ≤ n) (Bm b : Nat) (E : List (Ad × Value)) (w : World) (hBm : Bm < w.heap.size) (hm : w.cell? ⟨Bm, 0, none⟩ = some (.map (some b))) (hown : MapIs w b E) :
    SeqStopsK F n Tryz.prog 80 #[.pointer (some ⟨Bm, 0, none⟩)] (fun x : Ad => #[adW x]) KeepsWalks (fun ks => ks.Perm (E.map (·.1))) (fun _ => True) E.length w := fun l J Jx W hW hJ _ hY h0 =>
  keys1_in F n hf hro hn l Bm b E J Jx hY W hJ ((hW.cell (p := ⟨Bm, 0, none⟩) hBm).trans hm) (hown.of_heap (hW.block b hown.lt)) h0

/-! ### what a round over a grid must keep -/
/-- A (2 * e): cells of type e are kept too; A (2 * k + 1): the map at block k need not be. -/
def keptO (A : Nat → Bool) (k : Nat) : Obj → Bool
  | .cells _ e _ => e == 36 || e == 86 || e == 25 || A (2 * e)
  | .map _ _ => !A (2 * k + 1)
  | o => o.isWalk
structure KeepsT (A : Nat → Bool) (W W' : World) : Prop where
  size : W.heap.size ≤ W'.heap.size
  same : ∀ (k : Nat) (o : Obj), W.heap[k]? = some o → keptO A k o = true → W'.heap[k]? = some o
theorem KeepsT.refl (A : Nat → Bool) (W : World) : KeepsT A W W := ⟨Nat.le_refl _, fun _ _ h _ => h⟩
theorem KeepsT.trans {A : Nat → Bool} {X Y Z : World} (h : KeepsT A X Y) (k : KeepsT A Y Z) : KeepsT A X Z := ⟨Nat.le_trans h.size k.size, fun i o hi ho => k.same i o (h.same i o hi ho) ho⟩
theorem KeepsT.of_xt {A : Nat → Bool} {W W' : World} (h : Xt W W') : KeepsT A W W' := ⟨h.size, fun k _o hk _ => (h.block k (Array.getElem?_eq_some_iff.1 hk).1).trans hk⟩
theorem KeepsT.of_grown {A : Nat → Bool} {W W' : World} {row : Option Nat} (h : W.grownBy W' row) (hr : ∀ j o, row = some j → W.heap[j]? = some o → keptO A j o = false) : KeepsT A W W' :=
  ⟨h.size, fun k o hk ho => (h.block k (Array.getElem?_eq_some_iff.1 hk).1 (fun e => by rw [hr k o e.symm hk] at ho; cases ho)).trans hk⟩
theorem MapIs.keptT {A : Nat → Bool} {w w' : World} {b : Nat} {E : List (Ad × Value)} (h : MapIs w b E) (hk : KeepsT A w w') (hA : A (2 * b + 1) = false) : MapIs w' b E := by
  obtain ⟨es, clock, h1, h2⟩ := h
  exact ⟨es, clock, hk.same b _ h1 (by simp [keptO, hA]), h2⟩
theorem OwnL.keptT {A : Nat → Bool} {w w' : World} {B : Nat} {v : Value} {l : List Ad} (h : OwnL w B 36 2 adC v l) (hk : KeepsT A w w') : OwnL w' B 36 2 adC v l := by
  refine ⟨h.1, ?_⟩
  rcases h.2 with q | ⟨g, cap, cur, q1, q2, q3, q4⟩
  · exact Or.inl q
  · exact Or.inr ⟨g, cap, cur, q1, q2, hk.same g _ q3 (by simp [keptO]), q4⟩
theorem Xt.grownN {W W' : World} (h : Xt W W') : W.grownBy W' none := ⟨h.os, h.tape, h.output, h.size, fun k hk _ => h.block k hk⟩
/-- What the iterator over a grid stands on, between two rounds; R is what is kept of the world in which it began. -/
structure ItSt (A : Nat → Bool) (n₀ : Nat) (R : World → World → Prop) (w0 : World) (wf : Nat) (wl : Array Value) (Bw mb kb : Nat) (E : List (Ad × Value)) (v : Value) (keys : List Ad) (wr : World) : Prop where
  below : R w0 wr
  big : n₀ ≤ wr.heap.size
  want : wr.heap[Bw]? = some (.cells #[.func (.func wf) #[] wl] 86 (0, 0))
  was : MapIs wr mb E
  keys : OwnL wr kb 36 2 adC v keys
  free : A (2 * mb + 1) = false
theorem ItSt.step {A : Nat → Bool} {n₀ : Nat} {R : World → World → Prop} {w0 : World} {wf : Nat} {wl : Array Value} {Bw mb kb : Nat} {E : List (Ad × Value)} {v : Value} {keys : List Ad} {wr wr' : World} (h : ItSt A n₀ R w0 wf wl Bw mb kb E v keys wr) (hR : R w0 wr') (hk : KeepsT A wr wr') : ItSt A n₀ R w0 wf wl Bw mb kb E v keys wr' :=
  ⟨hR, Nat.le_trans h.big hk.size, hk.same _ _ h.want (by simp [keptO]), h.was.keptT hk h.free, h.keys.keptT hk, h.free⟩
/-- An entry as it is told: its cell, its content, where its copy's list lies. -/
abbrev TE := Ad × ContT × Option Addr
abbrev teV (x : TE) : Array Value := #[adW x.1, copyCV x.2.1 x.2.2]
/-- What is known of what is told: its copy's nodes lie in blocks that have been laid since V. -/
def toldT (V : World) (x : TE) (w : World) : Prop := Xt V w ∧ smallT x.2.1.t ∧ ∃ n, ArgsS (fun b => V.heap.size ≤ b) w n (.slice x.2.2 x.2.1.t.args.length x.2.1.t.args.length) (copyL x.2.1.t.args)
/-- The same; and the grid has it. -/
def toldM (M : GM) (V : World) (x : TE) (w : World) : Prop := toldT V x w ∧ (x.1, x.2.1) ∈ M.map (fun y => (y.1, y.2.1))
def toldS (M : GM) (wb : Ad → Bool) (xs : List TE) : Prop := xs.map (fun x => (x.1, x.2.1)) = (M.filter (fun y => wb y.1)).map (fun y => (y.1, y.2.1))
/-- As toldT, in whole rows of nodes; and it is the next one behind what was told. -/
def toldN (M : GM) (wb : Ad → Bool) (pre : List TE) (V : World) (x : TE) (w : World) : Prop :=
  Xt V w ∧ smallT x.2.1.t ∧ (∃ n, OwnIn (fun b => V.heap.size ≤ b) w n (.slice x.2.2 x.2.1.t.args.length x.2.1.t.args.length) (copyL x.2.1.t.args)) ∧ ∃ i, toldS (M.take i) wb (pre ++ [x])
theorem toldN.m {M : GM} {wb : Ad → Bool} {pre : List TE} {V : World} {x : TE} {w : World} (h : toldN M wb pre V x w) : toldM M V x w := by
  obtain ⟨h1, h2, ⟨n, h3⟩, i, hi⟩ := h
  refine ⟨⟨h1, h2, n, h3.argsS⟩, ?_⟩
  have hm : (x.1, x.2.1) ∈ (pre ++ [x]).map (fun x => (x.1, x.2.1)) := List.mem_map.2 ⟨x, by simp, rfl⟩
  rw [show (pre ++ [x]).map (fun x => (x.1, x.2.1)) = _ from hi] at hm
  obtain ⟨y, hy, e⟩ := List.mem_map.1 hm
  exact List.mem_map.2 ⟨y, List.mem_of_mem_take (List.mem_filter.1 hy).1, e⟩
theorem rowCells_own {X Y : World} {row : Option Nat} {B : Nat} {cs : Array Value} {T : TypeId} {fz : Nat × Nat} (h : X.heap[B]? = some (.cells cs T fz)) (hg : X.grownBy Y row) (hr : ∀ r, row = some r → ∃ o : Obj, X.heap[r]? = some o ∧ o.isCells = false) : Y.heap[B]? = some (.cells cs T fz) := by
  refine (hg.block B (Array.getElem?_eq_some_iff.1 h).1 (fun e => ?_)).trans h
  obtain ⟨o, ho, hc⟩ := hr B e.symm
  rw [h] at ho; cases ho; cases hc
theorem cellsIn_walk {w w' : World} {row : Option Nat} (hg : w.grownBy w' row) (hr : ∀ r, row = some r → ∃ o : Obj, w.heap[r]? = some o ∧ o.isCells = false) : CellsIn w w' := fun b o u hu => by
  refine (World.cell?_of_block (w := w) (a := ⟨b, o, none⟩) (hg.block b (World.block_lt_of_cell? w _ hu) (fun e => ?_))).trans hu
  obtain ⟨ob, h1, h2⟩ := hr b e.symm
  simp only [World.cell?, h1] at hu
  cases ob <;> simp_all [Obj.isCells]
theorem keepsFrom_xt {w w' : World} (hx : Xt w w') (B : Nat) : KeepsFrom B w w' := ⟨hx.size, fun k _ _ hk _ => (hx.block k (Array.getElem?_eq_some_iff.1 hk).1).trans hk⟩
end
section
open Go.RowKit Go.Sort Go.MapKept Go.Maps Go.Shelf

/-! ### puts that came in -/
structure PI where
  a : Ad
  c : ContT
  p : Option Addr
  cap : Nat
def inC1 (x : PI) : List Value := [.int .i64 x.a.1, .int .i64 x.a.2, .int .i64 x.c.kind, .int .i64 x.c.v.kind, .float .f64 x.c.v.x, .string x.c.v.s, .bool x.c.v.b, .int .i64 x.c.v.f, .int .i64 x.c.t.kind, .int .i64 x.c.t.op, .float .f64 x.c.t.x, .string x.c.t.s, .bool x.c.t.b, .int .i64 x.c.t.f, .int .i64 x.c.t.ref.a.1, .int .i64 x.c.t.ref.a.2, .bool x.c.t.ref.cf, .bool x.c.t.ref.rf, .int .i64 x.c.t.to.a.1, .int .i64 x.c.t.to.a.2, .bool x.c.t.to.cf, .bool x.c.t.to.rf, .slice x.p x.c.t.args.length x.cap]
structure PutsIn (w : World) (v : Value) (l : List PI) : Prop where
  sl : SlOf w inC1 23 v l
  args : ∀ x ∈ l, x.c.ok ∧ ∃ n, ArgsIn w n (.slice x.p x.c.t.args.length x.cap) x.c.t.args
theorem SlOf.keptC {α : Type} {w w' : World} {enc : α → List Value} {sz : Nat} {v : Value} {l : List α} (h : SlOf w enc sz v l) (hx : CellsIn w w') : SlOf w' enc sz v l := by
  obtain ⟨a, cap, rfl, h1, h2, h3⟩ := h
  exact ⟨a, cap, rfl, h1, h2, fun hl => let ⟨b, off, e, hc⟩ := h3 hl; ⟨b, off, e, fun j x hx' i u hu => hx _ _ _ (hc j x hx' i u hu)⟩⟩
theorem PutsIn.kept {w w' : World} {v : Value} {l : List PI} (h : PutsIn w v l) (hx : CellsIn w w') : PutsIn w' v l :=
  ⟨h.sl.keptC hx, fun x hx' => let ⟨h1, n, hn⟩ := h.args x hx'; ⟨h1, n, hn.kept hx⟩⟩
theorem PutsIn.xt {w w' : World} {v : Value} {l : List PI} (h : PutsIn w v l) (hx : Xt w w') : PutsIn w' v l := h.kept hx.cellsIn
/-- A put's cells. -/
theorem PutsIn.at {w : World} {a : Option Addr} {m cap i : Nat} {l : List PI} {x : PI} (h : PutsIn w (.slice a m cap) l) (hx : l[i]? = some x) :
    ∃ b off, a = some ⟨b, off, none⟩ ∧ w.cell? ⟨b, off + i * 23, none⟩ = some (.int .i64 x.a.1) ∧ w.cell? ⟨b, off + i * 23 + 1, none⟩ = some (.int .i64 x.a.2) ∧ w.rangeAt b (off + i * 23 + 2) ((inC1 x).drop 2) ∧ x.c.ok ∧ ∃ n, ArgsIn w n (.slice x.p x.c.t.args.length x.cap) x.c.t.args := by
  obtain ⟨a', cap', e, h1, h2, h3⟩ := h.sl
  cases e
  obtain ⟨b, off, rfl, hc⟩ := h3 (by intro e; subst e; simp at hx)
  refine ⟨b, off, rfl, hc i x hx 0 _ rfl, hc i x hx 1 _ rfl, fun j v hv => ?_, h.args x (List.mem_of_getElem? hx)⟩
  rw [List.getElem?_drop] at hv
  have := hc i x hx (2 + j) v hv
  rw [← Nat.add_assoc] at this
  exact this
theorem PutsIn.shape {w : World} {v : Value} {l : List PI} (h : PutsIn w v l) : ∃ a cap, v = .slice a l.length cap ∧ l.length ≤ cap ∧ cap ≤ 9223372036854775807 := by
  obtain ⟨a, cap, e, h1, h2, _⟩ := h.sl
  exact ⟨a, cap, e, h1, h2⟩
abbrev pis (l : List PI) : List (Ad × ContT) := l.map fun x => (x.a, x.c)
end
end Go.Proofs.YtideclfpbpjebaaGreatDoor
