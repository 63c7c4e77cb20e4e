import Derived.Test.YtdoeejhdenifpaaGreatDoorZ1
import Derived.Test.YtdoeejhdenifpaaGreatDoorW45
import Derived.Test.YtdoeejhdenifpaaGreatDoorA8
import Derived.Test.YtdoeejhdenifpaaGreatDoorA11
import Derived.Test.YtdoeejhdenifpaaGreatDoorA7
import Derived.Deep.MidRow
import Derived.Sort.CutIn
import Derived.Test.YtdoeejhdenifpaaGreatDoorA10
import Derived.RangeFuncWrites
import Derived.StillTailTactics
import Derived.Test.YtdoeejhdenifpaaGreatDoorM9
import Derived.RangeFuncNested
/- Plain grids; what a copy has is valid as what it was copied from. -/
namespace Go.Proofs.YtdoeejhdenifpaaGreatDoor
open Go.RowKit Go.Sort

theorem placeX_one (x : Nat) : placeX (oneX x) = placeX x := by
  rcases one_cases x with h | ⟨h, h2⟩
  · rw [h]
  · rw [h]; unfold placeX ordX; rw [if_pos h2, if_pos nan_nan]
theorem keyV_copy (v : ValT) : keyV { v with x := oneX v.x } = keyV v := by unfold keyV; simp only [placeX_one]
theorem keyC_copy (c : ContT) : keyC (copyC c) = keyC c := by unfold keyC copyC; simp only [keyV_copy, copyT_idem]
theorem sameCB_refl (c : ContT) : sameCB c c = true := (sameCB_iff _ _).2 rfl
end Go.Proofs.YtdoeejhdenifpaaGreatDoor
/- quadrillelaw22.known: a formula goes along with a row (made by mkm11.py). -/
namespace Go.Proofs.YtdoeejhdenifpaaGreatDoor
open Go.RowKit Go.Sort

def kPlain : ContT := ⟨1, ⟨1, 4619567317775286272, ⟨#[]⟩, false, 0⟩, zeroC.t⟩
def kForm : ContT := ⟨2, zeroC.v, refT (1, 1)⟩
def kGrid : PG := putP (putP [] (1, 1) kPlain) (2, 1) kForm
def kOut : PG := goAll (cellF false ⟨1, 2, 4096⟩) (areaF false ⟨1, 2, 4096⟩) kGrid
theorem kPlain_ok : kPlain.ok := by simp [ContT.ok, kPlain, zeroC, NodeT.ok, okL, ByteArray.size]
theorem kForm_ok : kForm.ok := by simp [ContT.ok, kForm, refT, zeroC, NodeT.ok, okL, ByteArray.size]
theorem k_code1 : codeP [] (1, 1) kPlain = 0 := by kernel_rfl
theorem k_code2 : codeP (putP [] (1, 1) kPlain) (2, 1) kForm = 0 := by kernel_rfl
theorem k_stop : goStop (cellF false ⟨1, 2, 4096⟩) 2 kGrid = false := by kernel_rfl
theorem k_made : (madeL (manyL false) 1 2).2 = true := by kernel_rfl
theorem k_len : kOut.length = 2 := by kernel_rfl
theorem k_at : ((lkM (2, 3) kOut).getD zeroC).kind = 2 ∧ ((lkM (2, 3) kOut).getD zeroC).t.ref.a = (1, 3) := ⟨by kernel_rfl, by kernel_rfl⟩
theorem k_x : oneX ((lkM (1, 3) kOut).getD zeroC).v.x = 4619567317775286272 := by kernel_rfl
theorem er_getD (a : Ad) (M : GM) : ((lkM a M).getD (zeroC, none)).1 = (lkM a (er M)).getD zeroC := by rw [er_lk]; cases lkM a M <;> rfl
theorem k_keep {w w' : World} {b : Nat} {u v x : Value} (h : w.cell? ⟨b, 0, none⟩ = some u ∧ w.cell? ⟨b, 12, none⟩ = some v ∧ w.cell? ⟨b, 13, none⟩ = some x) (hx : Xt w w') : w'.cell? ⟨b, 0, none⟩ = some u ∧ w'.cell? ⟨b, 12, none⟩ = some v ∧ w'.cell? ⟨b, 13, none⟩ = some x := ⟨hx.cellsIn _ _ _ h.1, hx.cellsIn _ _ _ h.2.1, hx.cellsIn _ _ _ h.2.2⟩
@[go_sem] theorem run_field_cv (y : ContT) (a : Option Addr) (n m : Nat) (w : World) : (Instr.field 51 (contV y a n m) 1).run Tryz.prog w = .ok (.agg #[.int .i64 y.v.kind, .float .f64 y.v.x, .string y.v.s, .bool y.v.b, .int .i64 y.v.f]) w := by
  have u := run_underlying Tryz.underlying51
  have u2 := run_underlying Tryz.underlying44
  simp [Instr.field, u, part, asAgg]
theorem float7 : FloatKind.f64.format.order 4619567317775286272 4619567317775286272 = some Ordering.eq := by decide +kernel
theorem kPlain_small : smallT kPlain.t := by simp [kPlain, zeroC, smallT, smallL]
theorem kForm_small : smallT kForm.t := by simp [kForm, refT, smallT, smallL]
theorem args_nil {w : World} : ArgsIn w 0 (.slice none 0 0) [] := ⟨rfl, none, 0, rfl, by omega⟩
theorem k_alloc2 {w w' : World} {a b : Obj} (h : w' = (w.alloc a).alloc b) : Xt w w' := by rw [h]; exact ((Xt.refl _).alloc _).alloc _
theorem k_alloc1 {w w' : World} {a : Obj} (h : w' = w.alloc a) : Xt w w' := by rw [h]; exact (Xt.refl _).alloc _
theorem kGrid_ok : GOk kGrid := (GOk.nil.put _ kPlain_ok).put _ kForm_ok
theorem k_rows (gb mb : Nat) (M : GM) (hM : er M = kGrid) (w : World) (hG : GridIs w gb mb M) (hT : Tabs w) :
    Calls Tryz.prog 33 #[.pointer (some ⟨gb, 0, none⟩), .int .i64 1, .int .i64 2] w fun e w' => ∃ go mo Mo, e = .returned (.tuple #[.pointer (some ⟨go, 0, none⟩), .int .i64 0]) ∧ GridIs w' go mo Mo ∧ er Mo = kOut ∧ Xt w w' :=
  (rows_any 1 2 gb mb M w hG hT (hM ▸ kGrid_ok)).mono fun e w' h => by
    obtain ⟨hx, (⟨h1, _⟩ | ⟨_, (⟨h2, _⟩ | ⟨_, go, mo, Mo, rfl, h3, h4, _⟩)⟩)⟩ := h
    · rw [k_made] at h1; cases h1
    · rw [hM] at h2; exact absurd (k_stop.symm.trans h2) (by decide)
    · rw [hM] at h4; exact ⟨go, mo, Mo, rfl, h3, h4, hx⟩
set_option maxRecDepth 100000 in
set_option maxHeartbeats 4000000 in
theorem known_any (w : World) (hT : Tabs w) : Calls Tryz.prog 9 #[] w fun e w' => e = .returned (.bool true) ∧ Xt w w' := by
  have HT := Lib.hid hT
  have hq2 := fun w f lb => run_eql_func_nil (P := Tryz.prog) w 75 _ _ _ (.func f) #[] lb Tryz.underlying75
  have hqn := fun w f lb => run_eql_func_nil (P := Tryz.prog) w 85 _ _ _ (.func f) #[] lb Tryz.underlying85
  have hqa := fun w f lb => run_eql_func_nil (P := Tryz.prog) w 39 _ _ _ (.func f) #[] lb Tryz.underlying39
  clear hT
  go_enter Tryz.func9, Tryz.ntmps9
  have hm1 : True := trivial
  have hm2 : True := trivial
  go_wp2_with (first
    | (go_at_call 35; refine (gnew_any _).mono ?_; rintro e w1 ⟨rfl, hG1, hg1⟩; have HX := Lib.hid hg1.xt; have HG := Lib.hid hG1; clear hg1 hG1)
    | (go_at_call 14; refine (at_any (_, _) _).mono ?_; rintro e w2 ⟨rfl, hg2⟩; have HX := Lib.hid (HX.out.trans hg2.xt); have HG := Lib.hid (HG.out.xt hg2.xt); clear hg2)
    | (go_at_call 36; refine (ref_any (_, _) _).mono ?_; rintro e w2 ⟨rfl, hg2⟩; have HX := Lib.hid (HX.out.trans hg2); have HG := Lib.hid (HG.out.xt hg2); clear hg2)
    | (go_at_call 25; have hm0 := hm1; clear hm1 hm0; refine (gput_any 0 _ _ [] (1, 1) kPlain none 0 _ HG.out kPlain_ok (HT.out.xt HX.out) kPlain_small args_nil).mono ?_; rintro e w3 ⟨zp, rfl, hG3, hg3⟩; rw [show putCode ([] : GM) (1, 1) kPlain = 0 from (er_code _ _ _).trans k_code1]; have HX := Lib.hid (HX.out.grownB hg3 (fun q hq => by cases hq; exact Nat.le_refl _)); have HG := Lib.hid hG3; clear hG3 hg3)
    | (go_at_call 25; have hm0 := hm2; clear hm2 hm0; refine (gput_any 0 _ _ (putTo [] (1, 1) kPlain zp) (2, 1) kForm none 0 _ HG.out kForm_ok (HT.out.xt HX.out) kForm_small args_nil).mono ?_; rintro e w4 ⟨zq, rfl, hG3, hg3⟩; rw [show putCode (putTo ([] : GM) (1, 1) kPlain zp) (2, 1) kForm = 0 from (er_code _ _ _).trans (by rw [er_put]; exact k_code2)]; have HX := Lib.hid (HX.out.grownB hg3 (fun q hq => by cases hq; exact Nat.le_refl _)); have HG := Lib.hid hG3; clear hG3 hg3)
    | (go_at_call 33; refine (k_rows _ _ _ (by rw [er_put, er_put]; rfl) _ HG.out (HT.out.xt HX.out)).mono ?_; rintro e w5 ⟨go, mo, Mo, rfl, hG5, hE5, hx5⟩; have HX := Lib.hid (HX.out.trans hx5); have HG := Lib.hid hG5; have HE := Lib.hid hE5; have hlen : (Mo.length : Int) = 2 := (by rw [← er_len, hE5, k_len]; rfl); clear hG5 hE5 hx5)
    | (go_at_call 19; refine (glen_any _ _ _ _ HG.out).mono ?_; rintro e w6 ⟨rfl, rfl⟩; rw [hlen])
    | (go_at_call 37; refine ((callsIn_wide (n := 20)).1 (all_in 20 (by omega) _ _)).mono ?_; rintro e w6 ⟨rfl, hw6⟩; have hx6 := k_alloc2 hw6; have HX := Lib.hid (HX.out.trans hx6); have HG := Lib.hid (HG.out.xt hx6); clear hx6 hw6)
    | (go_at_call 38; refine (nodes_any 0 (refT (1, 1)) none 0 _ kForm_small args_nil).mono ?_; rintro e w6 ⟨bn, an, nn, rfl, _, _, _, hx6⟩; have HX := Lib.hid (HX.out.trans hx6); have HG := Lib.hid (HG.out.xt hx6); clear hx6)
    | (go_at_call 39; refine (cells_any ⟨_, _, _, _⟩ _).mono ?_; rintro e w6 ⟨rfl, hw6⟩; have hx6 := k_alloc1 hw6; have HX := Lib.hid (HX.out.trans hx6); have HG := Lib.hid (HG.out.xt hx6); clear hx6 hw6)
    | (go_at_call 15; refine (gget_any _ _ _ (2, 3) _ HG.out).mono ?_; rintro e w7 ⟨n7, a7, rfl, hA7, hx7⟩; obtain ⟨z, hz1, hz2⟩ : ∃ z : CE, z.1 = copyC ((lkM (2, 3) Mo).getD (zeroC, none)).1 ∧ z.2 = a7 := ⟨(_, _), rfl, rfl⟩; have hzv : copyCV ((lkM (2, 3) Mo).getD (zeroC, none)).1 a7 = ceV z := (by rw [← ceV_copy]; obtain ⟨z1, z2⟩ := z; simp only at hz1 hz2; rw [hz1, hz2]); rw [hzv]; have HZ : Hid (z.1.kind = 2 ∧ z.1.t.ref.a = (1, 3)) := (by unfold Hid; rw [hz1, er_getD, HE.out]; exact ⟨k_at.1, (congrArg RefT.a (copyT_ref _)).trans k_at.2⟩); have HX := Lib.hid (HX.out.trans hx7); have HG := Lib.hid (HG.out.xt hx7); obtain ⟨wZ, wR, hwZ, hwR, hrZ, hrR, hxR, hsR, hxZ, hsZ⟩ := boxR w7 z; have HX := Lib.hid (HX.out.trans hxR); have HG := Lib.hid (HG.out.xt hxR); have HRZ := Lib.hid hrZ; have HRR := Lib.hid hrR; have HWR := Lib.hid hwR; clear hrZ hwR hrR hxR hxZ hA7 hx7 hzv hz1 hz2)
    | (refine wpList_store_row (P := Tryz.prog) rfl 51 _ _ rfl w7.heap.size #[.int .i64 z.1.kind, .int .i64 z.1.v.kind, .float .f64 z.1.v.x, .string z.1.v.s, .bool z.1.v.b, .int .i64 z.1.v.f, .int .i64 z.1.t.kind, .int .i64 z.1.t.op, .float .f64 z.1.t.x, .string z.1.t.s, .bool z.1.t.b, .int .i64 z.1.t.f, .int .i64 z.1.t.ref.a.1, .int .i64 z.1.t.ref.a.2, .bool z.1.t.ref.cf, .bool z.1.t.ref.rf, .int .i64 z.1.t.to.a.1, .int .i64 z.1.t.to.a.2, .bool z.1.t.to.cf, .bool z.1.t.to.rf, .slice z.2 z.1.t.args.length z.1.t.args.length] rfl rfl 51 _ HRZ.out (by kernel_rfl) rfl (by simp [Value.oneCell']) ?_; rw [HWR.out]))
  have HH0 : Hid (wR.drew.cell? ⟨w7.heap.size, 0, none⟩ = some (.int .i64 2) ∧ wR.drew.cell? ⟨w7.heap.size, 12, none⟩ = some (.int .i64 1) ∧ wR.drew.cell? ⟨w7.heap.size, 13, none⟩ = some (.int .i64 3)) := by
    have h : wR.drew.heap[w7.heap.size]? = _ := HRR.out
    have h1 := HZ.out.1
    have h2 := congrArg Prod.fst HZ.out.2
    have h3 := congrArg Prod.snd HZ.out.2
    simp only at h2 h3
    refine ⟨?_, ?_, ?_⟩ <;> simp [World.cell?, h, h1, h2, h3]
  have HX := Lib.hid (HX.out.trans (Xt.refl wR).drew)
  have HG := Lib.hid (HG.out.xt (Xt.refl wR).drew)
  refine wp_region_held_drew (S := fun V => V.cell? ⟨w7.heap.size, 0, none⟩ = some (.int .i64 2) ∧ V.cell? ⟨w7.heap.size, 12, none⟩ = some (.int .i64 1) ∧ V.cell? ⟨w7.heap.size, 13, none⟩ = some (.int .i64 3)) (by kernel_rfl) HH0.out (fun hHeld => ?_)
  refine tkH 0 ?_ ?_ ?_
  rotate_left
  · intro V hSw; (try dsimp only at hSw); obtain ⟨u0, u1, u2⟩ := hSw; go_simp; first | done | with_reducible rfl
  try simp only [Act.put, nm]
  refine tkH 1 ?_ ?_ ?_
  rotate_left
  · intro V hSw; (try dsimp only at hSw); obtain ⟨u0, u1, u2⟩ := hSw; go_simp; first | done | with_reducible rfl
  try simp only [Act.put, nm]
  refine tkH 2 ?_ ?_ ?_
  rotate_left
  · intro V hSw; (try dsimp only at hSw); obtain ⟨u0, u1, u2⟩ := hSw; go_simp; first | done | with_reducible rfl
  try simp only [Act.put, nm]
  refine tkH 3 ?_ ?_ ?_
  rotate_left
  · intro V hSw; (try dsimp only at hSw); obtain ⟨u0, u1, u2⟩ := hSw; go_simp; first | done | with_reducible rfl
  try simp only [Act.put, nm]
  refine tkH 4 ?_ ?_ ?_
  rotate_left
  · intro V hSw; (try dsimp only at hSw); obtain ⟨u0, u1, u2⟩ := hSw; go_simp; first | done | with_reducible rfl
  try simp only [Act.put, nm]
  refine tkH 5 ?_ ?_ ?_
  rotate_left
  · intro V hSw; (try dsimp only at hSw); obtain ⟨u0, u1, u2⟩ := hSw; go_simp; first | done | with_reducible rfl
  try simp only [Act.put, nm]
  refine tkH 6 ?_ ?_ ?_
  rotate_left
  · intro V hSw; (try dsimp only at hSw); obtain ⟨u0, u1, u2⟩ := hSw; go_simp; first | done | with_reducible rfl
  try simp only [Act.put, nm]
  refine tkH 7 ?_ ?_ ?_
  rotate_left
  · intro V hSw; (try dsimp only at hSw); obtain ⟨u0, u1, u2⟩ := hSw; go_simp; first | done | with_reducible rfl
  try simp only [Act.put, nm]
  refine rdH 8 (fun K hK => ?_)
  go_simp
  refine (at_any (_, _) _).mono ?_
  rintro e v1 ⟨rfl, hg⟩
  have HHv1 := Lib.hid (k_keep HH0.out hg.xt)
  have HX := Lib.hid (HX.out.trans hg.xt)
  have HG := Lib.hid (HG.out.xt hg.xt)
  refine hK.out _ _ HHv1.out (fun hHeldv1 => ?_)
  clear hg
  clear hK K
  refine tkH 9 (.bool true) ?_ ?_
  · intro V hSw; (try dsimp only at hSw); obtain ⟨u0, u1, u2⟩ := hSw; go_simp; first | done | with_reducible rfl | (simp [eqAd2])
  try simp only [Act.put, nm]
  refine tkH 10 ?_ ?_ ?_
  rotate_left
  · intro V hSw; (try dsimp only at hSw); obtain ⟨u0, u1, u2⟩ := hSw; go_simp; first | done | with_reducible rfl
  try simp only [Act.put, nm]
  refine tkH 11 ?_ ?_ ?_
  rotate_left
  · intro V hSw; (try dsimp only at hSw); obtain ⟨u0, u1, u2⟩ := hSw; go_simp; first | done | with_reducible rfl
  try simp only [Act.put, nm]
  refine tkH 12 ?_ ?_ ?_
  rotate_left
  · intro V hSw; (try dsimp only at hSw); obtain ⟨u0, u1, u2⟩ := hSw; go_simp; first | done | with_reducible rfl
  try simp only [Act.put, nm]
  refine rdH 13 (fun K hK => ?_)
  go_simp
  refine (at_any (_, _) _).mono ?_
  rintro e v2 ⟨rfl, hg⟩
  have HHv2 := Lib.hid (k_keep HHv1.out hg.xt)
  have HX := Lib.hid (HX.out.trans hg.xt)
  have HG := Lib.hid (HG.out.xt hg.xt)
  refine hK.out _ _ HHv2.out (fun hHeldv2 => ?_)
  clear hg
  clear hK K
  refine rdH 14 (fun K hK => ?_)
  go_simp
  refine (gget_any _ _ _ (1, 3) _ HG.out).mono ?_
  rintro e v3 ⟨n8, a8, rfl, hA8, hx8⟩
  obtain ⟨y, hy⟩ : ∃ y : ContT, copyC ((lkM (1, 3) Mo).getD (zeroC, none)).1 = y := ⟨_, rfl⟩
  have hyx : y.v.x = 4619567317775286272 := by rw [← hy, er_getD, HE.out]; exact k_x
  have HHv3 := Lib.hid (k_keep HHv2.out hx8)
  have HX := Lib.hid (HX.out.trans hx8)
  simp only [copyCV, hy]
  refine hK.out _ _ HHv3.out (fun hHeldv3 => ?_)
  clear hx8 hA8
  clear hK K
  try simp only [Act.put, nm]
  refine tkH 15 ?_ ?_ ?_
  rotate_left
  · intro V hSw; (try dsimp only at hSw); obtain ⟨u0, u1, u2⟩ := hSw; go_simp; first | done | with_reducible rfl
  try simp only [Act.put, nm]
  refine tkH 16 ?_ ?_ ?_
  rotate_left
  · intro V hSw; (try dsimp only at hSw); obtain ⟨u0, u1, u2⟩ := hSw; go_simp; first | done | with_reducible rfl
  try simp only [Act.put, nm]
  refine tkH 17 (.bool true) ?_ ?_
  · intro V hSw; (try dsimp only at hSw); obtain ⟨u0, u1, u2⟩ := hSw; go_simp; first | done | with_reducible rfl | exact float7
  try simp only [Act.put, nm]
  refine tkH 18 ?_ ?_ ?_
  rotate_left
  · intro V hSw; (try dsimp only at hSw); obtain ⟨u0, u1, u2⟩ := hSw; go_simp; first | done | with_reducible rfl
  try simp only [Act.put, nm]
  refine rdH 19 (fun K hK => ?_)
  go_simp
  refine hK.out _ _ HHv3.out (fun hHeld9 => ?_)
  clear hK K
  refine wpAnyH_done (by kernel_rfl) ?_ _
  go_wp2_with fail
  go_ret
  exact ⟨rfl, HX.out⟩
end Go.Proofs.YtdoeejhdenifpaaGreatDoor
/- Small laws for the walks of quadrillelaw22. -/
namespace Go.Proofs.YtdoeejhdenifpaaGreatDoor
open Go.RowKit Go.Sort Go.Maps Go.Shelf Go.MapKept
attribute [local go_sem] Oper.semAt_some

theorem results_one {fn : Func} {p : Tmp} {t1 : TypeId} (h : fn.results = #[.cell p t1]) (tmps : Array Value) (w : World) (b1 : Nat) (u : Value) (hp : tmps.getD p undef = .pointer (some ⟨b1, 0, none⟩))
    (l1 : (loadVar t1 ⟨b1, 0, none⟩).run Tryz.prog w = .ok u w) : (results fn tmps).run Tryz.prog w = .ok u w := by
  have hp' : tmps[p]?.getD undef = .pointer (some ⟨b1, 0, none⟩) := by simpa using hp
  simp [results, h, hp', asAddr, l1]
theorem ArgsIn.upQ {w : World} {n m : Nat} {av : Value} {l : List NodeT} (hm : n ≤ m) (h : ArgsIn w n av l) : ArgsIn w m av l := by
  obtain ⟨k, rfl⟩ := Nat.exists_eq_add_of_le hm
  clear hm
  induction k with
  | zero => exact h
  | succ k ih => exact ih.up
theorem load_bool1 (w : World) (b : Nat) (u : Value) (h : w.cell? ⟨b, 0, none⟩ = some u) : (loadVar 4 ⟨b, 0, none⟩).run Tryz.prog w = .ok u w := by go_simp
theorem kind_12 {c : ContT} (h : gvalidB c = true) (h0 : (c.kind == 0) = false) : c.kind = 1 ∨ c.kind = 2 := by
  unfold gvalidB at h
  rw [h0] at h
  simp only [Bool.false_eq_true, if_false] at h
  by_cases h1 : (c.kind == 1) = true
  · exact Or.inl (by simpa using h1)
  · rw [if_neg h1] at h
    by_cases h2 : (c.kind == 2) = true
    · exact Or.inr (by simpa using h2)
    · rw [if_neg h2] at h; cases h
theorem row_mid {V : World} {b : Nat} {z : CE} (h : V.heap[b]? = some (.cells #[.int .i64 z.1.kind, .int .i64 z.1.v.kind, .float .f64 z.1.v.x, .string z.1.v.s, .bool z.1.v.b, .int .i64 z.1.v.f, .int .i64 z.1.t.kind, .int .i64 z.1.t.op, .float .f64 z.1.t.x, .string z.1.t.s, .bool z.1.t.b, .int .i64 z.1.t.f, .int .i64 z.1.t.ref.a.1, .int .i64 z.1.t.ref.a.2, .bool z.1.t.ref.cf, .bool z.1.t.ref.rf, .int .i64 z.1.t.to.a.1, .int .i64 z.1.t.to.a.2, .bool z.1.t.to.cf, .bool z.1.t.to.rf, .slice z.2 z.1.t.args.length z.1.t.args.length] 51 (0, 0))) : V.rangeAt b 6 (nodeC z.1.t (.slice z.2 z.1.t.args.length z.1.t.args.length)) := fun j v hj => by
  have e : (#[.int .i64 z.1.kind, .int .i64 z.1.v.kind, .float .f64 z.1.v.x, .string z.1.v.s, .bool z.1.v.b, .int .i64 z.1.v.f, .int .i64 z.1.t.kind, .int .i64 z.1.t.op, .float .f64 z.1.t.x, .string z.1.t.s, .bool z.1.t.b, .int .i64 z.1.t.f, .int .i64 z.1.t.ref.a.1, .int .i64 z.1.t.ref.a.2, .bool z.1.t.ref.cf, .bool z.1.t.ref.rf, .int .i64 z.1.t.to.a.1, .int .i64 z.1.t.to.a.2, .bool z.1.t.to.cf, .bool z.1.t.to.rf, .slice z.2 z.1.t.args.length z.1.t.args.length] : Array Value).toList.drop 6 = nodeC z.1.t (.slice z.2 z.1.t.args.length z.1.t.args.length) := rfl
  rw [← e, List.getElem?_drop] at hj
  simp only [World.cell?, h]
  rw [← Array.getElem?_toList]
  exact hj
theorem cont_1 {cG : Ad → Ad × Bool} {aG : ArT → ArT × Bool} {c : ContT} (hk : c.kind = 1) : contG cG aG c = c := by unfold contG; rw [if_neg (by omega)]
end Go.Proofs.YtdoeejhdenifpaaGreatDoor
/- formula.Nodes' iterator: each goes over a tree's nodes, one behind the other. -/
namespace Go.Proofs.YtdoeejhdenifpaaGreatDoor
open Go.RowKit Go.Sort Go.Maps Go.Shelf
attribute [local go_sem] Oper.semAt_some

def leafN : NodeT → NodeT
  | .mk k o x s b f r q _ => .mk k o x s b f r q []
mutual
def flatT : NodeT → List NodeT
  | .mk k o x s b f r q l => .mk k o x s b f r q [] :: flatL l
def flatL : List NodeT → List NodeT
  | [] => []
  | t :: l => flatT t ++ flatL l
end
theorem flatT_eq (t : NodeT) : flatT t = leafN t :: flatL t.args := by cases t; rw [flatT]; rfl
theorem flatL_append : ∀ (l k : List NodeT), flatL (l ++ k) = flatL l ++ flatL k
  | [], k => by rw [flatL]; rfl
  | t :: l, k => by rw [List.cons_append, flatL, flatL, flatL_append l k, List.append_assoc]
theorem flatL_take {l : List NodeT} {i : Nat} {u : NodeT} (hu : l[i]? = some u) : flatL (l.take (i + 1)) = flatL (l.take i) ++ flatT u := by
  rw [List.take_add_one, hu, flatL_append]
  show _ ++ flatL [u] = _
  rw [flatL, flatL, List.append_nil]
theorem flatL_split {l : List NodeT} {i : Nat} {u : NodeT} (hu : l[i]? = some u) : ∃ r, flatL l = flatL (l.take i) ++ flatT u ++ r := by
  refine ⟨flatL (l.drop (i + 1)), ?_⟩
  rw [← flatL_take hu, ← flatL_append, List.take_append_drop]
/-- What a round keeps: rows of nodes. -/
structure KN (W W' : World) : Prop where
  size : W.heap.size ≤ W'.heap.size
  same : ∀ (k : Nat) (cs : Array Value) (fz : Nat × Nat), W.heap[k]? = some (.cells cs 49 fz) → W'.heap[k]? = some (.cells cs 49 fz)
theorem KN.refl (W : World) : KN W W := ⟨Nat.le_refl _, fun _ _ _ h => h⟩
theorem KN.trans {A B C : World} (h : KN A B) (k : KN B C) : KN A C := ⟨Nat.le_trans h.size k.size, fun b cs fz e => k.same b cs fz (h.same b cs fz e)⟩
theorem KN.of_xt {W W' : World} (h : Xt W W') : KN W W' := ⟨h.size, fun k _ _ e => (h.block k (Array.getElem?_eq_some_iff.1 e).1).trans e⟩
theorem OwnIn.kn {S : Nat → Prop} {w w' : World} (hk : KN w w') : ∀ {n : Nat} {av : Value} {l : List NodeT}, OwnIn S w n av l → OwnIn S w' n av l
  | 0, _, _, h => h
  | n + 1, _, _, h => by
    obtain ⟨a, cap, rfl, h1, h2, h3⟩ := h
    refine ⟨a, cap, rfl, h1, h2, fun hpos => ?_⟩
    obtain ⟨b, cur, K, rfl, hb, hr, hK, hcK, hc⟩ := h3 hpos
    have hr' := hk.same b cur (0, 0) hr
    refine ⟨b, cur, K, rfl, hb, hr', hK, hcK, fun k t ht => ?_⟩
    obtain ⟨av', q1, q2⟩ := hc k t ht
    exact ⟨av', fun i u hu => (World.cell?_of_block (w := w) (a := ⟨b, k * 15 + i, none⟩) (by rw [hr', hr])).trans (q1 i u hu), q2.kn hk⟩
theorem yield_any {m m' l : Nat} {P : Program} {args : Array Value} {W : World} {R : Ending → World → Prop} (h : YieldAt Fence.wide m P l args W R) : YieldAt Fence.wide m' P l args W R :=
  let ⟨fn, tmps, assign, body, hy, hR⟩ := h
  ⟨fn, tmps, assign, body, hy, ⟨hR.1, fun c cs _ => hR.2 c cs (room_wide _)⟩⟩
theorem OwnIn.up1 {S : Nat → Prop} {w : World} : ∀ {n : Nat} {av : Value} {l : List NodeT}, OwnIn S w n av l → ∃ a cap, av = .slice a l.length cap ∧ l.length ≤ cap ∧ cap ≤ 9223372036854775807
  | 0, _, _, h => by obtain ⟨rfl, a, rfl⟩ := h; exact ⟨a, 0, rfl, by simp, by omega⟩
  | n + 1, _, _, h => by obtain ⟨a, cap, rfl, h1, h2, _⟩ := h; exact ⟨a, cap, rfl, h1, h2⟩
theorem leaf_nodeV (t : NodeT) : nodeV (leafN t) none 0 0 = .agg #[.int .i64 t.kind, .int .i64 t.op, .float .f64 t.x, .string t.s, .bool t.b, .int .i64 t.f, .int .i64 t.ref.a.1, .int .i64 t.ref.a.2, .bool t.ref.cf, .bool t.ref.rf, .int .i64 t.to.a.1, .int .i64 t.to.a.2, .bool t.to.cf, .bool t.to.rf, .slice none 0 0] := by cases t; rfl
theorem flat_pos (t : NodeT) : 0 < (flatT t).length := by rw [flatT_eq]; simp
theorem own_at {S : Nat → Prop} {w : World} {d : Nat} {a : Option Addr} {n cap i : Nat} {l : List NodeT} {u : NodeT} (h : OwnIn S w d (.slice a n cap) l) (hu : l[i]? = some u) :
    ∃ d' b ua uc, d = d' + 1 ∧ a = some ⟨b, 0, none⟩ ∧ w.rangeAt b (i * 15) [.int .i64 u.kind, .int .i64 u.op, .float .f64 u.x, .string u.s, .bool u.b, .int .i64 u.f, .int .i64 u.ref.a.1, .int .i64 u.ref.a.2, .bool u.ref.cf, .bool u.ref.rf, .int .i64 u.to.a.1, .int .i64 u.to.a.2, .bool u.to.cf, .bool u.to.rf, .slice ua u.args.length uc] ∧ OwnIn S w d' (.slice ua u.args.length uc) u.args ∧ n = l.length := by
  cases d with
  | zero => obtain ⟨rfl, _⟩ := h; simp at hu
  | succ d =>
    obtain ⟨a', cap', e, h1, h2, h3⟩ := h
    cases e
    have hne := (List.getElem?_eq_some_iff.1 hu).1
    obtain ⟨b, cur, K, rfl, hb, hr, hK, hcK, hc⟩ := h3 (by omega)
    obtain ⟨av', q1, q2⟩ := hc i u hu
    obtain ⟨ua, uc, rfl, _, _⟩ := q2.up1
    exact ⟨d, b, ua, uc, rfl, rfl, fun j v hv => q1 j v hv, q2, rfl⟩
set_option maxRecDepth 100000 in
set_option maxHeartbeats 4000000 in
theorem each_in (l N : Nat) (J Jx : List NodeT → World → Prop) (hJ : ∀ pre W W', J pre W → Xt W W' → J pre W')
    (hY : ∀ (pre : List NodeT) (x : NodeT) (W1 : World), J pre W1 → pre.length < N → YieldAt Fence.wide 0 Tryz.prog l #[nodeV x none 0 0] W1 fun e W' => (e = .returned (.bool true) ∧ J (pre ++ [x]) W' ∧ KN W1 W') ∨ (e = .returned (.bool false) ∧ Jx (pre ++ [x]) W')) :
    ∀ (d : Nat) (S : Nat → Prop) (t : NodeT) (a : Option Addr) (cap : Nat) (W : World) (pre : List NodeT), OwnIn S W d (.slice a t.args.length cap) t.args → J pre W → pre.length + (flatT t).length ≤ N →
    Calls Tryz.prog 78 #[nodeV t a t.args.length cap, .func (.yield l) #[] #[]] W fun e W' => (e = .returned (.bool true) ∧ J (pre ++ flatT t) W' ∧ KN W W') ∨ (e = .returned (.bool false) ∧ ∃ p, p <+: pre ++ flatT t ∧ Jx p W') := by
  intro d
  induction d using Nat.strongRecOn with
  | ind d ih =>
    intro S t a cap W pre hO hJ0 hN
    have HO := Lib.hid hO
    have HJ0 := Lib.hid hJ0
    have HN := Lib.hid hN
    have HIH := Lib.hid ih
    have HJ := Lib.hid hJ
    obtain ⟨_, _, he, hcap, hcap2⟩ := hO.up1
    simp only [Value.slice.injEq] at he
    obtain ⟨rfl, -, rfl⟩ := he
    clear hO hJ0 hN ih hJ
    refine (callsIn_wide (n := 9)).1 ?_
    refine callsIn_of_wp Tryz.func78 rfl trivial ?_ rfl
    simp only [Tryz.ntmps78, List.size_toArray, List.length_cons, List.length_nil, Nat.reduceAdd, Nat.reduceSub, Array.replicate_succ, Array.replicate_zero, List.push_toArray, List.append_toArray, List.nil_append, List.cons_append]
    gi_upto_region 3 with fail
    obtain ⟨W1, hW1⟩ : ∃ W1, W.alloc (.cells #[.int .i64 t.kind, .int .i64 t.op, .float .f64 t.x, .string t.s, .bool t.b, .int .i64 t.f, .int .i64 t.ref.a.1, .int .i64 t.ref.a.2, .bool t.ref.cf, .bool t.ref.rf, .int .i64 t.to.a.1, .int .i64 t.to.a.2, .bool t.to.cf, .bool t.to.rf, .slice none 0 0] 49) = W1 := ⟨_, rfl⟩
    have hx1 : Xt W W1 := by rw [← hW1]; exact (Xt.refl W).alloc _
    have HR1 : Hid (W1.heap[W.heap.size]? = some (.cells #[.int .i64 t.kind, .int .i64 t.op, .float .f64 t.x, .string t.s, .bool t.b, .int .i64 t.f, .int .i64 t.ref.a.1, .int .i64 t.ref.a.2, .bool t.ref.cf, .bool t.ref.rf, .int .i64 t.to.a.1, .int .i64 t.to.a.2, .bool t.to.cf, .bool t.to.rf, .slice none 0 0] 49 (0, 0))) := by unfold Hid; rw [← hW1]; exact (MapKept.heap_alloc W _).1
    have HX1 := Lib.hid hx1
    have hlen := flat_pos t
    rw [hW1]
    obtain ⟨fn, tmps, assign, body, hy, hR⟩ := yield_any (m' := 9 - 1) (hY pre (leafN t) W1 (HJ.out _ _ _ HJ0.out hx1) (by have := HN.out; omega))
    rw [leaf_nodeV] at hy
    clear hx1 hW1
    gi_wp2_with (first | (refine wpListIn_load_row (P := Tryz.prog) rfl 49 _ rfl W.heap.size rfl 49 #[.int .i64 t.kind, .int .i64 t.op, .float .f64 t.x, .string t.s, .bool t.b, .int .i64 t.f, .int .i64 t.ref.a.1, .int .i64 t.ref.a.2, .bool t.ref.cf, .bool t.ref.rf, .int .i64 t.to.a.1, .int .i64 t.to.a.2, .bool t.to.cf, .bool t.to.rf, .slice none 0 0] (0, 0) _ HR1.out Tryz.underlying49 rfl (by kernel_rfl) ?_))
    refine hR.mono ?_
    rintro e w3 (⟨rfl, hJ3, hk3⟩ | ⟨rfl, hJ3⟩)
    · have HK3 : Hid (KN W w3) := (KN.of_xt HX1.out).trans hk3
      have HJ3 := Lib.hid hJ3
      clear hy hR hJ3 hk3
      have hf : Fence.wide.fn 78 := trivial
      gi_wp2
      gi_loopw [17] (fun s17 wr => ∃ i : Nat, i ≤ t.args.length ∧ s17 = .int .i64 i ∧ Hid (KN W wr) ∧ Hid (J (pre ++ leafN t :: flatL (t.args.take i)) wr)) (fun s17 _ => t.args.length - (intOf s17).toNat)
      case atStart => exact ⟨0, Nat.zero_le _, rfl, HK3, by unfold Hid; rw [List.take_zero, flatL]; exact HJ3.out⟩
      case round =>
        clear HK3 HJ3
        obtain ⟨i, hi, rfl, HK, HJi⟩ := hrel
        by_cases hlt : i < t.args.length
        · obtain ⟨u, hu⟩ : ∃ u, t.args[i]? = some u := ⟨t.args[i], by simp [hlt]⟩
          have hki : (i : Int) < (t.args.length : Int) := by omega
          obtain ⟨d', b, ua, uc, rfl, rfl, hr, hin, hdd⟩ := own_at (HO.out.kn HK.out) hu
          have HRowU := Lib.hid hr
          have HIN := Lib.hid hin
          obtain ⟨w4, hw4⟩ : ∃ w4, wr.alloc (.cells #[.int .i64 u.kind, .int .i64 u.op, .float .f64 u.x, .string u.s, .bool u.b, .int .i64 u.f, .int .i64 u.ref.a.1, .int .i64 u.ref.a.2, .bool u.ref.cf, .bool u.ref.rf, .int .i64 u.to.a.1, .int .i64 u.to.a.2, .bool u.to.cf, .bool u.to.rf, .slice ua u.args.length uc] 49) = w4 := ⟨_, rfl⟩
          have hx4 : Xt wr w4 := by rw [← hw4]; exact (Xt.refl wr).alloc _
          have HR4 : Hid (w4.heap[wr.heap.size]? = some (.cells #[.int .i64 u.kind, .int .i64 u.op, .float .f64 u.x, .string u.s, .bool u.b, .int .i64 u.f, .int .i64 u.ref.a.1, .int .i64 u.ref.a.2, .bool u.ref.cf, .bool u.ref.rf, .int .i64 u.to.a.1, .int .i64 u.to.a.2, .bool u.to.cf, .bool u.to.rf, .slice ua u.args.length uc] 49 (0, 0))) := by unfold Hid; rw [← hw4]; exact (MapKept.heap_alloc wr _).1
          have HX4 := Lib.hid hx4
          obtain ⟨rest, hrest⟩ := flatL_split hu
          have hfl : (pre ++ leafN t :: flatL (t.args.take i)).length + (flatT u).length ≤ N := by
            have h1 := HN.out
            rw [flatT_eq, hrest] at h1
            simp only [List.length_cons, List.length_append] at h1 ⊢
            omega
          have HC := Lib.hid (HIH.out d' (by omega) S u ua uc w4 (pre ++ leafN t :: flatL (t.args.take i)) (HIN.out.kn (KN.of_xt hx4)) (HJ.out _ _ _ HJi.out hx4) hfl)
          have HFL := Lib.hid (flatL_take hu)
          have HSP : Hid (∃ rest, flatT t = leafN t :: (flatL (t.args.take i) ++ flatT u ++ rest)) := ⟨rest, by rw [flatT_eq, hrest]⟩
          clear hr hin hx4 hrest hfl hu
          gi_wp2_with (first
            | (refine wpListIn_load_mid (P := Tryz.prog) rfl 49 _ rfl b (i * 15) (by go_num) [.int .i64 u.kind, .int .i64 u.op, .float .f64 u.x, .string u.s, .bool u.b, .int .i64 u.f, .int .i64 u.ref.a.1, .int .i64 u.ref.a.2, .bool u.ref.cf, .bool u.ref.rf, .int .i64 u.to.a.1, .int .i64 u.to.a.2, .bool u.to.cf, .bool u.to.rf, .slice ua u.args.length uc] _ HRowU.out Tryz.underlying49 rfl (by kernel_rfl) ?_)
            | (refine wpListIn_load_row (P := Tryz.prog) rfl 49 _ rfl wr.heap.size rfl 49 #[.int .i64 u.kind, .int .i64 u.op, .float .f64 u.x, .string u.s, .bool u.b, .int .i64 u.f, .int .i64 u.ref.a.1, .int .i64 u.ref.a.2, .bool u.ref.cf, .bool u.ref.rf, .int .i64 u.to.a.1, .int .i64 u.to.a.2, .bool u.to.cf, .bool u.to.rf, .slice ua u.args.length uc] (0, 0) _ HR4.out Tryz.underlying49 rfl (by kernel_rfl) ?_)
            | (gi_at_call 78; refine ((callsIn_wide (n := 9 - 1)).2 HC.out).mono ?_; rintro e w5 (⟨rfl, hJ5, hk5⟩ | ⟨rfl, p, hp, hJ5⟩)))
          · have HK5 : Hid (KN W w5) := (HK.out.trans (KN.of_xt HX4.out)).trans hk5
            have HJ5 : Hid (J (pre ++ leafN t :: flatL (t.args.take (i + 1))) w5) := by unfold Hid; rw [HFL.out]; simpa using hJ5
            go_roundw
            case rel => exact ⟨i + 1, by omega, by go_num, HK5, HJ5⟩
            case measure => simp [intOf]; omega
          · have HJ5 := Lib.hid hJ5
            have HP := Lib.hid hp
            clear hJ5 hp
            refine bodyPost_ret (results_tmp rfl _ _ _) rfl (Or.inr ⟨rfl, p, ?_, HJ5.out⟩)
            obtain ⟨rest, hrest⟩ := HSP.out
            obtain ⟨r2, hr2⟩ := HP.out
            exact ⟨r2 ++ rest, by rw [hrest, ← List.append_assoc, hr2]; simp⟩
        · obtain rfl : i = t.args.length := by omega
          gi_wp2
          refine bodyPost_ret (results_tmp rfl _ _ _) rfl (Or.inl ⟨rfl, ?_, HK.out⟩)
          have h := HJi.out
          rw [List.take_length] at h
          rw [flatT_eq]
          exact h
    · have HJ3 := Lib.hid hJ3
      clear hy hR hJ3
      gi_wp2
      refine bodyPost_ret (results_tmp rfl _ _ _) rfl (Or.inr ⟨rfl, pre ++ [leafN t], ⟨flatL t.args, ?_⟩, HJ3.out⟩)
      rw [flatT_eq]
      simp
end Go.Proofs.YtdoeejhdenifpaaGreatDoor
/- quadrillelaw22's nodes and faults (made by mkq5.py). -/
namespace Go.Proofs.YtdoeejhdenifpaaGreatDoor
open Go.RowKit Go.Sort Go.Maps Go.Shelf Go.MapKept
attribute [local go_sem] Oper.semAt_some

abbrev encN (x : NodeT) : Array Value := #[nodeV x none 0 0]
set_option maxRecDepth 100000 in
set_option maxHeartbeats 2000000 in
theorem nodes1_told (n b : Nat) (t : NodeT) (a : Option Addr) (cap dd : Nat) (S : Nat → Prop) (w0 : World) (hr : w0.heap[b]? = some (.cells #[.int .i64 t.kind, .int .i64 t.op, .float .f64 t.x, .string t.s, .bool t.b, .int .i64 t.f, .int .i64 t.ref.a.1, .int .i64 t.ref.a.2, .bool t.ref.cf, .bool t.ref.rf, .int .i64 t.to.a.1, .int .i64 t.to.a.2, .bool t.to.cf, .bool t.to.rf, .slice a t.args.length cap] 49 (0, 0))) (hO : OwnIn S w0 dd (.slice a t.args.length cap) t.args) :
    SeqTold n Tryz.prog 77 #[.pointer (some ⟨b, 0, none⟩)] encN KN (fun _ _ _ => True) (fun xs => xs = flatT t) (fun p => p <+: flatT t) (flatT t).length w0 := fun l J Jx W hB hJ _ hY h0 => by
  have hx : Xt w0 W := hB
  have HR := Lib.hid (rowX hx hr)
  have HC := Lib.hid (each_in l (flatT t).length J Jx (fun pre X Y h hx => hJ pre X Y none h hx.grownN (fun r e => by cases e)) (fun pre x W1 hj hl => yield_any (hY pre x W1 hj ⟨W1, hj, trivial⟩ hl)) dd S t a cap W [] (hO.kn (KN.of_xt hx)) h0 (by simp))
  clear hY h0 hJ hO hr hx hB
  refine callsIn_wide.2 ((callsIn_wide (n := 9)).1 ?_)
  have hf : Fence.wide.fn 78 := trivial
  refine callsIn_of_wp Tryz.func77 rfl trivial ?_ rfl
  simp only [Tryz.ntmps77, List.size_toArray, List.length_cons, List.length_nil, Nat.reduceAdd, Nat.reduceSub, Array.replicate_succ, Array.replicate_zero, List.push_toArray, List.append_toArray, List.nil_append, List.cons_append]
  gi_wp2_with (first
    | (refine wpListIn_load_row (P := Tryz.prog) rfl 49 _ rfl b rfl 49 #[.int .i64 t.kind, .int .i64 t.op, .float .f64 t.x, .string t.s, .bool t.b, .int .i64 t.f, .int .i64 t.ref.a.1, .int .i64 t.ref.a.2, .bool t.ref.cf, .bool t.ref.rf, .int .i64 t.to.a.1, .int .i64 t.to.a.2, .bool t.to.cf, .bool t.to.rf, .slice a t.args.length cap] (0, 0) _ HR.out Tryz.underlying49 rfl (by kernel_rfl) ?_)
    | (gi_at_call 78; refine ((callsIn_wide (n := 9 - 1)).2 HC.out).mono ?_; rintro e w5 (⟨rfl, hJ5, hk5⟩ | ⟨rfl, p, hp, hJ5⟩)))
  · go_end0
    exact ⟨⟨_, rfl⟩, Or.inl ⟨flatT t, rfl, by simpa using hJ5⟩⟩
  · go_end0
    exact ⟨⟨_, rfl⟩, Or.inr ⟨p, by simpa using hp, hJ5⟩⟩
/-- What goes over a formula's nodes: a closure over a copy, whose lists lie in whole rows. -/
def NodesO (t : NodeT) (w : World) (e : Ending) (w' : World) : Prop :=
  ∃ b a' dd, e = .returned (.func (.func 77) #[] #[.pointer (some ⟨b, 0, none⟩)]) ∧ w.heap.size ≤ b ∧ w'.heap[b]? = some (.cells #[.int .i64 (copyT t).kind, .int .i64 (copyT t).op, .float .f64 (copyT t).x, .string (copyT t).s, .bool (copyT t).b, .int .i64 (copyT t).f, .int .i64 (copyT t).ref.a.1, .int .i64 (copyT t).ref.a.2, .bool (copyT t).ref.cf, .bool (copyT t).ref.rf, .int .i64 (copyT t).to.a.1, .int .i64 (copyT t).to.a.2, .bool (copyT t).to.cf, .bool (copyT t).to.rf, .slice a' (copyT t).args.length (copyT t).args.length] 49 (0, 0)) ∧
    OwnIn (fun c => w.heap.size ≤ c) w' dd (.slice a' (copyT t).args.length (copyT t).args.length) (copyT t).args ∧ Xt w w'
set_option maxRecDepth 100000 in
set_option maxHeartbeats 2000000 in
theorem nodesO_any (n : Nat) (t : NodeT) (a : Option Addr) (cap : Nat) (w : World) (hsm : smallT t) (hin : ArgsIn w n (.slice a t.args.length cap) t.args) :
    Calls Tryz.prog 38 #[nodeV t a t.args.length cap] w (NodesO t w) := by
  obtain ⟨w0, hw0, hg0, hs0, hN⟩ := boxN w t a t.args.length cap 49
  obtain ⟨c0, c1, c2, c3, c4, c5, c6, c7, c8, c9, c10, c11, c12, c13, c14⟩ := hN
  simp only [Nat.zero_add] at c0 c1 c2 c3 c4 c5 c6 c7 c8 c9 c10 c11 c12 c13 c14
  have HC := Lib.hid (fcopyS_any n t a cap w0 hsm (hin.xt hg0.xt))
  have HG0 := Lib.hid hg0
  clear hg0 hsm hin
  go_enter Tryz.func38, Tryz.ntmps38
  go_wp2_with (first | (go_at_call 76; refine (HC.out).mono ?_; rintro e w1 ⟨a', rfl, hS, hx⟩; have HS := Lib.hid hS; have HX := Lib.hid hx; clear hS hx))
  go_ret
  have hx2 : Xt w w1 := HG0.out.xt.trans HX.out
  refine ⟨w1.heap.size, a', n, rfl, hx2.size, ?_, ?_, hx2.alloc _⟩
  · obtain ⟨k, o, x, s, bb, f, r, q, l⟩ := t
    rw [copyT_len]
    exact (MapKept.heap_alloc w1 _).1
  · rw [copyT_len, copyT_args]
    exact (HS.out.own.kn (KN.of_xt ((Xt.refl _).alloc _))).keep (fun b hb _ => by have := HG0.out.xt.size; have := hb.1; omega) (fun _ _ _ => rfl)
set_option maxRecDepth 100000 in
set_option maxHeartbeats 2000000 in
theorem nodes22_any (n : Nat) (t : NodeT) (a : Option Addr) (cap : Nat) (w : World) (hsm : smallT t) (hin : ArgsIn w n (.slice a t.args.length cap) t.args) :
    Calls Tryz.prog 53 #[nodeV t a t.args.length cap] w (NodesO t w) := by
  have hqn := fun w f lb => run_eql_func_nil (P := Tryz.prog) w 85 _ _ _ (.func f) #[] lb Tryz.underlying85
  obtain ⟨w0, hw0⟩ : ∃ w0, w.alloc (.cells #[.int .i64 t.kind, .int .i64 t.op, .float .f64 t.x, .string t.s, .bool t.b, .int .i64 t.f, .int .i64 t.ref.a.1, .int .i64 t.ref.a.2, .bool t.ref.cf, .bool t.ref.rf, .int .i64 t.to.a.1, .int .i64 t.to.a.2, .bool t.to.cf, .bool t.to.rf, .slice a t.args.length cap] 49) = w0 := ⟨_, rfl⟩
  have hx0 : Xt w w0 := by rw [← hw0]; exact (Xt.refl w).alloc _
  have HR0 : Hid (w0.heap[w.heap.size]? = some (.cells #[.int .i64 t.kind, .int .i64 t.op, .float .f64 t.x, .string t.s, .bool t.b, .int .i64 t.f, .int .i64 t.ref.a.1, .int .i64 t.ref.a.2, .bool t.ref.cf, .bool t.ref.rf, .int .i64 t.to.a.1, .int .i64 t.to.a.2, .bool t.to.cf, .bool t.to.rf, .slice a t.args.length cap] 49 (0, 0))) := by unfold Hid; rw [← hw0]; exact (MapKept.heap_alloc w _).1
  have HC := Lib.hid (nodesO_any n t a cap w0 hsm (hin.xt hx0))
  have HX0 := Lib.hid hx0
  clear hsm hin hx0
  go_enter Tryz.func53, Tryz.ntmps53
  go_wp2_with (first
    | (refine wpList_load_row (P := Tryz.prog) rfl 49 _ rfl w.heap.size rfl 49 #[.int .i64 t.kind, .int .i64 t.op, .float .f64 t.x, .string t.s, .bool t.b, .int .i64 t.f, .int .i64 t.ref.a.1, .int .i64 t.ref.a.2, .bool t.ref.cf, .bool t.ref.rf, .int .i64 t.to.a.1, .int .i64 t.to.a.2, .bool t.to.cf, .bool t.to.rf, .slice a t.args.length cap] (0, 0) _ HR0.out Tryz.underlying49 rfl (by kernel_rfl) ?_)
    | (go_at_call 38; refine (HC.out).mono ?_; rintro e w1 ⟨b, a', dd, rfl, hb, hr, hO, hx⟩))
  go_ret
  have hs := HX0.out.size
  exact ⟨b, a', dd, rfl, by omega, hr, hO.keep (fun c hc _ => by omega) (fun _ _ _ => rfl), HX0.out.trans hx⟩
end Go.Proofs.YtdoeejhdenifpaaGreatDoor
/- quadrillelaw22's faults: how many nodes of a formula are one (made by mkq6.py). -/
namespace Go.Proofs.YtdoeejhdenifpaaGreatDoor
open Go.RowKit Go.Sort Go.Maps Go.Shelf Go.MapKept
attribute [local go_sem] Oper.semAt_some

def cntK (l : List NodeT) : Nat := (l.filter fun x => decide (x.kind = 4)).length
theorem cntK_snoc (l : List NodeT) (x : NodeT) : cntK (l ++ [x]) = if x.kind = 4 then cntK l + 1 else cntK l := by
  unfold cntK
  rw [List.filter_append]
  split <;> simp_all
theorem cntK_le (l : List NodeT) : cntK l ≤ l.length := List.length_filter_le ..
def faultsT (t : NodeT) : Nat := cntK (flatT t)
mutual
theorem flat_copy : ∀ t : NodeT, flatT (copyT t) = (flatT t).map copyT
  | .mk k o x s b f r q l => by
    rw [copyT, flatT, flatT, List.map_cons, flatL_copy l]
    rfl
theorem flatL_copy : ∀ l : List NodeT, flatL (copyL l) = (flatL l).map copyT
  | [] => rfl
  | t :: l => by rw [copyL, flatL, flatL, List.map_append, flat_copy t, flatL_copy l]
end
theorem faultsT_copy (t : NodeT) : faultsT (copyT t) = faultsT t := by
  unfold faultsT cntK
  rw [flat_copy, List.filter_map, List.length_map]
  refine congrArg List.length (List.filter_congr fun x _ => ?_)
  show decide ((copyT x).kind = 4) = _
  rw [copyT_kind]
/-- What holds while something is counted in a cell. -/
structure LJ {α : Type} (W0 : World) (R : Nat) (f : List α → Int) (pre : List α) (W : World) : Prop where
  grown : W0.grownBy W (some R)
  cnt : W.heap[R]? = some (.cells #[.int .i64 (f pre)] 3 (0, 0))
theorem LJ.own {α : Type} {W0 : World} {R : Nat} {f : List α → Int} : OwnFrom W0.heap.size (fun pre W => LJ W0 R f pre W) := fun s X Y row hs hg hr => by
  obtain ⟨h1, h2⟩ := hs
  exact ⟨grownBy_far h1 hg (fun r e => (hr r e).1), rowCells_own h2 hg (fun r e => (hr r e).2)⟩
theorem KN.putObj {W : World} {l : Nat} {o : Obj} (o' : Obj) (ho : W.heap[l]? = some o) (hc : o.isCells = false) : KN W (W.putObj l o') :=
  ⟨by simp, fun k cs fz hk => (World.putObj_heap_other (fun e => by subst e; rw [ho] at hk; cases hk; cases hc)).trans hk⟩
theorem round_endJ {α : Type} {W0 W wz : World} {R l0 : Nat} {f : List α → Int} {pre' : List α} {cnt cnt' : Int} (hg : W0.grownBy W (some R)) (hr : W.heap[R]? = some (.cells #[.int .i64 cnt] 3 (0, 0))) (hz : wz.heap[R]? = some (.cells #[.int .i64 cnt] 3 (0, 0))) (hf : f pre' = cnt')
    (hW : Wr (fun b => b = R) W (wz.setCell ⟨R, 0, none⟩ (.int .i64 cnt'))) (hl : R < l0) :
    KeepsFrom l0 W (wz.setCell ⟨R, 0, none⟩ (.int .i64 cnt')) ∧ KN W (wz.setCell ⟨R, 0, none⟩ (.int .i64 cnt')) ∧ LJ W0 R f pre' (wz.setCell ⟨R, 0, none⟩ (.int .i64 cnt')) := by
  have hgW : W.grownBy (wz.setCell ⟨R, 0, none⟩ (.int .i64 cnt')) (some R) := ⟨hW.os, hW.tape, hW.output, hW.size, fun i hi hn => hW.block i hi (fun e => hn (by rw [e]))⟩
  refine ⟨⟨hW.size, fun k o hB hk _ => (hW.block k (Array.getElem?_eq_some_iff.1 hk).1 (fun e => by omega)).trans hk⟩, ⟨hW.size, fun k cs fz hk => (hW.block k (Array.getElem?_eq_some_iff.1 hk).1 (fun e => by rw [e, hr] at hk; cases hk)).trans hk⟩, ⟨grownBy_two hg hgW, ?_⟩⟩
  rw [hf]
  exact setCell_row hz 0 _
set_option maxRecDepth 100000 in
set_option maxHeartbeats 4000000 in
theorem faults_any (n : Nat) (t : NodeT) (a : Option Addr) (cap : Nat) (w : World) (hsm : smallT t) (hin : ArgsIn w n (.slice a t.args.length cap) t.args) (hbk : (flatT t).length ≤ 1048576) :
    Calls Tryz.prog 52 #[nodeV t a t.args.length cap] w fun e w' => e = .returned (.int .i64 (faultsT t)) ∧ Xt w w' := by
  obtain ⟨B, hB⟩ : ∃ B, w.heap.size = B := ⟨_, rfl⟩
  obtain ⟨w0, hw0⟩ : ∃ w0, w.alloc (.cells #[.int .i64 t.kind, .int .i64 t.op, .float .f64 t.x, .string t.s, .bool t.b, .int .i64 t.f, .int .i64 t.ref.a.1, .int .i64 t.ref.a.2, .bool t.ref.cf, .bool t.ref.rf, .int .i64 t.to.a.1, .int .i64 t.to.a.2, .bool t.to.cf, .bool t.to.rf, .slice a t.args.length cap] 49) = w0 := ⟨_, rfl⟩
  have hs0 : w0.heap.size = B + 1 := by rw [← hw0, ← hB]; simp
  obtain ⟨w1, hw1⟩ : ∃ w1, w0.alloc (.cells #[.int .i64 0] 3) = w1 := ⟨_, rfl⟩
  have hx0 : Xt w w0 := by rw [← hw0]; exact (Xt.refl w).alloc _
  have hx1 : Xt w0 w1 := by rw [← hw1]; exact (Xt.refl w0).alloc _
  have HR0 : Hid (w1.heap[B]? = some (.cells #[.int .i64 t.kind, .int .i64 t.op, .float .f64 t.x, .string t.s, .bool t.b, .int .i64 t.f, .int .i64 t.ref.a.1, .int .i64 t.ref.a.2, .bool t.ref.cf, .bool t.ref.rf, .int .i64 t.to.a.1, .int .i64 t.to.a.2, .bool t.to.cf, .bool t.to.rf, .slice a t.args.length cap] 49 (0, 0))) := rowX hx1 (by rw [← hw0, ← hB]; exact (MapKept.heap_alloc w _).1)
  have HR1 : Hid (w1.heap[B + 1]? = some (.cells #[.int .i64 0] 3 (0, 0))) := by unfold Hid; rw [← hw1, ← hs0]; exact (MapKept.heap_alloc w0 _).1
  have HC := Lib.hid (nodes22_any n t a cap w1 hsm (hin.xt (hx0.trans hx1)))
  have HX1 := Lib.hid (hx0.trans hx1)
  have HBK : Hid ((flatT (copyT t)).length ≤ 1048576) := by unfold Hid; rw [flat_copy, List.length_map]; exact hbk
  have HFC := Lib.hid (faultsT_copy t)
  obtain ⟨ans, hans⟩ : ∃ ans, faultsT t = ans := ⟨_, rfl⟩
  rw [hans] at HFC ⊢
  clear hsm hin hbk hx0 hx1 hans
  have HW1 := Lib.hid hw1
  clear hw1
  refine (callsIn_wide (n := 25)).1 ?_
  refine callsIn_of_wp_marks Tryz.func52 rfl trivial ?_ rfl
  simp only [Tryz.ntmps52, List.size_toArray, List.length_cons, List.length_nil, Nat.reduceAdd, Nat.reduceSub, Array.replicate_succ, Array.replicate_zero, List.push_toArray, List.append_toArray, List.nil_append, List.cons_append]
  refine wpIn_wide.2 ?_
  refine wp_mono (Q := noPanic (bodyPostM Fence.wide 25 Tryz.prog Tryz.f52 (fun e w' => e = .returned (.int .i64 ans) ∧ Xt w w'))) ?_ noPanic_le
  go_wp2_with (first
    | (refine wpList_load_row (P := Tryz.prog) rfl 49 _ rfl B rfl 49 #[.int .i64 t.kind, .int .i64 t.op, .float .f64 t.x, .string t.s, .bool t.b, .int .i64 t.f, .int .i64 t.ref.a.1, .int .i64 t.ref.a.2, .bool t.ref.cf, .bool t.ref.rf, .int .i64 t.to.a.1, .int .i64 t.to.a.2, .bool t.to.cf, .bool t.to.rf, .slice a t.args.length cap] (0, 0) _ (by rw [HW1.out]; exact HR0.out) Tryz.underlying49 rfl (by kernel_rfl) ?_; rw [HW1.out])
    | (go_at_call 53; refine (HC.out).mono ?_; rintro e w2 ⟨b, a', dd, rfl, hb, hr, hO, hx⟩; have HR := Lib.hid hr; have HO := Lib.hid hO; have HX := Lib.hid hx; clear hr hO hx))
  obtain ⟨tt, htt⟩ : ∃ tt, copyT t = tt := ⟨_, rfl⟩
  rw [htt] at HR HO HBK HFC
  have HRB : Hid (w2.heap[B + 1]? = some (.cells #[.int .i64 0] 3 (0, 0))) := rowX HX.out HR1.out
  have HXw : Hid (Xt w w2) := HX1.out.trans HX.out
  have hs2 : B + 1 < w2.heap.size := (Array.getElem?_eq_some_iff.1 HRB.out).1
  clear htt
  generalize hA0 : Act.mk _ _ = a0
  refine (wpIn_wide (n := 25)).1 ?_
  refine rangeFunc_told (n := 25) (by omega) (gf := 77) (lb := #[.pointer (some ⟨b, 0, none⟩)]) (by subst hA0; rfl) (enters_of Tryz.func77 (by kernel_rfl) rfl)
    (nodes1_told (25 - 1) b tt a' tt.args.length dd _ w2 HR.out HO.out) (fun h k => h.trans k) (fun W l o o' hl ho hc hw => KN.putObj o' ho hc) (Below.refl _ _) (fun _ => rfl)
    (fun pre W => LJ w2 (B + 1) (fun pre => (cntK pre : Int)) pre W) (fun c pre W => False) LJ.own (fun c s X Y row hs hg hr => hs.elim) ⟨⟨rfl, rfl, rfl, Nat.le_refl _, fun _ _ _ => rfl⟩, HRB.out⟩
    (fun x a' W => ∃ Bx, Bx ≠ B + 1 ∧ W.heap[Bx]? = some (.cells #[.int .i64 x.kind, .int .i64 x.op, .float .f64 x.x, .string x.s, .bool x.b, .int .i64 x.f, .int .i64 x.ref.a.1, .int .i64 x.ref.a.2, .bool x.ref.cf, .bool x.ref.rf, .int .i64 x.to.a.1, .int .i64 x.to.a.2, .bool x.to.cf, .bool x.to.rf, .slice none 0 0] 49 (0, 0)) ∧ a' = { tmps := (a0.tmps.setIfInBounds 7 (nodeV x none 0 0)).setIfInBounds 4 (.pointer (some ⟨Bx, 0, none⟩)), defers := [] })
    (fun x a' _ X Y row hs hg hr => let ⟨Bx, n1, h1, h2⟩ := hs; ⟨Bx, n1, rowCells_own h1 hg (fun r e => (hr r e).2), h2⟩)
    ?assign ?body ?done ?stop
  case stop =>
    rintro D c pre W hD hS hF hK
    exact hF.elim
  case done =>
    rintro D xs W hD hS hI hK
    subst hA0
    obtain ⟨hgr, hcn⟩ := hI
    rw [hS] at hcn
    rw [show ((cntK (flatT tt) : Nat) : Int) = (ans : Int) from congrArg Int.ofNat HFC.out] at hcn
    obtain ⟨c3, _⟩ := one_row hcn
    have HK := Lib.hid hK
    have HGR := Lib.hid hgr
    clear hcn hgr hK hS
    go_wp2_with fail
    refine ⟨by simp, .inl ⟨_, _, rfl, run_takeDeferred HK.out, ?_⟩⟩
    refine ⟨_, results_tmp rfl _ _ _, rfl, ?_⟩
    exact (HXw.out.grownB HGR.out (fun q hq => by cases hq; omega)).grownB (grownBy_putObj' _ D _) (fun q hq => by cases hq; have := HXw.out.size; omega)
  case assign =>
    rintro l0 pre x W K hI ⟨V, hIV, _⟩ hK
    subst hA0
    obtain ⟨wZ, hwZ⟩ : ∃ wZ, W.alloc (.cells #[.int .i64 0, .int .i64 0, .float .f64 0, .string ⟨#[]⟩, .bool false, .int .i64 0, .int .i64 0, .int .i64 0, .bool false, .bool false, .int .i64 0, .int .i64 0, .bool false, .bool false, .slice none 0 0] 49) = wZ := ⟨_, rfl⟩
    have hrZ : wZ.heap[W.heap.size]? = some (.cells #[.int .i64 0, .int .i64 0, .float .f64 0, .string ⟨#[]⟩, .bool false, .int .i64 0, .int .i64 0, .int .i64 0, .bool false, .bool false, .int .i64 0, .int .i64 0, .bool false, .bool false, .slice none 0 0] 49 (0, 0)) := by rw [← hwZ]; exact (MapKept.heap_alloc W _).1
    obtain ⟨wA, hwA⟩ : ∃ wA, wZ.setRow W.heap.size #[.int .i64 x.kind, .int .i64 x.op, .float .f64 x.x, .string x.s, .bool x.b, .int .i64 x.f, .int .i64 x.ref.a.1, .int .i64 x.ref.a.2, .bool x.ref.cf, .bool x.ref.rf, .int .i64 x.to.a.1, .int .i64 x.to.a.2, .bool x.to.cf, .bool x.to.rf, .slice none 0 0] = wA := ⟨_, rfl⟩
    have hx : Xt W wA := by rw [← hwA, ← hwZ]; exact ((Xt.refl W).alloc _).grownB (setRow_grown _ _ _) (fun m hm => by cases hm; exact Nat.le_refl _)
    have hrA : wA.heap[W.heap.size]? = some (.cells #[.int .i64 x.kind, .int .i64 x.op, .float .f64 x.x, .string x.s, .bool x.b, .int .i64 x.f, .int .i64 x.ref.a.1, .int .i64 x.ref.a.2, .bool x.ref.cf, .bool x.ref.rf, .int .i64 x.to.a.1, .int .i64 x.to.a.2, .bool x.to.cf, .bool x.to.rf, .slice none 0 0] 49 (0, 0)) := by rw [← hwA]; exact setRow_heap _ _ _ _ _ _ hrZ
    have HRZ := Lib.hid hrZ
    have HWA := Lib.hid hwA
    clear hwA hrZ
    have hWs : B + 1 < W.heap.size := (Array.getElem?_eq_some_iff.1 hI.cnt).1
    have HX2 := Lib.hid hx
    have HRA := Lib.hid hrA
    have HI := Lib.hid hI
    clear hx hrA hIV hI
    gi_wp2_with (first | (refine wpListIn_store_row (P := Tryz.prog) rfl 49 _ _ rfl W.heap.size #[.int .i64 x.kind, .int .i64 x.op, .float .f64 x.x, .string x.s, .bool x.b, .int .i64 x.f, .int .i64 x.ref.a.1, .int .i64 x.ref.a.2, .bool x.ref.cf, .bool x.ref.rf, .int .i64 x.to.a.1, .int .i64 x.to.a.2, .bool x.to.cf, .bool x.to.rf, .slice none 0 0] rfl rfl 49 _ HRZ.out (by kernel_rfl) rfl (by simp [Value.oneCell']) ?_; rw [HWA.out]))
    have hx := HX2.out
    refine hK _ _ (keepsFrom_xt hx _) (KN.of_xt hx) ⟨grownBy_far HI.out.grown hx.grownN (fun r e => by cases e), rowX hx HI.out.cnt⟩ ?_
    refine ⟨W.heap.size, by omega, HRA.out, ?_⟩
    simp only [List.setIfInBounds_toArray, List.set_cons_zero, List.set_cons_succ]
  case body =>
    rintro l0 pre x a' W hl0 ⟨r, hr⟩ hI ⟨Bx, nBx, hBx, rfl⟩ hlt
    subst hA0
    obtain ⟨hgr, hcn⟩ := hI
    obtain ⟨cnt, hcnt⟩ : ∃ cnt : Int, ((cntK pre : Nat) : Int) = cnt := ⟨_, rfl⟩
    have hcb : 0 ≤ cnt ∧ cnt ≤ 1048576 := by
      have h1 := cntK_le pre
      have h2 := HBK.out
      omega
    rw [hcnt] at hcn
    have HCN := Lib.hid hcnt
    have HGR := Lib.hid hgr
    have HRN := Lib.hid hcn
    obtain ⟨c3, f3⟩ := one_row hcn
    have kx : W.cell? ⟨Bx, 0, none⟩ = some (.int .i64 x.kind) := by simp [World.cell?, hBx]
    clear hr hgr hcn hBx hcnt hlt
    simp only [List.setIfInBounds_toArray, List.set_cons_zero, List.set_cons_succ]
    have hcw : IntKind.i64.wrap (cnt + 1) = cnt + 1 := by rw [IntKind.wrap_i64]; omega
    by_cases hk : x.kind = 4
    · have HK := Lib.hid hk
      rw [hk] at kx
      clear hk
      gi_wp2_with fail
      have hgW : Wr (fun b => b = B + 1) W (W.setCell ⟨B + 1, 0, none⟩ (.int .i64 (cnt + 1))) := Wr.cell _ rfl
      exact round_endJ (l0 := w2.heap.size) (f := fun pre => ((cntK pre : Nat) : Int)) (pre' := pre ++ [x]) HGR.out HRN.out HRN.out (by show ((cntK (pre ++ [x]) : Nat) : Int) = cnt + 1; rw [cntK_snoc, if_pos HK.out, ← HCN.out]; omega) hgW (by omega)
    · have HK := Lib.hid hk
      gi_wp2_with fail
      refine ⟨keepsFrom_xt (Xt.refl _) _, KN.refl _, ⟨HGR.out, ?_⟩⟩
      show W.heap[B + 1]? = some (.cells #[.int .i64 ((cntK (pre ++ [x]) : Nat) : Int)] 3 (0, 0))
      rw [cntK_snoc, if_neg HK.out, HCN.out]
      exact HRN.out
end Go.Proofs.YtdoeejhdenifpaaGreatDoor
/- quadrillelaw22's lost: how many faults all formulas of a grid have (made by mkq7.py). -/
namespace Go.Proofs.YtdoeejhdenifpaaGreatDoor
open Go.RowKit Go.Sort Go.Maps Go.Shelf Go.MapKept
attribute [local go_sem] Oper.semAt_some

def lostP : PG → Nat
  | [] => 0
  | x :: r => faultsT x.2.t + lostP r
theorem lostP_snoc (l : PG) (x : Ad × ContT) : lostP (l ++ [x]) = lostP l + faultsT x.2.t := by
  induction l with
  | nil => simp [lostP]
  | cons y r ih => rw [List.cons_append, lostP, lostP, ih]; omega
/-- Each formula's nodes can be counted. -/
def BulkP (l : PG) : Prop := ∀ x ∈ l, (flatT x.2.t).length ≤ 1048576
theorem lostP_le {l : PG} (h : BulkP l) : lostP l ≤ l.length * 1048576 := by
  induction l with
  | nil => simp [lostP]
  | cons y r ih =>
    have h1 := cntK_le (flatT y.2.t)
    have h2 := h y List.mem_cons_self
    have h3 := ih (fun z hz => h z (List.mem_cons_of_mem _ hz))
    rw [lostP, List.length_cons]
    unfold faultsT
    omega
theorem round_endT {W0 W wz : World} {R l0 n0 : Nat} {f : List TE → Int} {pre' : List TE} {cnt cnt' : Int} (hg : W0.grownBy W (some R)) (hr : W.heap[R]? = some (.cells #[.int .i64 cnt] 3 (0, 0))) (hz : wz.heap[R]? = some (.cells #[.int .i64 cnt] 3 (0, 0))) (hf : f pre' = cnt')
    (hW : Wr (fun b => b = R) W (wz.setCell ⟨R, 0, none⟩ (.int .i64 cnt'))) (hl : R < l0) (hn : n0 ≤ R) :
    KeepsFrom l0 W (wz.setCell ⟨R, 0, none⟩ (.int .i64 cnt')) ∧ (Below n0 W (wz.setCell ⟨R, 0, none⟩ (.int .i64 cnt')) ∧ KeepsT (fun _ => false) W (wz.setCell ⟨R, 0, none⟩ (.int .i64 cnt'))) ∧ LJ W0 R f pre' (wz.setCell ⟨R, 0, none⟩ (.int .i64 cnt')) := by
  have hgW : W.grownBy (wz.setCell ⟨R, 0, none⟩ (.int .i64 cnt')) (some R) := ⟨hW.os, hW.tape, hW.output, hW.size, fun i hi hn => hW.block i hi (fun e => hn (by rw [e]))⟩
  refine ⟨⟨hW.size, fun k o hB hk _ => (hW.block k (Array.getElem?_eq_some_iff.1 hk).1 (fun e => by omega)).trans hk⟩, ⟨⟨hW.os, hW.tape, hW.output, hW.size, fun k hk => ?_⟩, KeepsT.of_grown hgW (fun j o e ho => ?_)⟩, ⟨grownBy_two hg hgW, ?_⟩⟩
  · have hlt := (Array.getElem?_eq_some_iff.1 hr).1
    exact hW.block k (by omega) (fun e => by omega)
  · cases e
    rw [hr] at ho
    cases ho
    rfl
  · rw [hf]
    exact setCell_row hz 0 _
theorem row_mid6 {V : World} {b : Nat} {z : CE} (h : V.heap[b]? = some (.cells #[.int .i64 z.1.kind, .int .i64 z.1.v.kind, .float .f64 z.1.v.x, .string z.1.v.s, .bool z.1.v.b, .int .i64 z.1.v.f, .int .i64 z.1.t.kind, .int .i64 z.1.t.op, .float .f64 z.1.t.x, .string z.1.t.s, .bool z.1.t.b, .int .i64 z.1.t.f, .int .i64 z.1.t.ref.a.1, .int .i64 z.1.t.ref.a.2, .bool z.1.t.ref.cf, .bool z.1.t.ref.rf, .int .i64 z.1.t.to.a.1, .int .i64 z.1.t.to.a.2, .bool z.1.t.to.cf, .bool z.1.t.to.rf, .slice z.2 z.1.t.args.length z.1.t.args.length] 51 (0, 0))) : V.rangeAt b 6 [.int .i64 z.1.t.kind, .int .i64 z.1.t.op, .float .f64 z.1.t.x, .string z.1.t.s, .bool z.1.t.b, .int .i64 z.1.t.f, .int .i64 z.1.t.ref.a.1, .int .i64 z.1.t.ref.a.2, .bool z.1.t.ref.cf, .bool z.1.t.ref.rf, .int .i64 z.1.t.to.a.1, .int .i64 z.1.t.to.a.2, .bool z.1.t.to.cf, .bool z.1.t.to.rf, .slice z.2 z.1.t.args.length z.1.t.args.length] := fun j v hj => by
  have e : (#[.int .i64 z.1.kind, .int .i64 z.1.v.kind, .float .f64 z.1.v.x, .string z.1.v.s, .bool z.1.v.b, .int .i64 z.1.v.f, .int .i64 z.1.t.kind, .int .i64 z.1.t.op, .float .f64 z.1.t.x, .string z.1.t.s, .bool z.1.t.b, .int .i64 z.1.t.f, .int .i64 z.1.t.ref.a.1, .int .i64 z.1.t.ref.a.2, .bool z.1.t.ref.cf, .bool z.1.t.ref.rf, .int .i64 z.1.t.to.a.1, .int .i64 z.1.t.to.a.2, .bool z.1.t.to.cf, .bool z.1.t.to.rf, .slice z.2 z.1.t.args.length z.1.t.args.length] : Array Value).toList.drop 6 = [.int .i64 z.1.t.kind, .int .i64 z.1.t.op, .float .f64 z.1.t.x, .string z.1.t.s, .bool z.1.t.b, .int .i64 z.1.t.f, .int .i64 z.1.t.ref.a.1, .int .i64 z.1.t.ref.a.2, .bool z.1.t.ref.cf, .bool z.1.t.ref.rf, .int .i64 z.1.t.to.a.1, .int .i64 z.1.t.to.a.2, .bool z.1.t.to.cf, .bool z.1.t.to.rf, .slice z.2 z.1.t.args.length z.1.t.args.length] := rfl
  rw [← e, List.getElem?_drop] at hj
  simp only [World.cell?, h]
  rw [← Array.getElem?_toList]
  exact hj
set_option maxRecDepth 100000 in
set_option maxHeartbeats 4000000 in
theorem lost_any (gb mb : Nat) (M : GM) (w : World) (hG : GridIs w gb mb M) (hK : BulkP (er M)) :
    Calls Tryz.prog 18 #[.pointer (some ⟨gb, 0, none⟩)] w fun e w' => e = .returned (.int .i64 (lostP (er M))) ∧ Xt w w' := by
  obtain ⟨B, hB⟩ : ∃ B, w.heap.size = B := ⟨_, rfl⟩
  have HG := Lib.hid hG
  have HKB := Lib.hid hK
  have hgl := hG.lt
  clear hG hK
  refine (callsIn_wide (n := 25)).1 ?_
  refine callsIn_of_wp_marks Tryz.func18 rfl trivial ?_ rfl
  simp only [Tryz.ntmps18, List.size_toArray, List.length_cons, List.length_nil, Nat.reduceAdd, Nat.reduceSub, Array.replicate_succ, Array.replicate_zero, List.push_toArray, List.append_toArray, List.nil_append, List.cons_append]
  refine wpIn_wide.2 ?_
  refine wp_mono (Q := noPanic (bodyPostM Fence.wide 25 Tryz.prog Tryz.f18 (fun e w' => e = .returned (.int .i64 (lostP (er M))) ∧ Xt w w'))) ?_ noPanic_le
  go_wp2_with (first
    | (go_at_call 30; refine (all22_any gb _).mono ?_; rintro e w' ⟨rfl, rfl⟩))
  obtain ⟨w1, hw1⟩ : ∃ w1, w.alloc (.cells #[.int .i64 0] 3) = w1 := ⟨_, rfl⟩
  have hs1 : w1.heap.size = B + 1 := by rw [← hw1, ← hB]; simp
  have HR1 : Hid (w1.heap[B]? = some (.cells #[.int .i64 0] 3 (0, 0))) := by unfold Hid; rw [← hw1, ← hB]; exact (MapKept.heap_alloc w _).1
  have HX1 : Hid (Xt w w1) := by unfold Hid; rw [← hw1]; exact (Xt.refl w).alloc _
  obtain ⟨W0, hW0⟩ : ∃ W0, (w1.alloc (.cells #[.pointer (some ⟨gb, 0, none⟩)] 29)).alloc (.cells #[.func (.func 75) #[] #[]] 99) = W0 := ⟨_, rfl⟩
  have hsW : W0.heap.size = B + 3 := by rw [← hW0]; simp [hs1]
  have HX1W : Hid (Xt w1 W0) := by unfold Hid; rw [← hW0]; exact ((Xt.refl _).alloc _).alloc _
  have HcgW : W0.cell? ⟨B + 1, 0, none⟩ = some (.pointer (some ⟨gb, 0, none⟩)) := by
    have := rowX (w := w1.alloc (.cells #[.pointer (some ⟨gb, 0, none⟩)] 29)) (w' := W0) (by rw [← hW0]; exact (Xt.refl _).alloc _) (MapKept.heap_alloc w1 _).1
    rw [hs1] at this
    exact (one_row this).1
  have rBw : W0.heap[B + 2]? = some (.cells #[.func (.func 75) #[] #[]] 99 (0, 0)) := by
    rw [← hW0]
    have := (MapKept.heap_alloc (w1.alloc (.cells #[.pointer (some ⟨gb, 0, none⟩)] 29)) (.cells #[.func (.func 75) #[] #[]] 99)).1
    simpa [hs1] using this
  have HXW : Hid (Xt w W0) := HX1.out.trans HX1W.out
  have HRW := Lib.hid (rowX HX1W.out HR1.out)
  have hsz : (w.alloc (.cells #[.int .i64 0] 3)).heap.size = B + 1 := by rw [hw1, hs1]
  try simp only [hsz]
  simp only [hw1, hW0]
  clear hW0 hw1 hsz
  generalize hA0 : Act.mk _ _ = a0
  refine (wpIn_wide (n := 25)).1 ?_
  refine rangeFunc_told (n := 25) (by omega) (gf := 116) (lb := #[.pointer (some ⟨B + 1, 0, none⟩), .pointer (some ⟨B + 2, 0, none⟩)]) (by subst hA0; rfl) (enters_of Tryz.func116 (by kernel_rfl) rfl)
    (some1_told (fun _ => false) 75 #[] (enters_of Tryz.func75 (by kernel_rfl) rfl) (fun _ => true) w.heap.size w rfl (fun _ => True) (fun _ _ _ _ _ => trivial) (fun a W _ => all1_any a W) (25 - 1) (by omega) (B + 1) (B + 2) gb mb M HG.out W0 HXW.out trivial (by omega) HcgW rBw)
    (fun h k => ⟨h.1.trans k.1, h.2.trans k.2⟩) (fun W l o o' hl ho hc hw => ⟨belowK_b (w := W0) (by omega) W l o o' hl ho hc hw, KeepsT.of_grown (grownBy_putObj' W l o') (fun j o2 e h2 => by cases e; rw [ho] at h2; cases h2; cases o <;> simp_all [keptO, Obj.isCells, Obj.isWalk])⟩) (Below.refl _ _) (fun _ => rfl)
    (fun pre W => LJ W0 B (fun pre => (lostP (pre.map tpT) : Int)) pre W ∧ ∀ y ∈ pre.map tpT, y ∈ er M)
    (fun c pre W => False) (fun s X Y row hs hg hr => ⟨LJ.own s X Y row hs.1 hg hr, hs.2⟩) (fun c s X Y row hs hg hr => hs.elim)
    ⟨⟨⟨rfl, rfl, rfl, Nat.le_refl _, fun _ _ _ => rfl⟩, HRW.out⟩, by simp⟩
    (fun x a' W => ∃ (z : CE) (By nT : Nat), z.1 = copyC x.2.1 ∧ z.2 = x.2.2 ∧ By ≠ B ∧ W.heap[By]? = some (.cells #[.int .i64 z.1.kind, .int .i64 z.1.v.kind, .float .f64 z.1.v.x, .string z.1.v.s, .bool z.1.v.b, .int .i64 z.1.v.f, .int .i64 z.1.t.kind, .int .i64 z.1.t.op, .float .f64 z.1.t.x, .string z.1.t.s, .bool z.1.t.b, .int .i64 z.1.t.f, .int .i64 z.1.t.ref.a.1, .int .i64 z.1.t.ref.a.2, .bool z.1.t.ref.cf, .bool z.1.t.ref.rf, .int .i64 z.1.t.to.a.1, .int .i64 z.1.t.to.a.2, .bool z.1.t.to.cf, .bool z.1.t.to.rf, .slice z.2 z.1.t.args.length z.1.t.args.length] 51 (0, 0)) ∧ smallT z.1.t ∧ ArgsIn W nT (.slice z.2 z.1.t.args.length z.1.t.args.length) z.1.t.args ∧ (x.1, x.2.1) ∈ er M ∧
      a' = { tmps := ((a0.tmps.setIfInBounds 8 (adW x.1)).setIfInBounds 9 (ceV z)).setIfInBounds 5 (.pointer (some ⟨By, 0, none⟩)), defers := [] })
    (fun x a' _ X Y row hs hg hr => by
      obtain ⟨z, By, nT, e1, e2, n2, h2, h3, h4, h5⟩ := hs
      exact ⟨z, By, nT, e1, e2, n2, rowCells_own h2 hg (fun r e => (hr r e).2), h3, h4.kept (cellsIn_walk hg (fun r e => (hr r e).2)), h5⟩)
    ?assign ?body ?done ?stop
  case stop =>
    rintro D c pre W hD hS hF hK
    exact hF.elim
  case done =>
    rintro D xs W hD hS hI hK
    subst hA0
    obtain ⟨⟨hgr, hcn⟩, _⟩ := hI
    rw [told_all hS] at hcn
    obtain ⟨c3, _⟩ := one_row hcn
    have HK := Lib.hid hK
    have HGR := Lib.hid hgr
    clear hcn hgr hK hS
    go_wp2_with fail
    refine ⟨by simp, .inl ⟨_, _, rfl, run_takeDeferred HK.out, ?_⟩⟩
    refine ⟨_, results_tmp rfl _ _ _, rfl, ?_⟩
    exact (HXW.out.grownB HGR.out (fun q hq => by cases hq; omega)).grownB (grownBy_putObj' _ D _) (fun q hq => by cases hq; omega)
  case assign =>
    rintro l0 pre x W K hI ⟨V, hIV, ⟨hxV, hsm, nT, hA⟩, hmem⟩ hK
    subst hA0
    obtain ⟨⟨c, d⟩, tc, tp⟩ := x
    obtain ⟨z, hz1, hz2⟩ : ∃ z : CE, z.1 = copyC tc ∧ z.2 = tp := ⟨(copyC tc, tp), rfl, rfl⟩
    have hzv : copyCV tc tp = ceV z := by rw [← ceV_copy]; obtain ⟨z1, z2⟩ := z; simp only at hz1 hz2; rw [hz1, hz2]
    have hzA : smallT z.1.t ∧ ArgsIn W nT (.slice z.2 z.1.t.args.length z.1.t.args.length) z.1.t.args := by
      rw [hz1, hz2]
      refine ⟨smallT_copy _ hsm, ?_⟩
      show ArgsIn _ _ (.slice tp (copyT tc.t).args.length (copyT tc.t).args.length) (copyT tc.t).args
      rw [copyT_len, copyT_args]
      exact hA.args
    have HZ := Lib.hid (show z.1 = copyC tc ∧ z.2 = tp from ⟨hz1, hz2⟩)
    have HZA := Lib.hid hzA
    simp only [teV, hzv]
    clear hz1 hz2 hzv hzA hA hsm hIV hxV
    have hWs : B + 3 ≤ W.heap.size := by have := hI.1.grown.size; omega
    obtain ⟨wZ, wR, hwZ, hwR, hrZ, hrR, hxR, hsR, hxZ, hsZ⟩ := boxR W z
    have HXR := Lib.hid hxR
    have HRZ := Lib.hid hrZ
    have HRR := Lib.hid hrR
    have HWR := Lib.hid hwR
    have HWs := Lib.hid hWs
    clear hrZ hwR hrR hxZ hxR hWs
    gi_wp2_with (first | (refine wpListIn_store_row (P := Tryz.prog) rfl 51 _ _ rfl W.heap.size #[.int .i64 z.1.kind, .int .i64 z.1.v.kind, .float .f64 z.1.v.x, .string z.1.v.s, .bool z.1.v.b, .int .i64 z.1.v.f, .int .i64 z.1.t.kind, .int .i64 z.1.t.op, .float .f64 z.1.t.x, .string z.1.t.s, .bool z.1.t.b, .int .i64 z.1.t.f, .int .i64 z.1.t.ref.a.1, .int .i64 z.1.t.ref.a.2, .bool z.1.t.ref.cf, .bool z.1.t.ref.rf, .int .i64 z.1.t.to.a.1, .int .i64 z.1.t.to.a.2, .bool z.1.t.to.cf, .bool z.1.t.to.rf, .slice z.2 z.1.t.args.length z.1.t.args.length] rfl rfl 51 _ HRZ.out (by kernel_rfl) rfl (by simp [Value.oneCell']) ?_; rw [HWR.out]))
    have hx := HXR.out
    have hWs := HWs.out
    refine hK _ _ (keepsFrom_xt hx _) ⟨hx.mono (by omega), KeepsT.of_xt hx⟩ ⟨⟨grownBy_far hI.1.grown hx.grownN (fun r e => by cases e), rowX hx hI.1.cnt⟩, hI.2⟩ ?_
    refine ⟨z, W.heap.size, nT, HZ.out.1, HZ.out.2, by omega, HRR.out, HZA.out.1, HZA.out.2.xt hx, hmem, ?_⟩
    simp only [List.setIfInBounds_toArray, List.set_cons_zero, List.set_cons_succ]
  case body =>
    rintro l0 pre x a' W hl0 ⟨r, hr⟩ hI ⟨z, By, nT, hz1, hz2, nBy, hBy, hzs, hzA, hmem, rfl⟩ hlt
    subst hA0
    obtain ⟨⟨c, d⟩, tc, tp⟩ := x
    simp only at hz1 hz2
    obtain ⟨⟨hgr, hcn⟩, hI2⟩ := hI
    obtain ⟨cnt, hcnt⟩ : ∃ cnt : Int, ((lostP (pre.map tpT) : Nat) : Int) = cnt := ⟨_, rfl⟩
    have hbt := HKB.out _ hmem
    simp only at hbt
    have hbz : (flatT z.1.t).length ≤ 1048576 := by
      rw [hz1]
      show (flatT (copyT tc.t)).length ≤ 1048576
      rw [flat_copy, List.length_map]; exact hbt
    obtain ⟨fz, hfz⟩ : ∃ fz : Int, ((faultsT tc.t : Nat) : Int) = fz := ⟨_, rfl⟩
    have hfzz : ((faultsT z.1.t : Nat) : Int) = fz := by rw [hz1]; show ((faultsT (copyT tc.t) : Nat) : Int) = fz; rw [faultsT_copy]; exact hfz
    have hfb : 0 ≤ fz ∧ fz ≤ 1048576 := by
      have h1 := cntK_le (flatT tc.t)
      have h2 : faultsT tc.t = cntK (flatT tc.t) := rfl
      omega
    have hpre : ∀ y ∈ pre.map tpT, (flatT y.2.t).length ≤ 1048576 := fun y hy => HKB.out y (hI2 y hy)
    have HMM : Hid (∀ y ∈ (pre ++ [((c, d), tc, tp)]).map tpT, y ∈ er M) := Lib.hid fun y hy => by
      rw [List.map_append, List.mem_append] at hy
      rcases hy with hy | hy
      · exact hI2 y hy
      · simp only [List.map_cons, List.map_nil, List.mem_singleton] at hy
        rw [hy]; exact hmem
    have hcb : 0 ≤ cnt ∧ cnt ≤ 4294967296 := by
      have h1 := lostP_le (l := pre.map tpT) (fun y hy => hpre y hy)
      have h2 : (pre.map tpT).length ≤ 4096 := by
        have := HG.out.many
        rw [List.length_map]; omega
      have h3 : (pre.map tpT).length * 1048576 ≤ 4096 * 1048576 := Nat.mul_le_mul_right _ h2
      omega
    rw [hcnt] at hcn
    have HCN := Lib.hid hcnt
    have HFZ := Lib.hid hfz
    have HGR := Lib.hid hgr
    have HRN := Lib.hid hcn
    have HXD : Hid (Xt W W.drew) := (Xt.refl W).drew
    have HF : Hid (∀ V, Xt W V → V.rangeAt By 6 [.int .i64 z.1.t.kind, .int .i64 z.1.t.op, .float .f64 z.1.t.x, .string z.1.t.s, .bool z.1.t.b, .int .i64 z.1.t.f, .int .i64 z.1.t.ref.a.1, .int .i64 z.1.t.ref.a.2, .bool z.1.t.ref.cf, .bool z.1.t.ref.rf, .int .i64 z.1.t.to.a.1, .int .i64 z.1.t.to.a.2, .bool z.1.t.to.cf, .bool z.1.t.to.rf, .slice z.2 z.1.t.args.length z.1.t.args.length]) := Lib.hid fun V hV => row_mid6 (rowX hV hBy)
    have HS : Hid (∀ V, Xt W V → (V.setCell ⟨B, 0, none⟩ (.int .i64 (cnt + fz))).rangeAt By 6 [.int .i64 z.1.t.kind, .int .i64 z.1.t.op, .float .f64 z.1.t.x, .string z.1.t.s, .bool z.1.t.b, .int .i64 z.1.t.f, .int .i64 z.1.t.ref.a.1, .int .i64 z.1.t.ref.a.2, .bool z.1.t.ref.cf, .bool z.1.t.ref.rf, .int .i64 z.1.t.to.a.1, .int .i64 z.1.t.to.a.2, .bool z.1.t.to.cf, .bool z.1.t.to.rf, .slice z.2 z.1.t.args.length z.1.t.args.length]) := Lib.hid fun V hV j v hj => (World.cell?_setCell_other _ _ _ _ (by simp)).trans (row_mid6 (rowX hV hBy) j v hj)
    have HC := Lib.hid (faults_any nT z.1.t z.2 z.1.t.args.length W.drew hzs (hzA.xt HXD.out) hbz)
    rw [hfzz] at HC
    obtain ⟨c3, f3⟩ := one_row (rowX HXD.out hcn)
    clear hr hgr hcn hBy hz1 hz2 hzs hzA hmem hlt hcnt hfz hfzz hbt hbz hI2 hpre
    simp only [List.setIfInBounds_toArray, List.set_cons_zero, List.set_cons_succ]
    have hcw : IntKind.i64.wrap (cnt + fz) = cnt + fz := by rw [IntKind.wrap_i64]; omega
    have hff : Fence.wide.fn 52 := trivial
    gi_wp2_with fail
    refine region_round (S := fun V => V.rangeAt By 6 [.int .i64 z.1.t.kind, .int .i64 z.1.t.op, .float .f64 z.1.t.x, .string z.1.t.s, .bool z.1.t.b, .int .i64 z.1.t.f, .int .i64 z.1.t.ref.a.1, .int .i64 z.1.t.ref.a.2, .bool z.1.t.ref.cf, .bool z.1.t.ref.rf, .int .i64 z.1.t.to.a.1, .int .i64 z.1.t.to.a.2, .bool z.1.t.to.cf, .bool z.1.t.to.rf, .slice z.2 z.1.t.args.length z.1.t.args.length]) (by kernel_rfl) (by kernel_rfl) (fun _ _ h => h) (HF.out _ HXD.out) (fun hHeld => ?_)
    refine tkH 1 ?_ ?_ ?_
    rotate_left
    · intro V hSw; clear hSw; go_simp; first | done | with_reducible rfl
    try simp only [Act.put, List.getElem_toArray, List.setIfInBounds_toArray]
    refine tkH 2 (.agg #[.int .i64 z.1.t.kind, .int .i64 z.1.t.op, .float .f64 z.1.t.x, .string z.1.t.s, .bool z.1.t.b, .int .i64 z.1.t.f, .int .i64 z.1.t.ref.a.1, .int .i64 z.1.t.ref.a.2, .bool z.1.t.ref.cf, .bool z.1.t.ref.rf, .int .i64 z.1.t.to.a.1, .int .i64 z.1.t.to.a.2, .bool z.1.t.to.cf, .bool z.1.t.to.rf, .slice z.2 z.1.t.args.length z.1.t.args.length]) ?_ ?_
    · intro V hSw; exact exec_load_mid 49 _ (by rfl) By 6 (by rfl) [.int .i64 z.1.t.kind, .int .i64 z.1.t.op, .float .f64 z.1.t.x, .string z.1.t.s, .bool z.1.t.b, .int .i64 z.1.t.f, .int .i64 z.1.t.ref.a.1, .int .i64 z.1.t.ref.a.2, .bool z.1.t.ref.cf, .bool z.1.t.ref.rf, .int .i64 z.1.t.to.a.1, .int .i64 z.1.t.to.a.2, .bool z.1.t.to.cf, .bool z.1.t.to.rf, .slice z.2 z.1.t.args.length z.1.t.args.length] _ hSw Tryz.underlying49 rfl (by kernel_rfl)
    try simp only [Act.put, nm]
    refine wpAnyH_ready (rs := [0, 3]) (by kernel_rfl) (by simp) ?_
    refine AllReadyH.cons (o := _) rfl (fun K hK => ?_) (AllReadyH.cons (o := _) rfl (fun K hK => ?_) AllReadyH.nil)
    · go_simp
      refine hK.out _ _ (by assumption) (fun hHeldA => ?_)
      clear hK K
      try simp only [Act.put, nm]
      refine rdH 3 (fun K hK => ?_)
      go_simp
      refine (HC.out).mono ?_
      rintro e w7 ⟨rfl, hx7⟩
      have HX7 : Hid (Xt W w7) := HXD.out.trans hx7
      obtain ⟨c3, f3⟩ := one_row (rowX HX7.out HRN.out)
      refine hK.out _ _ (HF.out _ HX7.out) (fun hHeldB => ?_)
      clear hK K hx7
      try simp only [Act.put, nm]
      refine tkH 4 ?_ ?_ ?_
      rotate_left
      · intro V hSw; clear hSw; go_simp; first | done | with_reducible rfl
      try simp only [Act.put, nm]
      refine rdH 5 (fun K hK => ?_)
      go_simp
      refine hK.out _ _ (HS.out _ HX7.out) (fun hHeldC => ?_)
      clear hK K
      refine wpAnyH_done (by kernel_rfl) ?_ _
      gi_wp2_with fail
      have hgW : Wr (fun b => b = B) W (w7.setCell ⟨B, 0, none⟩ (.int .i64 (cnt + fz))) := (Wr.of_xt HX7.out).trans (Wr.cell _ rfl)
      obtain ⟨re1, re2, re3⟩ := round_endT (l0 := W0.heap.size) (n0 := w.heap.size) (f := fun pre => ((lostP (List.map tpT pre) : Nat) : Int)) (pre' := pre ++ [((c, d), tc, tp)]) HGR.out HRN.out (rowX HX7.out HRN.out) (by show ((lostP (List.map tpT (pre ++ [((c, d), tc, tp)])) : Nat) : Int) = cnt + fz; rw [List.map_append, List.map_cons, List.map_nil, lostP_snoc, ← HCN.out, ← HFZ.out]; rfl) hgW (by omega) (by omega)
      exact ⟨re1, re2, re3, HMM.out⟩
    · go_simp
      refine (HC.out).mono ?_
      rintro e w7 ⟨rfl, hx7⟩
      have HX7 : Hid (Xt W w7) := HXD.out.trans hx7
      obtain ⟨c3, f3⟩ := one_row (rowX HX7.out HRN.out)
      refine hK.out _ _ (HF.out _ HX7.out) (fun hHeldB => ?_)
      clear hK K hx7
      try simp only [Act.put, nm]
      refine rdH 0 (fun K hK => ?_)
      go_simp
      refine hK.out _ _ (by assumption) (fun hHeldA => ?_)
      clear hK K
      try simp only [Act.put, nm]
      refine tkH 4 ?_ ?_ ?_
      rotate_left
      · intro V hSw; clear hSw; go_simp; first | done | with_reducible rfl
      try simp only [Act.put, nm]
      refine rdH 5 (fun K hK => ?_)
      go_simp
      refine hK.out _ _ (HS.out _ HX7.out) (fun hHeldC => ?_)
      clear hK K
      refine wpAnyH_done (by kernel_rfl) ?_ _
      gi_wp2_with fail
      have hgW : Wr (fun b => b = B) W (w7.setCell ⟨B, 0, none⟩ (.int .i64 (cnt + fz))) := (Wr.of_xt HX7.out).trans (Wr.cell _ rfl)
      obtain ⟨re1, re2, re3⟩ := round_endT (l0 := W0.heap.size) (n0 := w.heap.size) (f := fun pre => ((lostP (List.map tpT pre) : Nat) : Int)) (pre' := pre ++ [((c, d), tc, tp)]) HGR.out HRN.out (rowX HX7.out HRN.out) (by show ((lostP (List.map tpT (pre ++ [((c, d), tc, tp)])) : Nat) : Int) = cnt + fz; rw [List.map_append, List.map_cons, List.map_nil, lostP_snoc, ← HCN.out, ← HFZ.out]; rfl) hgW (by omega) (by omega)
      exact ⟨re1, re2, re3, HMM.out⟩
end Go.Proofs.YtdoeejhdenifpaaGreatDoor
/- quadrillelaw22's low: what it tells, plain; a cell that is not set, or is. -/
namespace Go.Proofs.YtdoeejhdenifpaaGreatDoor
open Go.RowKit Go.Sort Go.Maps Go.Shelf Go.MapKept
attribute [local go_sem] Oper.semAt_some

def lowN (cols : Bool) (n : Int) (x : NodeT) : Bool := decide (x.kind = 6) && (if cols = true then decide (256 - n < x.to.a.1) else decide (4096 - n < x.to.a.2))
def lowL (cols : Bool) (n : Int) (l : List NodeT) : Bool := l.any (lowN cols n)
theorem lowL_snoc (cols : Bool) (n : Int) (l : List NodeT) (x : NodeT) : lowL cols n (l ++ [x]) = (lowL cols n l || lowN cols n x) := by unfold lowL; simp
def lowT (cols : Bool) (n : Int) (t : NodeT) : Bool := (flatT t).any (lowN cols n)
def lowP (cols : Bool) (n : Int) (l : PG) : Bool := l.any fun x => lowT cols n x.2.t
theorem lowP_snoc (cols : Bool) (n : Int) (l : PG) (x : Ad × ContT) : lowP cols n (l ++ [x]) = (lowP cols n l || lowT cols n x.2.t) := by unfold lowP; simp
theorem lowT_copy (cols : Bool) (n : Int) (t : NodeT) : lowT cols n (copyT t) = lowT cols n t := by
  unfold lowT
  rw [flat_copy, List.any_map]
  refine congrArg (fun f => (flatT t).any f) (funext fun x => ?_)
  show lowN cols n (copyT x) = lowN cols n x
  unfold lowN
  rw [copyT_kind, copyT_to]
/-- What holds while a cell is not, or is, set. -/
structure LV (W0 : World) (R : Nat) (v : Bool) (W : World) : Prop where
  grown : W0.grownBy W (some R)
  row : W.heap[R]? = some (.cells #[.bool v] 4 (0, 0))
theorem LV.own {W0 : World} {R B : Nat} {v : Bool} (hB : W0.heap.size ≤ B) {X Y : World} {row : Option Nat} (hs : LV W0 R v X) (hg : X.grownBy Y row) (hr : ∀ r, row = some r → B ≤ r ∧ ∃ o : Obj, X.heap[r]? = some o ∧ o.isCells = false) : LV W0 R v Y :=
  ⟨grownBy_far hs.grown hg (fun r e => Nat.le_trans hB (hr r e).1), rowCells_own hs.row hg (fun r e => (hr r e).2)⟩
theorem LV.refl {W : World} {R : Nat} {v : Bool} (h : W.heap[R]? = some (.cells #[.bool v] 4 (0, 0))) : LV W R v W := ⟨⟨rfl, rfl, rfl, Nat.le_refl _, fun _ _ _ => rfl⟩, h⟩
theorem nodes1_stops (n b : Nat) (t : NodeT) (a : Option Addr) (cap dd : Nat) (S : Nat → Prop) (w0 : World) (hr : w0.heap[b]? = some (.cells #[.int .i64 t.kind, .int .i64 t.op, .float .f64 t.x, .string t.s, .bool t.b, .int .i64 t.f, .int .i64 t.ref.a.1, .int .i64 t.ref.a.2, .bool t.ref.cf, .bool t.ref.rf, .int .i64 t.to.a.1, .int .i64 t.to.a.2, .bool t.to.cf, .bool t.to.rf, .slice a t.args.length cap] 49 (0, 0))) (hO : OwnIn S w0 dd (.slice a t.args.length cap) t.args) :
    SeqStopsK Fence.wide n Tryz.prog 77 #[.pointer (some ⟨b, 0, none⟩)] encN KN (fun xs => xs = flatT t) (fun p => p <+: flatT t) (flatT t).length w0 := fun l J Jx W hB hJ hJx hY h0 =>
  nodes1_told n b t a cap dd S w0 hr hO l J Jx W hB hJ hJx (fun pre x W1 hj _ hl => hY pre x W1 hj hl) h0
theorem results_one6 {fn : Func} {p : Tmp} {t1 : TypeId} (h : fn.results = #[.cell p t1]) (tmps : Array Value) (w : World) (b1 : Nat) (u : Value) (hp : tmps.getD p undef = .pointer (some ⟨b1, 0, none⟩))
    (l1 : (loadVar t1 ⟨b1, 0, none⟩).run Tryz.prog w = .ok u w) : (results fn tmps).run Tryz.prog w = .ok u w := by
  have hp' : tmps[p]?.getD undef = .pointer (some ⟨b1, 0, none⟩) := by simpa using hp
  simp [results, h, hp', asAddr, l1]
theorem load_bool6 (w : World) (b : Nat) (u : Value) (h : w.cell? ⟨b, 0, none⟩ = some u) : (loadVar 4 ⟨b, 0, none⟩).run Tryz.prog w = .ok u w := by go_simp
theorem any_prefix {α : Type} {p : α → Bool} {l k : List α} (h : l <+: k) (hl : l.any p = true) : k.any p = true := by
  obtain ⟨r, rfl⟩ := h
  rw [List.any_append, hl]; rfl
end Go.Proofs.YtdoeejhdenifpaaGreatDoor
/- move, plain: lines there and back, twice and at once; what is lost. -/
namespace Go.Proofs.YtdoeejhdenifpaaGreatDoor
open Go.RowKit Go.Sort

/-! ### lines and spans -/
theorem spanZ_eq {k n m a b : Int} : spanZ k n m a b = if loZ k n a ≤ hiZ k n m b then ((if loZ k n a < k then loZ k n a else loZ k n a + n), (if hiZ k n m b < k then hiZ k n m b else hiZ k n m b + n), true) else (0, 0, false) := by
  unfold spanZ
  rw [lineZ_val, lineZ_val]
theorem line_back {k p m z : Int} (hp : 0 < p) (_hz : z ≤ m) : lineZ k (-p) m (lineZ k p m z).1 = (z, true) := by
  rw [lineZ_val]
  unfold lineZ
  by_cases h : z < k
  · rw [if_pos h, if_pos h]
  · rw [if_neg h, if_neg (by omega), if_neg (by omega)]
    exact Prod.ext (by simp only; omega) (decide_eq_true (by omega))
theorem line_add {k p q m z : Int} (hp : 0 < p) (hq : 0 < q) (_ho : (lineZ k p m z).2 = true) : lineZ k q m (lineZ k p m z).1 = lineZ k (p + q) m z := by
  rw [lineZ_val]
  unfold lineZ
  by_cases h : z < k
  · rw [if_pos h, if_pos h, if_pos h]
  · rw [if_neg h, if_neg (by omega), if_pos (by omega), if_neg h, if_pos (by omega), Int.add_assoc]
theorem line_sub {k p q m z : Int} (hp : 0 < p) (hq : 0 < q) : (lineZ k (-p) m z).2 = true → lineZ k (-q) m (lineZ k (-p) m z).1 = lineZ k (-p - q) m z := by
  intro ho
  rw [lineZ_bool] at ho
  rw [lineZ_val]
  unfold lineZ
  by_cases h : z < k
  · rw [if_pos h, if_pos h, if_pos h]
  · rw [if_neg h, if_neg (by omega), if_neg (by omega), if_neg h, if_neg (by omega)]
    exact Prod.ext (by simp only; omega) (decide_eq_decide.2 (by omega))
theorem line_sub_no {k p q m z : Int} (hp : 0 < p) (hq : 0 < q) (ho : ¬ (lineZ k (-p) m z).2 = true) : ¬ (lineZ k (-p - q) m z).2 = true := by
  rw [lineZ_bool] at *
  omega
theorem line_ok_add {k p q m z : Int} (hp : 0 < p) (hq : 0 < q) (ho : (lineZ k (p + q) m z).2 = true) : (lineZ k p m z).2 = true := by
  rw [lineZ_bool] at *
  omega
theorem span_ins {k p m a b : Int} (hp : 0 < p) (hab : a ≤ b) (hb : b ≤ m - p) : spanZ k p m a b = ((if a < k then a else a + p), (if b < k then b else b + p), true) := by
  have h1 : loZ k p a = a := by unfold loZ; rw [if_pos (by omega)]
  have h2 : hiZ k p m b = b := by unfold hiZ; rw [if_pos (by omega)]; split <;> (try split) <;> omega
  rw [spanZ_eq, h1, h2, if_pos hab]
theorem span_back {k p m a b : Int} (hp : 0 < p) (hab : a ≤ b) (hb : b ≤ m - p) : spanZ k (-p) m (spanZ k p m a b).1 (spanZ k p m a b).2.1 = (a, b, true) := by
  rw [span_ins hp hab hb]
  simp only
  have h1 : loZ k (-p) (if a < k then a else a + p) = if a < k then a else a + p := by
    unfold loZ
    rw [if_neg (by omega)]
    by_cases h : a < k
    · simp only [h, if_true]
    · simp only [h, if_false]; rw [if_neg (by omega), if_neg (by omega)]
  have h2 : hiZ k (-p) m (if b < k then b else b + p) = if b < k then b else b + p := by
    unfold hiZ
    rw [if_neg (by omega)]
    by_cases h : b < k
    · simp only [h, if_true]; rw [if_neg (by omega)]
    · simp only [h, if_false]; rw [if_pos (by omega)]
  rw [spanZ_eq, h1, h2]
  have e1 : (if (if a < k then a else a + p) < k then (if a < k then a else a + p) else (if a < k then a else a + p) + -p) = a := by split <;> split at * <;> omega
  have e2 : (if (if b < k then b else b + p) < k then (if b < k then b else b + p) else (if b < k then b else b + p) + -p) = b := by split <;> split at * <;> omega
  rw [if_pos (by split <;> split <;> omega), e1, e2]
theorem span_add {k p q m a b : Int} (hp : 0 < p) (hq : 0 < q) (hab : a ≤ b) (hb : b ≤ m - (p + q)) : spanZ k q m (spanZ k p m a b).1 (spanZ k p m a b).2.1 = spanZ k (p + q) m a b := by
  rw [span_ins hp hab (by omega), span_ins (p := p + q) (by omega) hab hb]
  simp only
  rw [span_ins hq (by split <;> split <;> omega) (by split <;> omega)]
  refine Prod.ext ?_ (Prod.ext ?_ rfl)
  · by_cases h : a < k
    · simp only [h, if_true]
    · simp only [h, if_false]; rw [if_neg (by omega)]; omega
  · by_cases h : b < k
    · simp only [h, if_true]
    · simp only [h, if_false]; rw [if_neg (by omega)]; omega
/-! ### taken out -/
def dLo (k p a : Int) : Int := if a < k then a else if a < k + p then k else a - p
def dHi (k p b : Int) : Int := if k + p ≤ b then b - p else if b < k then b else k - 1
theorem loZ_del {k p a : Int} (hp : 0 < p) : loZ k (-p) a = if a < k then a else if a < k + p then k + p else a := by
  unfold loZ
  rw [if_neg (by omega), show k - -p = k + p by omega]
theorem hiZ_del {k p m b : Int} (hp : 0 < p) : hiZ k (-p) m b = if k + p ≤ b then b else if b < k then b else k - 1 := by
  unfold hiZ
  rw [if_neg (by omega), show k - -p = k + p by omega]
theorem dLo_line {k p a : Int} (hp : 0 < p) : (if loZ k (-p) a < k then loZ k (-p) a else loZ k (-p) a + -p) = dLo k p a := by
  rw [loZ_del hp]
  unfold dLo
  by_cases h1 : a < k
  · simp only [h1, if_true]
  · by_cases h2 : a < k + p
    · simp only [h1, h2, if_true, if_false]; rw [if_neg (by omega)]; omega
    · simp only [h1, h2, if_false]; omega
theorem dHi_line {k p m b : Int} (hp : 0 < p) : (if hiZ k (-p) m b < k then hiZ k (-p) m b else hiZ k (-p) m b + -p) = dHi k p b := by
  rw [hiZ_del hp]
  unfold dHi
  by_cases h1 : k + p ≤ b
  · simp only [h1, if_true]; rw [if_neg (by omega)]; omega
  · by_cases h2 : b < k
    · simp only [h1, h2, if_true, if_false]
    · simp only [h1, h2, if_false]; rw [if_pos (by omega)]
theorem del_le {k p m a b : Int} (hp : 0 < p) : loZ k (-p) a ≤ hiZ k (-p) m b ↔ dLo k p a ≤ dHi k p b := by
  rw [loZ_del hp, hiZ_del hp]
  unfold dLo dHi
  by_cases h1 : a < k <;> by_cases h2 : a < k + p <;> by_cases h3 : k + p ≤ b <;> by_cases h4 : b < k <;> simp only [h1, h2, h3, h4, if_true, if_false] <;> first | omega | (constructor <;> intro h <;> first | omega | trivial) | (simp only [true_iff, iff_true, false_iff, iff_false]; omega)
theorem spanZ_del {k p m a b : Int} (hp : 0 < p) : spanZ k (-p) m a b = if dLo k p a ≤ dHi k p b then (dLo k p a, dHi k p b, true) else (0, 0, false) := by
  rw [spanZ_eq, dLo_line hp, dHi_line hp]
  by_cases h : dLo k p a ≤ dHi k p b
  · rw [if_pos h, if_pos ((del_le hp).2 h)]
  · rw [if_neg h, if_neg (fun e => h ((del_le hp).1 e))]
theorem dLo_two {k p q a : Int} (_hp : 0 < p) (hq : 0 < q) : dLo k q (dLo k p a) = dLo k (p + q) a := by
  unfold dLo
  by_cases h1 : a < k
  · simp only [h1, if_true]
  · by_cases h2 : a < k + p
    · simp only [h1, h2, if_true, if_false]; rw [if_neg (by omega), if_pos (by omega), if_pos (by omega)]
    · by_cases h3 : a < k + (p + q)
      · simp only [h1, h2, h3, if_true, if_false]; rw [if_neg (by omega), if_pos (by omega)]
      · simp only [h1, h2, h3, if_false]; rw [if_neg (by omega), if_neg (by omega)]; omega
theorem dHi_two {k p q b : Int} (hp : 0 < p) (hq : 0 < q) : dHi k q (dHi k p b) = dHi k (p + q) b := by
  unfold dHi
  by_cases h1 : k + p ≤ b
  · by_cases h2 : k + (p + q) ≤ b
    · simp only [h1, h2, if_true]; rw [if_pos (by omega)]; omega
    · simp only [h1, h2, if_true, if_false]; rw [if_neg (by omega), if_neg (by omega), if_neg (by omega)]
  · by_cases h2 : b < k
    · simp only [h1, h2, if_true, if_false]; rw [if_neg (by omega), if_neg (by omega)]
    · simp only [h1, h2, if_false]; rw [if_neg (by omega), if_pos (by omega), if_neg (by omega)]
theorem span_sub {k p q m a b : Int} (hp : 0 < p) (hq : 0 < q) (ho : (spanZ k (-p) m a b).2.2 = true) : spanZ k (-q) m (spanZ k (-p) m a b).1 (spanZ k (-p) m a b).2.1 = spanZ k (-p - q) m a b := by
  have e : -p - q = -(p + q) := by omega
  rw [spanZ_del hp] at ho ⊢
  by_cases h : dLo k p a ≤ dHi k p b
  · rw [if_pos h, e, spanZ_del hq, spanZ_del (p := p + q) (by omega)]
    simp only
    rw [dLo_two hp hq, dHi_two hp hq]
  · rw [if_neg h] at ho; cases ho
theorem span_sub_no {k p q m a b : Int} (hp : 0 < p) (hq : 0 < q) (_hab : a ≤ b) (ho : ¬ (spanZ k (-p) m a b).2.2 = true) : ¬ (spanZ k (-p - q) m a b).2.2 = true := by
  have e : -p - q = -(p + q) := by omega
  rw [spanZ_del hp] at ho
  have h : ¬ dLo k p a ≤ dHi k p b := fun h => ho (by rw [if_pos h])
  rw [e, spanZ_del (p := p + q) (by omega)]
  have h2 : ¬ dLo k (p + q) a ≤ dHi k (p + q) b := by
    rw [← dLo_two hp hq, ← dHi_two hp hq]
    revert h
    generalize dLo k p a = x
    generalize dHi k p b = y
    unfold dLo dHi
    intro h
    by_cases h1 : x < k <;> by_cases h2 : x < k + q <;> by_cases h3 : k + q ≤ y <;> by_cases h4 : y < k <;> simp only [h1, h2, h3, h4, if_true, if_false] <;> omega
  rw [if_neg h2]
  decide
end Go.Proofs.YtdoeejhdenifpaaGreatDoor
/- move, plain: formulas and grids there and back, twice and at once. -/
namespace Go.Proofs.YtdoeejhdenifpaaGreatDoor
open Go.RowKit Go.Sort

/-! ### a formula's nodes -/
theorem turnH_else {cG : Ad → Ad × Bool} {aG : ArT → ArT × Bool} {k o : Int} {x : Nat} {s : ByteArray} {b : Bool} {f : Int} {r q : RefT} {l : List NodeT} (h5 : k ≠ 5) (h6 : k ≠ 6) : turnH cG aG (.mk k o x s b f r q l) = .mk k o x s b f r q l := by
  rw [turnH, if_neg h5, if_neg h6]
theorem turn_leaf {cG : Ad → Ad × Bool} {aG : ArT → ArT × Bool} {t : NodeT} (h : t.args = []) : turnT cG aG t = turnH cG aG t := by
  obtain ⟨k, o, x, s, b, f, r, q, l⟩ := t
  have h : l = [] := h
  subst h
  rw [turnT, turnL]
theorem turnH_noargs {cG : Ad → Ad × Bool} {aG : ArT → ArT × Bool} {t : NodeT} (h : t.args = []) : (turnH cG aG t).args = [] := by
  rcases turnH_form cG aG t with e | ⟨r, q, e⟩
  · rw [e]; rfl
  · rw [e]; exact h
def okN (x : NodeT) : Prop := (x.kind = 5 → validB x.ref.a.1 x.ref.a.2 = true) ∧ (x.kind = 6 → vA (arOf x.ref x.to) = true)
/-- What a valid node's kind says: a cell's or an area's has no parts; another one's parts are valid. -/
theorem fault_cases {k o : Int} {x : Nat} {s : ByteArray} {b : Bool} {f : Int} {r q : RefT} {l : List NodeT} {ins : Bool} (h : faultT (.mk k o x s b f r q l) ins = 0) :
    ((k = 5 ∨ k = 6) ∧ l = [] ∧ okN (.mk k o x s b f r q [])) ∨ (k ≠ 5 ∧ k ≠ 6 ∧ faultL l (k == 9) = 0) := by
  rw [faultT] at h
  by_cases hm : madeB (.mk k o x s b f r q l) = true
  · rw [if_pos hm] at h
    by_cases h5 : k = 5
    · subst h5
      rw [if_pos (by rfl)] at h
      obtain ⟨rfl, _⟩ := made_ref (r' := r) hm
      refine Or.inl ⟨Or.inl rfl, rfl, fun _ => ?_, fun e => absurd (show (5 : Int) = 6 from e) (by decide)⟩
      show validB r.a.1 r.a.2 = true
      by_cases hv : validB r.a.1 r.a.2 = true
      · exact hv
      · rw [if_neg hv] at h; omega
    · rw [if_neg (by simpa using h5)] at h
      by_cases h6 : k = 6
      · subst h6
        rw [if_pos (by rfl)] at h
        obtain ⟨rfl, _⟩ := made_area (r' := r) (q' := q) hm
        refine Or.inl ⟨Or.inr rfl, rfl, fun e => absurd (show (6 : Int) = 5 from e) (by decide), fun _ => ?_⟩
        show (validB r.a.1 r.a.2 && validB q.a.1 q.a.2 && decide (r.a.1 ≤ q.a.1) && decide (r.a.2 ≤ q.a.2)) = true
        by_cases hv : (validB r.a.1 r.a.2 && validB q.a.1 q.a.2 && decide (r.a.1 ≤ q.a.1) && decide (r.a.2 ≤ q.a.2)) = true
        · exact hv
        · rw [if_neg hv] at h; omega
      · rw [if_neg (by simpa using h6)] at h
        refine Or.inr ⟨h5, h6, ?_⟩
        split at h
        · split at h
          · split at h
            · omega
            · split at h
              · omega
              · exact h
          · omega
        · exact h
  · rw [if_neg hm] at h; omega
theorem faultL_cons {t : NodeT} {l : List NodeT} {c : Bool} (h : faultL (t :: l) c = 0) : faultT t c = 0 ∧ faultL l c = 0 := by
  rw [faultL] at h
  split at h
  · rename_i e; exact ⟨e, h⟩
  · rename_i e; exact absurd h e
mutual
theorem flat_okN : ∀ (t : NodeT) (ins : Bool), faultT t ins = 0 → ∀ x ∈ flatT t, okN x
  | .mk k o x s b f r q l, ins, h => by
    rw [flatT]
    rcases fault_cases h with ⟨_, rfl, hk⟩ | ⟨h5, h6, hL⟩
    · intro y hy
      rw [flatL] at hy
      rw [List.mem_singleton.1 hy]; exact hk
    · intro y hy
      rcases List.mem_cons.1 hy with e | hy
      · rw [e]; exact ⟨fun e => absurd e h5, fun e => absurd e h6⟩
      · exact flatL_okN l _ hL y hy
theorem flatL_okN : ∀ (l : List NodeT) (c : Bool), faultL l c = 0 → ∀ x ∈ flatL l, okN x
  | [], _, _ => fun x hx => by rw [flatL] at hx; cases hx
  | t :: l, c, h => fun x hx => by
    obtain ⟨h1, h2⟩ := faultL_cons h
    rw [flatL] at hx
    rcases List.mem_append.1 hx with hx | hx
    · exact flat_okN t c h1 x hx
    · exact flatL_okN l c h2 x hx
end
mutual
theorem turn_comp {cG1 cG2 cG3 : Ad → Ad × Bool} {aG1 aG2 aG3 : ArT → ArT × Bool} : ∀ (t : NodeT) (ins : Bool), faultT t ins = 0 → (∀ x ∈ flatT t, x.kind = 5 ∨ x.kind = 6 → turnH cG2 aG2 (turnH cG1 aG1 x) = turnH cG3 aG3 x) → turnT cG2 aG2 (turnT cG1 aG1 t) = turnT cG3 aG3 t
  | .mk k o x s b f r q l, ins, h, H => by
    rcases fault_cases h with ⟨hk, rfl, _⟩ | ⟨h5, h6, hL⟩
    · have := H (.mk k o x s b f r q []) (by rw [flatT]; exact List.mem_cons_self) hk
      rw [turn_leaf (t := .mk k o x s b f r q []) rfl, turn_leaf (turnH_noargs rfl), turn_leaf (t := .mk k o x s b f r q []) rfl]
      exact this
    · rw [turnT, turnH_else h5 h6, turnT, turnH_else h5 h6, turnT, turnH_else h5 h6, turnL_comp l _ hL (fun y hy => H y (by rw [flatT]; exact List.mem_cons_of_mem _ hy))]
theorem turnL_comp {cG1 cG2 cG3 : Ad → Ad × Bool} {aG1 aG2 aG3 : ArT → ArT × Bool} : ∀ (l : List NodeT) (c : Bool), faultL l c = 0 → (∀ x ∈ flatL l, x.kind = 5 ∨ x.kind = 6 → turnH cG2 aG2 (turnH cG1 aG1 x) = turnH cG3 aG3 x) → turnL cG2 aG2 (turnL cG1 aG1 l) = turnL cG3 aG3 l
  | [], _, _, _ => rfl
  | t :: l, c, h, H => by
    obtain ⟨h1, h2⟩ := faultL_cons h
    rw [turnL, turnL, turnL, turn_comp t c h1 (fun y hy => H y (by rw [flatL]; exact List.mem_append_left _ hy)), turnL_comp l c h2 (fun y hy => H y (by rw [flatL]; exact List.mem_append_right _ hy))]
end
abbrev cI : Ad → Ad × Bool := fun a => (a, true)
abbrev aI : ArT → ArT × Bool := fun x => (x, true)
theorem turnH_id (t : NodeT) : turnH cI aI t = t := by
  obtain ⟨k, o, x, s, b, f, r, q, l⟩ := t
  rw [turnH]
  split
  · rfl
  · split
    · rfl
    · rfl
mutual
theorem turn_id : ∀ t : NodeT, turnT cI aI t = t
  | .mk k o x s b f r q l => by rw [turnT, turnL_id l, turnH_id]
theorem turnL_id : ∀ l : List NodeT, turnL cI aI l = l
  | [] => rfl
  | t :: l => by rw [turnL, turn_id t, turnL_id l]
end
/-! ### what is lost -/
def lostH (cG : Ad → Ad × Bool) (aG : ArT → ArT × Bool) (x : NodeT) : Bool := (decide (x.kind = 5) && !(cG x.ref.a).2) || (decide (x.kind = 6) && !(aG (arOf x.ref x.to)).2)
def lostC (cG : Ad → Ad × Bool) (aG : ArT → ArT × Bool) (l : List NodeT) : Nat := (l.filter (lostH cG aG)).length
theorem lostC_zero {cG : Ad → Ad × Bool} {aG : ArT → ArT × Bool} {l : List NodeT} (h : lostC cG aG l = 0) : ∀ x ∈ l, lostH cG aG x = false := fun x hx => by
  cases e : lostH cG aG x
  · rfl
  · have : x ∈ l.filter (lostH cG aG) := List.mem_filter.2 ⟨hx, e⟩
    rw [List.eq_nil_of_length_eq_zero h] at this
    cases this
theorem cntK_cons (x : NodeT) (l : List NodeT) : cntK (x :: l) = (if x.kind = 4 then 1 else 0) + cntK l := by
  unfold cntK
  rw [List.filter_cons]
  by_cases h : x.kind = 4
  · rw [if_pos (by simpa using h), if_pos h, List.length_cons]; omega
  · rw [if_neg (by simpa using h), if_neg h]; omega
theorem cntK_append (l k : List NodeT) : cntK (l ++ k) = cntK l + cntK k := by unfold cntK; rw [List.filter_append, List.length_append]
theorem lostC_append (cG : Ad → Ad × Bool) (aG : ArT → ArT × Bool) (l k : List NodeT) : lostC cG aG (l ++ k) = lostC cG aG l + lostC cG aG k := by unfold lostC; rw [List.filter_append, List.length_append]
theorem lostC_cons (cG : Ad → Ad × Bool) (aG : ArT → ArT × Bool) (x : NodeT) (l : List NodeT) : lostC cG aG (x :: l) = (if lostH cG aG x = true then 1 else 0) + lostC cG aG l := by
  unfold lostC
  rw [List.filter_cons]
  split
  · rw [List.length_cons]; omega
  · omega
mutual
theorem turn_faults {cG : Ad → Ad × Bool} {aG : ArT → ArT × Bool} : ∀ (t : NodeT) (ins : Bool), faultT t ins = 0 → cntK (flatT (turnT cG aG t)) = cntK (flatT t) + lostC cG aG (flatT t)
  | .mk k o x s b f r q l, ins, h => by
    rcases fault_cases h with ⟨hk, rfl, _⟩ | ⟨h5, h6, hL⟩
    · rw [turn_leaf (t := .mk k o x s b f r q []) rfl, flatT_eq, turnH_noargs rfl, flatT, flatL, cntK_cons, cntK_cons, lostC_cons]
      have e0 : cntK [] = 0 := rfl
      have e1 : lostC cG aG [] = 0 := rfl
      rw [e0, e1]
      rcases hk with rfl | rfl
      · rw [turnH, if_pos rfl]
        cases ho : (cG r.a).2
        · simp [lostT, leafN, NodeT.kind, lostH, NodeT.ref, ho]
        · simp [leafN, NodeT.kind, lostH, NodeT.ref, ho]
      · have e6 : turnH cG aG (.mk 6 o x s b f r q []) = if (aG (arOf r q)).2 = true then .mk 6 o x s b f ⟨((aG (arOf r q)).1.a, (aG (arOf r q)).1.b), r.cf, r.rf⟩ ⟨((aG (arOf r q)).1.c, (aG (arOf r q)).1.d), q.cf, q.rf⟩ [] else lostT := by
          rw [turnH, if_neg (show ¬ (6 : Int) = 5 by decide), if_pos rfl]
        rw [e6]
        cases ho : (aG (arOf r q)).2
        · simp [lostT, leafN, NodeT.kind, lostH, NodeT.ref, NodeT.to, ho]
        · simp [leafN, NodeT.kind, lostH, NodeT.ref, NodeT.to, ho]
    · rw [turnT, turnH_else h5 h6, flatT, flatT, cntK_cons, cntK_cons, lostC_cons, turnL_faults l _ hL]
      have : lostH cG aG (.mk k o x s b f r q []) = false := by unfold lostH; simp [NodeT.kind, h5, h6]
      simp only [this, Bool.false_eq_true, if_false]
      omega
theorem turnL_faults {cG : Ad → Ad × Bool} {aG : ArT → ArT × Bool} : ∀ (l : List NodeT) (c : Bool), faultL l c = 0 → cntK (flatL (turnL cG aG l)) = cntK (flatL l) + lostC cG aG (flatL l)
  | [], _, _ => rfl
  | t :: l, c, h => by
    obtain ⟨h1, h2⟩ := faultL_cons h
    rw [turnL, flatL, flatL, cntK_append, cntK_append, lostC_append, turn_faults t c h1, turnL_faults l c h2]
    omega
end
/-! ### contents -/
/-- What is asked of a content that a grid has. -/
def okCt (c : ContT) : Prop := gvalidB c = true ∧ (c.kind == 0) = false ∧ copyC c = c
theorem okCt.fault {c : ContT} (h : okCt c) (hk : c.kind = 2) : faultT c.t false = 0 := by
  have hv := h.1
  unfold gvalidB at hv
  simp only [hk, Int.reduceBEq, Bool.false_eq_true, if_false, if_true, Bool.and_eq_true] at hv
  exact checkT_zero (by simpa using hv.2)
theorem okCt.copyT {c : ContT} (h : okCt c) : copyT c.t = c.t := congrArg ContT.t h.2.2
theorem okCt.plain {c : ContT} (h : okCt c) (hk : c.kind ≠ 2) : flatT c.t = [leafN c.t] ∧ c.t.kind = 0 := by
  have hv := h.1
  have h0 := h.2.1
  unfold gvalidB at hv
  rw [h0] at hv
  simp only [Bool.false_eq_true, if_false] at hv
  by_cases h1 : (c.kind == 1) = true
  · rw [if_pos h1] at hv
    simp only [Bool.and_eq_true] at hv
    have hn := hv.1.1
    unfold noNodeB at hn
    simp only [Bool.and_eq_true] at hn
    have hk0 : c.t.kind = 0 := of_decide_eq_true hn.1.1.1.1.1.1.1.1
    have hl : c.t.args = [] := List.length_eq_zero_iff.1 (by have := hn.2; simp at this; simpa using this)
    exact ⟨by rw [flatT_eq, hl, flatL], hk0⟩
  · rw [if_neg h1, if_neg (by simpa using hk)] at hv; cases hv
theorem contG_faults {cG : Ad → Ad × Bool} {aG : ArT → ArT × Bool} {c : ContT} (h : okCt c) : faultsT (contG cG aG c).t = faultsT c.t + lostC cG aG (flatT c.t) := by
  unfold faultsT contG
  by_cases hk : c.kind = 2
  · rw [if_pos hk]
    show cntK (flatT (turnT cG aG (Proofs.YtdoeejhdenifpaaGreatDoor.copyT c.t))) = _
    rw [h.copyT]
    exact turn_faults c.t false (h.fault hk)
  · rw [if_neg hk]
    obtain ⟨e1, e2⟩ := h.plain hk
    have : lostC cG aG (flatT c.t) = 0 := by
      rw [e1, lostC_cons]
      have : lostH cG aG (leafN c.t) = false := by
        unfold lostH
        have hk2 : (leafN c.t).kind = c.t.kind := by cases c.t; rfl
        rw [hk2, e2]; rfl
      rw [this]; rfl
    omega
theorem contG_comp {cG1 cG2 cG3 : Ad → Ad × Bool} {aG1 aG2 aG3 : ArT → ArT × Bool} {c : ContT} (h : okCt c) (H : c.kind = 2 → ∀ x ∈ flatT c.t, x.kind = 5 ∨ x.kind = 6 → turnH cG2 aG2 (turnH cG1 aG1 x) = turnH cG3 aG3 x) :
    contG cG2 aG2 (copyC (contG cG1 aG1 (copyC c))) = contG cG3 aG3 (copyC c) := by
  rw [contG_copy, h.2.2]
  unfold contG
  by_cases hk : c.kind = 2
  · rw [if_pos hk, if_pos hk]
    simp only
    rw [if_pos hk]
    have e : turnT cG2 aG2 (Proofs.YtdoeejhdenifpaaGreatDoor.copyT (turnT cG1 aG1 (Proofs.YtdoeejhdenifpaaGreatDoor.copyT c.t))) = turnT cG3 aG3 (Proofs.YtdoeejhdenifpaaGreatDoor.copyT c.t) := by
      rw [← turn_copy, h.copyT, h.copyT]
      exact turn_comp c.t false (h.fault hk) (H hk)
    rw [e]
  · rw [if_neg hk, if_neg hk, if_neg hk]
theorem contG_id {c : ContT} (h : okCt c) : contG cI aI (copyC c) = c := by
  rw [h.2.2]
  unfold contG
  split
  · rw [turn_id, h.copyT]
  · rfl
/-! ### grids -/
theorem goP_nil (cG : Ad → Ad × Bool) (aG : ArT → ArT × Bool) : goP cG aG [] = [] := rfl
theorem goP_cons (cG : Ad → Ad × Bool) (aG : ArT → ArT × Bool) (x : Ad × ContT) (l : PG) : goP cG aG (x :: l) = if (cG x.1).2 = true then ((cG x.1).1, contG cG aG (copyC x.2)) :: goP cG aG l else goP cG aG l := by
  unfold goP
  rw [List.filter_cons]
  split <;> rfl
theorem goP_comp {cG1 cG2 cG3 : Ad → Ad × Bool} {aG1 aG2 aG3 : ArT → ArT × Bool} : ∀ {l : PG}, (∀ x ∈ l, ((cG1 x.1).2 = true → cG2 (cG1 x.1).1 = cG3 x.1 ∧ contG cG2 aG2 (copyC (contG cG1 aG1 (copyC x.2))) = contG cG3 aG3 (copyC x.2)) ∧ (¬ (cG1 x.1).2 = true → ¬ (cG3 x.1).2 = true)) → goP cG2 aG2 (goP cG1 aG1 l) = goP cG3 aG3 l
  | [], _ => rfl
  | x :: l, h => by
    have ih := goP_comp (l := l) (fun y hy => h y (List.mem_cons_of_mem _ hy))
    obtain ⟨h1, h2⟩ := h x List.mem_cons_self
    rw [goP_cons, goP_cons]
    by_cases ho : (cG1 x.1).2 = true
    · obtain ⟨e1, e2⟩ := h1 ho
      rw [if_pos ho, goP_cons]
      simp only
      rw [e1, e2, ih]
    · rw [if_neg ho, if_neg (h2 ho), ih]
theorem goP_id : ∀ {l : PG}, (∀ x ∈ l, okCt x.2) → goP cI aI l = l
  | [], _ => rfl
  | x :: l, h => by
    rw [goP_cons, if_pos rfl, goP_id (fun y hy => h y (List.mem_cons_of_mem _ hy)), contG_id (h x List.mem_cons_self)]
/-- Where no cell goes: what is lost in all. -/
theorem lostP_goP {cG : Ad → Ad × Bool} {aG : ArT → ArT × Bool} : ∀ {l : PG}, (∀ x ∈ l, okCt x.2 ∧ (cG x.1).2 = true) → lostP l ≤ lostP (goP cG aG l) ∧ (lostP (goP cG aG l) = lostP l → ∀ x ∈ l, ∀ y ∈ flatT x.2.t, lostH cG aG y = false)
  | [], _ => ⟨Nat.le_refl _, fun _ x hx => by cases hx⟩
  | x :: l, h => by
    obtain ⟨i1, i2⟩ := lostP_goP (cG := cG) (aG := aG) (l := l) (fun y hy => h y (List.mem_cons_of_mem _ hy))
    obtain ⟨h1, h2⟩ := h x List.mem_cons_self
    have e := contG_faults (cG := cG) (aG := aG) h1
    rw [goP_cons, if_pos h2, lostP, lostP]
    simp only
    rw [h1.2.2, e]
    refine ⟨by omega, fun hs y hy => ?_⟩
    rcases List.mem_cons.1 hy with rfl | hy
    · exact lostC_zero (by omega)
    · exact i2 (by omega) y hy
end Go.Proofs.YtdoeejhdenifpaaGreatDoor
/- move, plain: MoveBack's law. -/
namespace Go.Proofs.YtdoeejhdenifpaaGreatDoor
open Go.RowKit Go.Sort

/-! ### cells and areas of valid ones -/
theorem cell_f {k n : Int} (h : LB 4096 k n) {a : Ad} (hv : validB a.1 a.2 = true) : cellF false ⟨k, n, 4096⟩ a = ((a.1, (lineZ k n 4096 a.2).1), (lineZ k n 4096 a.2).2) := by
  have v := validB_le hv
  unfold cellF
  rw [if_neg (by decide), lineF_eq h (by omega)]
theorem cell_t {k n : Int} (h : LB 256 k n) {a : Ad} (hv : validB a.1 a.2 = true) : cellF true ⟨k, n, 256⟩ a = (((lineZ k n 256 a.1).1, a.2), (lineZ k n 256 a.1).2) := by
  have v := validB_le hv
  unfold cellF
  rw [if_pos rfl, lineF_eq h (by omega)]
theorem area_f {k n : Int} (h : LB 4096 k n) {x : ArT} (hv : vA x = true) : areaF false ⟨k, n, 4096⟩ x = (⟨x.a, (spanZ k n 4096 x.b x.d).1, x.c, (spanZ k n 4096 x.b x.d).2.1⟩, (spanZ k n 4096 x.b x.d).2.2) := by
  have v := vA_le hv
  unfold areaF
  rw [if_neg (by decide), spanF_eq h (by omega)]
theorem area_t {k n : Int} (h : LB 256 k n) {x : ArT} (hv : vA x = true) : areaF true ⟨k, n, 256⟩ x = (⟨(spanZ k n 256 x.a x.c).1, x.b, (spanZ k n 256 x.a x.c).2.1, x.d⟩, (spanZ k n 256 x.a x.c).2.2) := by
  have v := vA_le hv
  unfold areaF
  rw [if_pos rfl, spanF_eq h (by omega)]
abbrev cL (cols : Bool) (k n : Int) : Ad → Ad × Bool := cellF cols ⟨k, n, manyL cols⟩
abbrev aL (cols : Bool) (k n : Int) : ArT → ArT × Bool := areaF cols ⟨k, n, manyL cols⟩
section
variable {cols : Bool} {k p q : Int}
theorem cell_back (h1 : LB (manyL cols) k p) (h2 : LB (manyL cols) k (-p)) (hp : 0 < p) {a : Ad} (hv : validB a.1 a.2 = true) (ho : (cL cols k p a).2 = true) : cL cols k (-p) (cL cols k p a).1 = (a, true) := by
  have hv2 := (lines_roadV h1).cell a hv ho
  have v := validB_le hv
  cases cols
  · have g1 : LB 4096 k p := h1
    have g2 : LB 4096 k (-p) := h2
    show cellF false ⟨k, -p, 4096⟩ (cellF false ⟨k, p, 4096⟩ a).1 = _
    have hv2 : validB (cellF false ⟨k, p, 4096⟩ a).1.1 (cellF false ⟨k, p, 4096⟩ a).1.2 = true := hv2
    rw [cell_f g2 hv2, cell_f g1 hv]
    simp only
    rw [line_back hp (by omega)]
  · have g1 : LB 256 k p := h1
    have g2 : LB 256 k (-p) := h2
    show cellF true ⟨k, -p, 256⟩ (cellF true ⟨k, p, 256⟩ a).1 = _
    have hv2 : validB (cellF true ⟨k, p, 256⟩ a).1.1 (cellF true ⟨k, p, 256⟩ a).1.2 = true := hv2
    rw [cell_t g2 hv2, cell_t g1 hv]
    simp only
    rw [line_back hp (by omega)]
theorem cell_add (h1 : LB (manyL cols) k p) (h2 : LB (manyL cols) k q) (h3 : LB (manyL cols) k (p + q)) (hp : 0 < p) (hq : 0 < q) {a : Ad} (hv : validB a.1 a.2 = true) (ho : (cL cols k p a).2 = true) : cL cols k q (cL cols k p a).1 = cL cols k (p + q) a := by
  have hv2 := (lines_roadV h1).cell a hv ho
  cases cols
  · have g1 : LB 4096 k p := h1
    have g2 : LB 4096 k q := h2
    have g3 : LB 4096 k (p + q) := h3
    show cellF false ⟨k, q, 4096⟩ (cellF false ⟨k, p, 4096⟩ a).1 = cellF false ⟨k, p + q, 4096⟩ a
    have hv2 : validB (cellF false ⟨k, p, 4096⟩ a).1.1 (cellF false ⟨k, p, 4096⟩ a).1.2 = true := hv2
    have ho : (cellF false ⟨k, p, 4096⟩ a).2 = true := ho
    rw [cell_f g1 hv] at ho
    rw [cell_f g2 hv2, cell_f g1 hv, cell_f g3 hv]
    simp only
    rw [line_add hp hq ho]
  · have g1 : LB 256 k p := h1
    have g2 : LB 256 k q := h2
    have g3 : LB 256 k (p + q) := h3
    show cellF true ⟨k, q, 256⟩ (cellF true ⟨k, p, 256⟩ a).1 = cellF true ⟨k, p + q, 256⟩ a
    have hv2 : validB (cellF true ⟨k, p, 256⟩ a).1.1 (cellF true ⟨k, p, 256⟩ a).1.2 = true := hv2
    have ho : (cellF true ⟨k, p, 256⟩ a).2 = true := ho
    rw [cell_t g1 hv] at ho
    rw [cell_t g2 hv2, cell_t g1 hv, cell_t g3 hv]
    simp only
    rw [line_add hp hq ho]
theorem cell_sub (h1 : LB (manyL cols) k (-p)) (h2 : LB (manyL cols) k (-q)) (h3 : LB (manyL cols) k (-p - q)) (hp : 0 < p) (hq : 0 < q) {a : Ad} (hv : validB a.1 a.2 = true) :
    ((cL cols k (-p) a).2 = true → cL cols k (-q) (cL cols k (-p) a).1 = cL cols k (-p - q) a) ∧ (¬ (cL cols k (-p) a).2 = true → ¬ (cL cols k (-p - q) a).2 = true) := by
  have hr := fun ho => (lines_roadV h1).cell a hv ho
  cases cols
  · have g1 : LB 4096 k (-p) := h1
    have g2 : LB 4096 k (-q) := h2
    have g3 : LB 4096 k (-p - q) := h3
    show ((cellF false ⟨k, -p, 4096⟩ a).2 = true → cellF false ⟨k, -q, 4096⟩ (cellF false ⟨k, -p, 4096⟩ a).1 = cellF false ⟨k, -p - q, 4096⟩ a) ∧ (¬ (cellF false ⟨k, -p, 4096⟩ a).2 = true → ¬ (cellF false ⟨k, -p - q, 4096⟩ a).2 = true)
    constructor
    · intro ho
      have hv2 : validB (cellF false ⟨k, -p, 4096⟩ a).1.1 (cellF false ⟨k, -p, 4096⟩ a).1.2 = true := hr ho
      rw [cell_f g1 hv] at ho
      rw [cell_f g2 hv2, cell_f g1 hv, cell_f g3 hv]
      simp only
      rw [line_sub hp hq ho]
    · rw [cell_f g1 hv, cell_f g3 hv]
      exact line_sub_no hp hq
  · have g1 : LB 256 k (-p) := h1
    have g2 : LB 256 k (-q) := h2
    have g3 : LB 256 k (-p - q) := h3
    show ((cellF true ⟨k, -p, 256⟩ a).2 = true → cellF true ⟨k, -q, 256⟩ (cellF true ⟨k, -p, 256⟩ a).1 = cellF true ⟨k, -p - q, 256⟩ a) ∧ (¬ (cellF true ⟨k, -p, 256⟩ a).2 = true → ¬ (cellF true ⟨k, -p - q, 256⟩ a).2 = true)
    constructor
    · intro ho
      have hv2 : validB (cellF true ⟨k, -p, 256⟩ a).1.1 (cellF true ⟨k, -p, 256⟩ a).1.2 = true := hr ho
      rw [cell_t g1 hv] at ho
      rw [cell_t g2 hv2, cell_t g1 hv, cell_t g3 hv]
      simp only
      rw [line_sub hp hq ho]
    · rw [cell_t g1 hv, cell_t g3 hv]
      exact line_sub_no hp hq
/-- An area has none of the last lines. -/
def notLow (cols : Bool) (n : Int) (x : ArT) : Prop := if cols = true then x.c ≤ 256 - n else x.d ≤ 4096 - n
theorem area_back (h1 : LB (manyL cols) k p) (h2 : LB (manyL cols) k (-p)) (hp : 0 < p) {x : ArT} (hv : vA x = true) (hl : notLow cols p x) : (aL cols k p x).2 = true ∧ aL cols k (-p) (aL cols k p x).1 = (x, true) := by
  have v := vA_le hv
  have hr := (lines_roadV h1).area x hv
  cases cols
  · have g1 : LB 4096 k p := h1
    have g2 : LB 4096 k (-p) := h2
    have hl : x.d ≤ 4096 - p := hl
    have e0 : areaF false ⟨k, p, 4096⟩ x = _ := area_f g1 hv
    have ho : (areaF false ⟨k, p, 4096⟩ x).2 = true := by rw [e0, span_ins hp v.2.2.1 hl]
    have hv2 : vA (areaF false ⟨k, p, 4096⟩ x).1 = true := hr ho
    refine ⟨ho, ?_⟩
    show areaF false ⟨k, -p, 4096⟩ (areaF false ⟨k, p, 4096⟩ x).1 = _
    rw [area_f g2 hv2, e0]
    simp only
    rw [span_back hp v.2.2.1 hl]
  · have g1 : LB 256 k p := h1
    have g2 : LB 256 k (-p) := h2
    have hl : x.c ≤ 256 - p := hl
    have e0 : areaF true ⟨k, p, 256⟩ x = _ := area_t g1 hv
    have ho : (areaF true ⟨k, p, 256⟩ x).2 = true := by rw [e0, span_ins hp v.1.2.1 hl]
    have hv2 : vA (areaF true ⟨k, p, 256⟩ x).1 = true := hr ho
    refine ⟨ho, ?_⟩
    show areaF true ⟨k, -p, 256⟩ (areaF true ⟨k, p, 256⟩ x).1 = _
    rw [area_t g2 hv2, e0]
    simp only
    rw [span_back hp v.1.2.1 hl]
theorem area_add (h1 : LB (manyL cols) k p) (h2 : LB (manyL cols) k q) (h3 : LB (manyL cols) k (p + q)) (hp : 0 < p) (hq : 0 < q) {x : ArT} (hv : vA x = true) (hl : notLow cols (p + q) x) : (aL cols k p x).2 = true ∧ aL cols k q (aL cols k p x).1 = aL cols k (p + q) x := by
  have v := vA_le hv
  have hr := (lines_roadV h1).area x hv
  cases cols
  · have g1 : LB 4096 k p := h1
    have g2 : LB 4096 k q := h2
    have g3 : LB 4096 k (p + q) := h3
    have hl : x.d ≤ 4096 - (p + q) := hl
    have e0 : areaF false ⟨k, p, 4096⟩ x = _ := area_f g1 hv
    have ho : (areaF false ⟨k, p, 4096⟩ x).2 = true := by rw [e0, span_ins hp v.2.2.1 (by omega)]
    have hv2 : vA (areaF false ⟨k, p, 4096⟩ x).1 = true := hr ho
    refine ⟨ho, ?_⟩
    show areaF false ⟨k, q, 4096⟩ (areaF false ⟨k, p, 4096⟩ x).1 = areaF false ⟨k, p + q, 4096⟩ x
    rw [area_f g2 hv2, e0, area_f g3 hv]
    simp only
    rw [span_add hp hq v.2.2.1 hl]
  · have g1 : LB 256 k p := h1
    have g2 : LB 256 k q := h2
    have g3 : LB 256 k (p + q) := h3
    have hl : x.c ≤ 256 - (p + q) := hl
    have e0 : areaF true ⟨k, p, 256⟩ x = _ := area_t g1 hv
    have ho : (areaF true ⟨k, p, 256⟩ x).2 = true := by rw [e0, span_ins hp v.1.2.1 (by omega)]
    have hv2 : vA (areaF true ⟨k, p, 256⟩ x).1 = true := hr ho
    refine ⟨ho, ?_⟩
    show areaF true ⟨k, q, 256⟩ (areaF true ⟨k, p, 256⟩ x).1 = areaF true ⟨k, p + q, 256⟩ x
    rw [area_t g2 hv2, e0, area_t g3 hv]
    simp only
    rw [span_add hp hq v.1.2.1 hl]
theorem area_sub (h1 : LB (manyL cols) k (-p)) (h2 : LB (manyL cols) k (-q)) (h3 : LB (manyL cols) k (-p - q)) (hp : 0 < p) (hq : 0 < q) {x : ArT} (hv : vA x = true) :
    ((aL cols k (-p) x).2 = true → aL cols k (-q) (aL cols k (-p) x).1 = aL cols k (-p - q) x) ∧ (¬ (aL cols k (-p) x).2 = true → ¬ (aL cols k (-p - q) x).2 = true) := by
  have v := vA_le hv
  have hr := (lines_roadV h1).area x hv
  cases cols
  · have g1 : LB 4096 k (-p) := h1
    have g2 : LB 4096 k (-q) := h2
    have g3 : LB 4096 k (-p - q) := h3
    have e0 : areaF false ⟨k, -p, 4096⟩ x = _ := area_f g1 hv
    have e3 : areaF false ⟨k, -p - q, 4096⟩ x = _ := area_f g3 hv
    show ((areaF false ⟨k, -p, 4096⟩ x).2 = true → areaF false ⟨k, -q, 4096⟩ (areaF false ⟨k, -p, 4096⟩ x).1 = areaF false ⟨k, -p - q, 4096⟩ x) ∧ (¬ (areaF false ⟨k, -p, 4096⟩ x).2 = true → ¬ (areaF false ⟨k, -p - q, 4096⟩ x).2 = true)
    constructor
    · intro ho
      have hv2 : vA (areaF false ⟨k, -p, 4096⟩ x).1 = true := hr ho
      rw [e0] at ho
      rw [area_f g2 hv2, e0, e3]
      simp only
      rw [span_sub hp hq ho]
    · rw [e0, e3]
      exact span_sub_no hp hq v.2.2.1
  · have g1 : LB 256 k (-p) := h1
    have g2 : LB 256 k (-q) := h2
    have g3 : LB 256 k (-p - q) := h3
    have e0 : areaF true ⟨k, -p, 256⟩ x = _ := area_t g1 hv
    have e3 : areaF true ⟨k, -p - q, 256⟩ x = _ := area_t g3 hv
    show ((areaF true ⟨k, -p, 256⟩ x).2 = true → areaF true ⟨k, -q, 256⟩ (areaF true ⟨k, -p, 256⟩ x).1 = areaF true ⟨k, -p - q, 256⟩ x) ∧ (¬ (areaF true ⟨k, -p, 256⟩ x).2 = true → ¬ (areaF true ⟨k, -p - q, 256⟩ x).2 = true)
    constructor
    · intro ho
      have hv2 : vA (areaF true ⟨k, -p, 256⟩ x).1 = true := hr ho
      rw [e0] at ho
      rw [area_t g2 hv2, e0, e3]
      simp only
      rw [span_sub hp hq ho]
    · rw [e0, e3]
      exact span_sub_no hp hq v.1.2.1
/-! ### a node -/
theorem turnH5 {cG : Ad → Ad × Bool} {aG : ArT → ArT × Bool} {o : Int} {x : Nat} {s : ByteArray} {b : Bool} {f : Int} {r q : RefT} {l : List NodeT} : turnH cG aG (.mk 5 o x s b f r q l) = if (cG r.a).2 = true then .mk 5 o x s b f ⟨(cG r.a).1, r.cf, r.rf⟩ q l else lostT := by rw [turnH, if_pos rfl]
theorem turnH6 {cG : Ad → Ad × Bool} {aG : ArT → ArT × Bool} {o : Int} {x : Nat} {s : ByteArray} {b : Bool} {f : Int} {r q : RefT} {l : List NodeT} : turnH cG aG (.mk 6 o x s b f r q l) = if (aG (arOf r q)).2 = true then .mk 6 o x s b f ⟨((aG (arOf r q)).1.a, (aG (arOf r q)).1.b), r.cf, r.rf⟩ ⟨((aG (arOf r q)).1.c, (aG (arOf r q)).1.d), q.cf, q.rf⟩ l else lostT := by rw [turnH, if_neg (show ¬ (6 : Int) = 5 by decide), if_pos rfl]
theorem turnH_lost (cG : Ad → Ad × Bool) (aG : ArT → ArT × Bool) : turnH cG aG lostT = lostT := turnH_else (by decide) (by decide)
/-- Two roads, one behind the other, at a node, by their cells and areas. -/
theorem head_comp {cG1 cG2 cG3 : Ad → Ad × Bool} {aG1 aG2 aG3 : ArT → ArT × Bool} {x : NodeT} (hk : x.kind = 5 ∨ x.kind = 6)
    (hc : x.kind = 5 → ((cG1 x.ref.a).2 = true → cG2 (cG1 x.ref.a).1 = cG3 x.ref.a) ∧ (¬ (cG1 x.ref.a).2 = true → ¬ (cG3 x.ref.a).2 = true))
    (ha : x.kind = 6 → ((aG1 (arOf x.ref x.to)).2 = true → aG2 (aG1 (arOf x.ref x.to)).1 = aG3 (arOf x.ref x.to)) ∧ (¬ (aG1 (arOf x.ref x.to)).2 = true → ¬ (aG3 (arOf x.ref x.to)).2 = true)) :
    turnH cG2 aG2 (turnH cG1 aG1 x) = turnH cG3 aG3 x := by
  obtain ⟨k, o, y, s, b, f, r, q, l⟩ := x
  rcases hk with e | e
  · have e : k = 5 := e
    subst e
    obtain ⟨h1, h2⟩ := hc rfl
    simp only [NodeT.ref] at h1 h2
    rw [turnH5, turnH5]
    by_cases ho : (cG1 r.a).2 = true
    · rw [if_pos ho, turnH5]
      simp only
      rw [h1 ho]
    · rw [if_neg ho, if_neg (h2 ho), turnH_lost]
  · have e : k = 6 := e
    subst e
    obtain ⟨h1, h2⟩ := ha rfl
    simp only [NodeT.ref, NodeT.to] at h1 h2
    rw [turnH6, turnH6]
    by_cases ho : (aG1 (arOf r q)).2 = true
    · rw [if_pos ho, turnH6]
      have ee : arOf ⟨((aG1 (arOf r q)).1.a, (aG1 (arOf r q)).1.b), r.cf, r.rf⟩ ⟨((aG1 (arOf r q)).1.c, (aG1 (arOf r q)).1.d), q.cf, q.rf⟩ = (aG1 (arOf r q)).1 := rfl
      rw [ee, h1 ho]
    · rw [if_neg ho, if_neg (h2 ho), turnH_lost]
theorem low_not {n : Int} {x : NodeT} (hk : x.kind = 6) (h : lowN cols n x = false) : notLow cols n (arOf x.ref x.to) := by
  unfold lowN at h
  unfold notLow
  rw [hk] at h
  cases cols
  · simp at h; simp only [Bool.false_eq_true, if_false]; exact h
  · simp at h; simp only [if_true]; exact h
theorem lost_ref {cG : Ad → Ad × Bool} {aG : ArT → ArT × Bool} {x : NodeT} (hk : x.kind = 5) (h : lostH cG aG x = false) : (cG x.ref.a).2 = true := by
  unfold lostH at h
  rw [hk] at h
  simpa using h
end
/-! ### the laws -/
theorem okCt_of {g : PG} (h : GOk g) : ∀ x ∈ g, okCt x.2 := fun x hx => ⟨(h.each x hx).2.1, (h.each x hx).2.2.1, (h.each x hx).2.2.2.1⟩
theorem low_all {cols : Bool} {n : Int} {g : PG} (h : lowP cols n g = false) : ∀ x ∈ g, ∀ y ∈ flatT x.2.t, lowN cols n y = false := fun x hx y hy => by
  unfold lowP at h
  have := List.any_eq_false.1 h x hx
  unfold lowT at this
  exact Bool.eq_false_iff.2 (fun e => this (List.any_eq_true.2 ⟨y, hy, e⟩))
mutual
theorem flatN_len {cG : Ad → Ad × Bool} {aG : ArT → ArT × Bool} : ∀ (t : NodeT) (ins : Bool), faultT t ins = 0 → (flatT (turnT cG aG t)).length = (flatT t).length
  | .mk k o x s b f r q l, ins, h => by
    rcases fault_cases h with ⟨_, rfl, _⟩ | ⟨h5, h6, hL⟩
    · rw [turn_leaf (t := .mk k o x s b f r q []) rfl, flatT_eq, turnH_noargs rfl, flatT]; rfl
    · rw [turnT, turnH_else h5 h6, flatT, flatT, List.length_cons, List.length_cons, flatNL_len l _ hL]
theorem flatNL_len {cG : Ad → Ad × Bool} {aG : ArT → ArT × Bool} : ∀ (l : List NodeT) (c : Bool), faultL l c = 0 → (flatL (turnL cG aG l)).length = (flatL l).length
  | [], _, _ => rfl
  | t :: l, c, h => by
    obtain ⟨h1, h2⟩ := faultL_cons h
    rw [turnL, flatL, flatL, List.length_append, List.length_append, flatN_len t c h1, flatNL_len l c h2]
end
theorem contG_flat {cG : Ad → Ad × Bool} {aG : ArT → ArT × Bool} {c : ContT} (h : okCt c) : (flatT (contG cG aG c).t).length ≤ (flatT c.t).length := by
  unfold contG
  by_cases hk : c.kind = 2
  · rw [if_pos hk]
    show (flatT (turnT cG aG (copyT c.t))).length ≤ _
    rw [h.copyT, flatN_len c.t false (h.fault hk)]
    exact Nat.le_refl _
  · rw [if_neg hk]; exact Nat.le_refl _
section
variable {cols : Bool} {k p q : Int} {g : PG}
theorem back_law (h1 : LB (manyL cols) k p) (h2 : LB (manyL cols) k (-p)) (hp : 0 < p) (hg : GOk g) (hs : goStop (cL cols k p) p g = false) (hl : lostP (goP (cL cols k p) (aL cols k p) g) = lostP g) (hw : lowP cols p g = false) :
    goP (cL cols k (-p)) (aL cols k (-p)) (goP (cL cols k p) (aL cols k p) g) = g := by
  have ha := goStop_all hs hp
  have hlost := (lostP_goP (fun x hx => ⟨okCt_of hg x hx, ha x hx⟩)).2 hl
  have e := goP_comp (cG2 := cL cols k (-p)) (aG2 := aL cols k (-p)) (cG1 := cL cols k p) (aG1 := aL cols k p) (cG3 := cI) (aG3 := aI) (l := g) (fun x hx => ⟨fun ho => ⟨cell_back h1 h2 hp (hg.each x hx).1 ho, contG_comp (okCt_of hg x hx) (fun hk y hy h56 => ?_)⟩, fun ho => absurd (ha x hx) ho⟩)
  · rw [e]; exact goP_id (okCt_of hg)
  · have ok := flat_okN x.2.t false ((okCt_of hg x hx).fault hk) y hy
    refine head_comp h56 (fun e5 => ?_) (fun e6 => ?_)
    · have ho := lost_ref e5 (hlost x hx y hy)
      exact ⟨fun _ => cell_back h1 h2 hp (ok.1 e5) ho, fun hn => absurd ho hn⟩
    · obtain ⟨a1, a2⟩ := area_back h1 h2 hp (ok.2 e6) (low_not e6 (low_all hw x hx y hy))
      exact ⟨fun _ => a2, fun hn => absurd a1 hn⟩
theorem add_law (h1 : LB (manyL cols) k p) (h2 : LB (manyL cols) k q) (h3 : LB (manyL cols) k (p + q)) (hp : 0 < p) (hq : 0 < q) (hg : GOk g) (hs : goStop (cL cols k p) p g = false) (hs3 : goStop (cL cols k (p + q)) (p + q) g = false) (hl : lostP (goP (cL cols k (p + q)) (aL cols k (p + q)) g) = lostP g) (hw : lowP cols (p + q) g = false) :
    goP (cL cols k q) (aL cols k q) (goP (cL cols k p) (aL cols k p) g) = goP (cL cols k (p + q)) (aL cols k (p + q)) g := by
  have ha := goStop_all hs hp
  have ha3 := goStop_all hs3 (by omega)
  have hlost := (lostP_goP (fun x hx => ⟨okCt_of hg x hx, ha3 x hx⟩)).2 hl
  refine goP_comp (fun x hx => ⟨fun ho => ⟨cell_add h1 h2 h3 hp hq (hg.each x hx).1 ho, contG_comp (okCt_of hg x hx) (fun hk y hy h56 => ?_)⟩, fun ho => absurd (ha x hx) ho⟩)
  have ok := flat_okN x.2.t false ((okCt_of hg x hx).fault hk) y hy
  refine head_comp h56 (fun e5 => ?_) (fun e6 => ?_)
  · have ho3 := lost_ref e5 (hlost x hx y hy)
    have ho : (cL cols k p y.ref.a).2 = true := by
      have v := ok.1 e5
      cases cols
      · have g1 : LB 4096 k p := h1
        have g3 : LB 4096 k (p + q) := h3
        have ho3 : (cellF false ⟨k, p + q, 4096⟩ y.ref.a).2 = true := ho3
        show (cellF false ⟨k, p, 4096⟩ y.ref.a).2 = true
        rw [cell_f g3 v] at ho3
        rw [cell_f g1 v]
        exact line_ok_add hp hq ho3
      · have g1 : LB 256 k p := h1
        have g3 : LB 256 k (p + q) := h3
        have ho3 : (cellF true ⟨k, p + q, 256⟩ y.ref.a).2 = true := ho3
        show (cellF true ⟨k, p, 256⟩ y.ref.a).2 = true
        rw [cell_t g3 v] at ho3
        rw [cell_t g1 v]
        exact line_ok_add hp hq ho3
    exact ⟨fun _ => cell_add h1 h2 h3 hp hq (ok.1 e5) ho, fun hn => absurd ho hn⟩
  · obtain ⟨a1, a2⟩ := area_add h1 h2 h3 hp hq (ok.2 e6) (low_not e6 (low_all hw x hx y hy))
    exact ⟨fun _ => a2, fun hn => absurd a1 hn⟩
theorem sub_law (h1 : LB (manyL cols) k (-p)) (h2 : LB (manyL cols) k (-q)) (h3 : LB (manyL cols) k (-p - q)) (hp : 0 < p) (hq : 0 < q) (hg : GOk g) :
    goP (cL cols k (-q)) (aL cols k (-q)) (goP (cL cols k (-p)) (aL cols k (-p)) g) = goP (cL cols k (-p - q)) (aL cols k (-p - q)) g := by
  refine goP_comp (fun x hx => ?_)
  obtain ⟨c1, c2⟩ := cell_sub h1 h2 h3 hp hq (hg.each x hx).1
  refine ⟨fun ho => ⟨c1 ho, contG_comp (okCt_of hg x hx) (fun hk y hy h56 => ?_)⟩, c2⟩
  have ok := flat_okN x.2.t false ((okCt_of hg x hx).fault hk) y hy
  exact head_comp h56 (fun e5 => cell_sub h1 h2 h3 hp hq (ok.1 e5)) (fun e6 => area_sub h1 h2 h3 hp hq (ok.2 e6))
theorem stop_law (h1 : LB (manyL cols) k p) (h2 : LB (manyL cols) k q) (h3 : LB (manyL cols) k (p + q)) (hp : 0 < p) (hq : 0 < q) (hg : GOk g) (hs : goStop (cL cols k p) p g = false) :
    goStop (cL cols k q) q (goP (cL cols k p) (aL cols k p) g) = goStop (cL cols k (p + q)) (p + q) g := by
  have ha := goStop_all hs hp
  unfold goStop
  rw [Bool.eq_iff_iff, List.any_eq_true, List.any_eq_true]
  constructor
  · rintro ⟨y, hy, h⟩
    obtain ⟨x, hx, rfl⟩ := List.mem_map.1 hy
    obtain ⟨hx, _⟩ := List.mem_filter.1 hx
    simp only at h
    rw [cell_add h1 h2 h3 hp hq (hg.each x hx).1 (ha x hx)] at h
    simp only [Bool.and_eq_true] at h
    refine ⟨x, hx, ?_⟩
    rw [h.1, decide_eq_true (by omega)]; rfl
  · rintro ⟨x, hx, h⟩
    simp only [Bool.and_eq_true] at h
    refine ⟨_, List.mem_map.2 ⟨x, List.mem_filter.2 ⟨hx, ha x hx⟩, rfl⟩, ?_⟩
    simp only
    rw [cell_add h1 h2 h3 hp hq (hg.each x hx).1 (ha x hx), h.1, decide_eq_true hq]; rfl
theorem len_law {cG : Ad → Ad × Bool} {aG : ArT → ArT × Bool} (ha : ∀ x ∈ g, (cG x.1).2 = true) : (goP cG aG g).length = g.length := by
  unfold goP
  rw [List.length_map, List.filter_eq_self.2 ha]
theorem back_all (h1 : LB (manyL cols) k p) (h2 : LB (manyL cols) k (-p)) (hp : 0 < p) (hg : GOk g) (ha : ∀ x ∈ g, (cL cols k p x.1).2 = true) : ∀ y ∈ goP (cL cols k p) (aL cols k p) g, (cL cols k (-p) y.1).2 = true := fun y hy => by
  obtain ⟨x, hx, rfl⟩ := List.mem_map.1 hy
  obtain ⟨hx, _⟩ := List.mem_filter.1 hx
  simp only
  rw [cell_back h1 h2 hp (hg.each x hx).1 (ha x hx)]
theorem contG_1 {cG : Ad → Ad × Bool} {aG : ArT → ArT × Bool} {c : ContT} (hk : c.kind = 1) : contG cG aG c = c := by unfold contG; rw [if_neg (by omega)]
theorem kind_law (h1 : LB (manyL cols) k p) (h2 : LB (manyL cols) k (-p)) (hp : 0 < p) (hg : GOk g) (ha : ∀ x ∈ g, (cL cols k p x.1).2 = true) {x : Ad × ContT} (hx : x ∈ g) :
    ∃ c, lkM x.1 (goP (cL cols k (-p)) (aL cols k (-p)) (goP (cL cols k p) (aL cols k p) g)) = some c ∧ c.kind = x.2.kind ∧ (x.2.kind = 1 → c = x.2) := by
  have hA := goP_ok (lines_roadV h1) (lines_monoC h1) hg
  have hm : ((cL cols k p x.1).1, contG (cL cols k p) (aL cols k p) (copyC x.2)) ∈ goP (cL cols k p) (aL cols k p) g := List.mem_map.2 ⟨x, List.mem_filter.2 ⟨hx, ha x hx⟩, rfl⟩
  have hb := cell_back h1 h2 hp (hg.each x hx).1 (ha x hx)
  have h : lkM (cL cols k (-p) (cL cols k p x.1).1).1 (goP (cL cols k (-p)) (aL cols k (-p)) (goP (cL cols k p) (aL cols k p) g)) = some (contG (cL cols k (-p)) (aL cols k (-p)) (contG (cL cols k p) (aL cols k p) (copyC x.2))) :=
    goP_get (lines_roadV h2) (lines_monoC h2) hA hm (by show (cL cols k (-p) (cL cols k p x.1).1).2 = true; rw [hb])
  rw [hb] at h
  refine ⟨_, h, ?_, fun hk => ?_⟩
  · rw [contG_kind, contG_kind]; rfl
  · have e : copyC x.2 = x.2 := (hg.each x hx).2.2.2.1
    rw [e, contG_1 hk, contG_1 hk]
theorem bulk_go {cG : Ad → Ad × Bool} {aG : ArT → ArT × Bool} (hg : GOk g) (h : BulkP g) : BulkP (goP cG aG g) := fun y hy => by
  obtain ⟨x, hx, rfl⟩ := List.mem_map.1 hy
  obtain ⟨hx, _⟩ := List.mem_filter.1 hx
  simp only
  rw [(hg.each x hx).2.2.2.1]
  exact Nat.le_trans (contG_flat (okCt_of hg x hx)) (h x hx)
end
end Go.Proofs.YtdoeejhdenifpaaGreatDoor
