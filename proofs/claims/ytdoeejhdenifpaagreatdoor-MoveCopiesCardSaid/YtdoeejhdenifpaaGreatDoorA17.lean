import Derived.Test.YtdoeejhdenifpaaGreatDoorZ1
import Derived.Test.YtdoeejhdenifpaaGreatDoorW45
import Derived.Test.YtdoeejhdenifpaaGreatDoorA8
import Derived.Test.YtdoeejhdenifpaaGreatDoorA13
import Derived.Test.YtdoeejhdenifpaaGreatDoorA16
import Derived.Test.YtdoeejhdenifpaaGreatDoorA7
import Derived.Deep.MidRow
import Derived.Sort.CutIn
import Derived.Test.YtdoeejhdenifpaaGreatDoorA15
import Derived.Test.YtdoeejhdenifpaaGreatDoorM9
import Derived.RangeFuncWrites
import Derived.StillTailTactics
import Derived.Test.YtdoeejhdenifpaaGreatDoorA12
import Derived.Test.YtdoeejhdenifpaaGreatDoorR6
/- Plain grids; what a copy has is valid as what it was copied from. -/
namespace Go.Proofs.YtdoeejhdenifpaaGreatDoor
open Go.RowKit Go.Sort
theorem sameCB_refl (c : ContT) : sameCB c c = true := (sameCB_iff _ _).2 rfl
end Go.Proofs.YtdoeejhdenifpaaGreatDoor
/- quadrillelaw22.known: a formula goes along with a row (made by mkm11.py). -/
namespace Go.Proofs.YtdoeejhdenifpaaGreatDoor
open Go.RowKit Go.Sort
def kPlain : ContT := ⟨1, ⟨1, 4619567317775286272, ⟨#[]⟩, false, 0⟩, zeroC.t⟩
def kForm : ContT := ⟨2, zeroC.v, refT (1, 1)⟩
def kGrid : PG := putP (putP [] (1, 1) kPlain) (2, 1) kForm
def kOut : PG := goAll (cellF false ⟨1, 2, 4096⟩) (areaF false ⟨1, 2, 4096⟩) kGrid
theorem kPlain_ok : kPlain.ok := by simp [ContT.ok, kPlain, zeroC, NodeT.ok, okL, ByteArray.size]
theorem kForm_ok : kForm.ok := by simp [ContT.ok, kForm, refT, zeroC, NodeT.ok, okL, ByteArray.size]
theorem k_code1 : codeP [] (1, 1) kPlain = 0 := by kernel_rfl
theorem k_code2 : codeP (putP [] (1, 1) kPlain) (2, 1) kForm = 0 := by kernel_rfl
theorem k_stop : goStop (cellF false ⟨1, 2, 4096⟩) 2 kGrid = false := by kernel_rfl
theorem k_made : (madeL (manyL false) 1 2).2 = true := by kernel_rfl
theorem k_len : kOut.length = 2 := by kernel_rfl
theorem k_at : ((lkM (2, 3) kOut).getD zeroC).kind = 2 ∧ ((lkM (2, 3) kOut).getD zeroC).t.ref.a = (1, 3) := ⟨by kernel_rfl, by kernel_rfl⟩
theorem k_x : oneX ((lkM (1, 3) kOut).getD zeroC).v.x = 4619567317775286272 := by kernel_rfl
theorem er_getD (a : Ad) (M : GM) : ((lkM a M).getD (zeroC, none)).1 = (lkM a (er M)).getD zeroC := by rw [er_lk]; cases lkM a M <;> rfl
theorem k_keep {w w' : World} {b : Nat} {u v x : Value} (h : w.cell? ⟨b, 0, none⟩ = some u ∧ w.cell? ⟨b, 12, none⟩ = some v ∧ w.cell? ⟨b, 13, none⟩ = some x) (hx : Xt w w') : w'.cell? ⟨b, 0, none⟩ = some u ∧ w'.cell? ⟨b, 12, none⟩ = some v ∧ w'.cell? ⟨b, 13, none⟩ = some x := ⟨hx.cellsIn _ _ _ h.1, hx.cellsIn _ _ _ h.2.1, hx.cellsIn _ _ _ h.2.2⟩
@[go_sem] theorem run_field_cv (y : ContT) (a : Option Addr) (n m : Nat) (w : World) : (Instr.field 51 (contV y a n m) 1).run Tryz.prog w = .ok (.agg #[.int .i64 y.v.kind, .float .f64 y.v.x, .string y.v.s, .bool y.v.b, .int .i64 y.v.f]) w := by
 have u := run_underlying Tryz.underlying51
 have u2 := run_underlying Tryz.underlying44
 simp [Instr.field, u, part, asAgg]
theorem float7 : FloatKind.f64.format.order 4619567317775286272 4619567317775286272 = some Ordering.eq := by decide +kernel
theorem kPlain_small : smallT kPlain.t := by simp [kPlain, zeroC, smallT, smallL]
theorem kForm_small : smallT kForm.t := by simp [kForm, refT, smallT, smallL]
theorem args_nil {w : World} : ArgsIn w 0 (.slice none 0 0) [] := ⟨rfl, none, 0, rfl, by omega⟩
theorem k_alloc2 {w w' : World} {a b : Obj} (h : w' = (w.alloc a).alloc b) : Xt w w' := by rw [h]; exact ((Xt.refl _).alloc _).alloc _
theorem k_alloc1 {w w' : World} {a : Obj} (h : w' = w.alloc a) : Xt w w' := by rw [h]; exact (Xt.refl _).alloc _
theorem kGrid_ok : GOk kGrid := (GOk.nil.put _ kPlain_ok).put _ kForm_ok
theorem k_rows (gb mb : Nat) (M : GM) (hM : er M = kGrid) (w : World) (hG : GridIs w gb mb M) (hT : Tabs w) :
    Calls Tryz.prog 33 #[.pointer (some ⟨gb, 0, none⟩), .int .i64 1, .int .i64 2] w fun e w' => ∃ go mo Mo, e = .returned (.tuple #[.pointer (some ⟨go, 0, none⟩), .int .i64 0]) ∧ GridIs w' go mo Mo ∧ er Mo = kOut ∧ Xt w w' :=
 (rows_any 1 2 gb mb M w hG hT (hM ▸ kGrid_ok)).mono fun e w' h => by
  obtain ⟨hx, (⟨h1, _⟩ | ⟨_, (⟨h2, _⟩ | ⟨_, go, mo, Mo, rfl, h3, h4, _⟩)⟩)⟩ := h
  · rw [k_made] at h1; cases h1
  · rw [hM] at h2; exact absurd (k_stop.symm.trans h2) (by decide)
  · rw [hM] at h4; exact ⟨go, mo, Mo, rfl, h3, h4, hx⟩
set_option maxRecDepth 100000 in
set_option maxHeartbeats 4000000 in
theorem known_any (w : World) (hT : Tabs w) : Calls Tryz.prog 9 #[] w fun e w' => e = .returned (.bool true) ∧ Xt w w' := by
 have HT := Lib.hid hT
 have hq2 := fun w f lb => run_eql_func_nil (P := Tryz.prog) w 75 _ _ _ (.func f) #[] lb Tryz.underlying75
 have hqn := fun w f lb => run_eql_func_nil (P := Tryz.prog) w 85 _ _ _ (.func f) #[] lb Tryz.underlying85
 have hqa := fun w f lb => run_eql_func_nil (P := Tryz.prog) w 39 _ _ _ (.func f) #[] lb Tryz.underlying39
 clear hT
 go_enter Tryz.func9, Tryz.ntmps9
 have hm1 : True := trivial
 have hm2 : True := trivial
 go_wp2_with (first
  | (go_at_call 35; refine (gnew_any _).mono ?_; rintro e w1 ⟨rfl, hG1, hg1⟩; have HX := Lib.hid hg1.xt; have HG := Lib.hid hG1; clear hg1 hG1)
  | (go_at_call 14; refine (at_any (_, _) _).mono ?_; rintro e w2 ⟨rfl, hg2⟩; have HX := Lib.hid (HX.out.trans hg2.xt); have HG := Lib.hid (HG.out.xt hg2.xt); clear hg2)
  | (go_at_call 36; refine (ref_any (_, _) _).mono ?_; rintro e w2 ⟨rfl, hg2⟩; have HX := Lib.hid (HX.out.trans hg2); have HG := Lib.hid (HG.out.xt hg2); clear hg2)
  | (go_at_call 25; have hm0 := hm1; clear hm1 hm0; refine (gput_any 0 _ _ [] (1, 1) kPlain none 0 _ HG.out kPlain_ok (HT.out.xt HX.out) kPlain_small args_nil).mono ?_; rintro e w3 ⟨zp, rfl, hG3, hg3⟩; rw [show putCode ([] : GM) (1, 1) kPlain = 0 from (er_code _ _ _).trans k_code1]; have HX := Lib.hid (HX.out.grownB hg3 (fun q hq => by cases hq; exact Nat.le_refl _)); have HG := Lib.hid hG3; clear hG3 hg3)
  | (go_at_call 25; have hm0 := hm2; clear hm2 hm0; refine (gput_any 0 _ _ (putTo [] (1, 1) kPlain zp) (2, 1) kForm none 0 _ HG.out kForm_ok (HT.out.xt HX.out) kForm_small args_nil).mono ?_; rintro e w4 ⟨zq, rfl, hG3, hg3⟩; rw [show putCode (putTo ([] : GM) (1, 1) kPlain zp) (2, 1) kForm = 0 from (er_code _ _ _).trans (by rw [er_put]; exact k_code2)]; have HX := Lib.hid (HX.out.grownB hg3 (fun q hq => by cases hq; exact Nat.le_refl _)); have HG := Lib.hid hG3; clear hG3 hg3)
  | (go_at_call 33; refine (k_rows _ _ _ (by rw [er_put, er_put]; rfl) _ HG.out (HT.out.xt HX.out)).mono ?_; rintro e w5 ⟨go, mo, Mo, rfl, hG5, hE5, hx5⟩; have HX := Lib.hid (HX.out.trans hx5); have HG := Lib.hid hG5; have HE := Lib.hid hE5; have hlen : (Mo.length : Int) = 2 := (by rw [← er_len, hE5, k_len]; rfl); clear hG5 hE5 hx5)
  | (go_at_call 19; refine (glen_any _ _ _ _ HG.out).mono ?_; rintro e w6 ⟨rfl, rfl⟩; rw [hlen])
  | (go_at_call 37; refine ((callsIn_wide (n := 20)).1 (all_in 20 (by omega) _ _)).mono ?_; rintro e w6 ⟨rfl, hw6⟩; have hx6 := k_alloc2 hw6; have HX := Lib.hid (HX.out.trans hx6); have HG := Lib.hid (HG.out.xt hx6); clear hx6 hw6)
  | (go_at_call 38; refine (nodes_any 0 (refT (1, 1)) none 0 _ kForm_small args_nil).mono ?_; rintro e w6 ⟨bn, an, nn, rfl, _, _, _, hx6⟩; have HX := Lib.hid (HX.out.trans hx6); have HG := Lib.hid (HG.out.xt hx6); clear hx6)
  | (go_at_call 39; refine (cells_any ⟨_, _, _, _⟩ _).mono ?_; rintro e w6 ⟨rfl, hw6⟩; have hx6 := k_alloc1 hw6; have HX := Lib.hid (HX.out.trans hx6); have HG := Lib.hid (HG.out.xt hx6); clear hx6 hw6)
  | (go_at_call 15; refine (gget_any _ _ _ (2, 3) _ HG.out).mono ?_; rintro e w7 ⟨n7, a7, rfl, hA7, hx7⟩; obtain ⟨z, hz1, hz2⟩ : ∃ z : CE, z.1 = copyC ((lkM (2, 3) Mo).getD (zeroC, none)).1 ∧ z.2 = a7 := ⟨(_, _), rfl, rfl⟩; have hzv : copyCV ((lkM (2, 3) Mo).getD (zeroC, none)).1 a7 = ceV z := (by rw [← ceV_copy]; obtain ⟨z1, z2⟩ := z; simp only at hz1 hz2; rw [hz1, hz2]); rw [hzv]; have HZ : Hid (z.1.kind = 2 ∧ z.1.t.ref.a = (1, 3)) := (by unfold Hid; rw [hz1, er_getD, HE.out]; exact ⟨k_at.1, (congrArg RefT.a (copyT_ref _)).trans k_at.2⟩); have HX := Lib.hid (HX.out.trans hx7); have HG := Lib.hid (HG.out.xt hx7); obtain ⟨wZ, wR, hwZ, hwR, hrZ, hrR, hxR, hsR, hxZ, hsZ⟩ := boxR w7 z; have HX := Lib.hid (HX.out.trans hxR); have HG := Lib.hid (HG.out.xt hxR); have HRZ := Lib.hid hrZ; have HRR := Lib.hid hrR; have HWR := Lib.hid hwR; clear hrZ hwR hrR hxR hxZ hA7 hx7 hzv hz1 hz2)
  | (refine wpList_store_row (P := Tryz.prog) rfl 51 _ _ rfl w7.heap.size #[.int .i64 z.1.kind, .int .i64 z.1.v.kind, .float .f64 z.1.v.x, .string z.1.v.s, .bool z.1.v.b, .int .i64 z.1.v.f, .int .i64 z.1.t.kind, .int .i64 z.1.t.op, .float .f64 z.1.t.x, .string z.1.t.s, .bool z.1.t.b, .int .i64 z.1.t.f, .int .i64 z.1.t.ref.a.1, .int .i64 z.1.t.ref.a.2, .bool z.1.t.ref.cf, .bool z.1.t.ref.rf, .int .i64 z.1.t.to.a.1, .int .i64 z.1.t.to.a.2, .bool z.1.t.to.cf, .bool z.1.t.to.rf, .slice z.2 z.1.t.args.length z.1.t.args.length] rfl rfl 51 _ HRZ.out (by kernel_rfl) rfl (by simp [Value.oneCell']) ?_; rw [HWR.out]))
 have HH0 : Hid (wR.drew.cell? ⟨w7.heap.size, 0, none⟩ = some (.int .i64 2) ∧ wR.drew.cell? ⟨w7.heap.size, 12, none⟩ = some (.int .i64 1) ∧ wR.drew.cell? ⟨w7.heap.size, 13, none⟩ = some (.int .i64 3)) := by
  have h : wR.drew.heap[w7.heap.size]? = _ := HRR.out
  have h1 := HZ.out.1
  have h2 := congrArg Prod.fst HZ.out.2
  have h3 := congrArg Prod.snd HZ.out.2
  simp only at h2 h3
  refine ⟨?_, ?_, ?_⟩ <;> simp [World.cell?, h, h1, h2, h3]
 have HX := Lib.hid (HX.out.trans (Xt.refl wR).drew)
 have HG := Lib.hid (HG.out.xt (Xt.refl wR).drew)
 refine wp_region_held_drew (S := fun V => V.cell? ⟨w7.heap.size, 0, none⟩ = some (.int .i64 2) ∧ V.cell? ⟨w7.heap.size, 12, none⟩ = some (.int .i64 1) ∧ V.cell? ⟨w7.heap.size, 13, none⟩ = some (.int .i64 3)) (by kernel_rfl) HH0.out (fun hHeld => ?_)
 refine tkH 0 ?_ ?_ ?_
 rotate_left
 · intro V hSw; (try dsimp only at hSw); obtain ⟨u0, u1, u2⟩ := hSw; go_simp; first | done | with_reducible rfl
 try simp only [Act.put, nm]
 refine tkH 1 ?_ ?_ ?_
 rotate_left
 · intro V hSw; (try dsimp only at hSw); obtain ⟨u0, u1, u2⟩ := hSw; go_simp; first | done | with_reducible rfl
 try simp only [Act.put, nm]
 refine tkH 2 ?_ ?_ ?_
 rotate_left
 · intro V hSw; (try dsimp only at hSw); obtain ⟨u0, u1, u2⟩ := hSw; go_simp; first | done | with_reducible rfl
 try simp only [Act.put, nm]
 refine tkH 3 ?_ ?_ ?_
 rotate_left
 · intro V hSw; (try dsimp only at hSw); obtain ⟨u0, u1, u2⟩ := hSw; go_simp; first | done | with_reducible rfl
 try simp only [Act.put, nm]
 refine tkH 4 ?_ ?_ ?_
 rotate_left
 · intro V hSw; (try dsimp only at hSw); obtain ⟨u0, u1, u2⟩ := hSw; go_simp; first | done | with_reducible rfl
 try simp only [Act.put, nm]
 refine tkH 5 ?_ ?_ ?_
 rotate_left
 · intro V hSw; (try dsimp only at hSw); obtain ⟨u0, u1, u2⟩ := hSw; go_simp; first | done | with_reducible rfl
 try simp only [Act.put, nm]
 refine tkH 6 ?_ ?_ ?_
 rotate_left
 · intro V hSw; (try dsimp only at hSw); obtain ⟨u0, u1, u2⟩ := hSw; go_simp; first | done | with_reducible rfl
 try simp only [Act.put, nm]
 refine tkH 7 ?_ ?_ ?_
 rotate_left
 · intro V hSw; (try dsimp only at hSw); obtain ⟨u0, u1, u2⟩ := hSw; go_simp; first | done | with_reducible rfl
 try simp only [Act.put, nm]
 refine rdH 8 (fun K hK => ?_)
 go_simp
 refine (at_any (_, _) _).mono ?_
 rintro e v1 ⟨rfl, hg⟩
 have HHv1 := Lib.hid (k_keep HH0.out hg.xt)
 have HX := Lib.hid (HX.out.trans hg.xt)
 have HG := Lib.hid (HG.out.xt hg.xt)
 refine hK.out _ _ HHv1.out (fun hHeldv1 => ?_)
 clear hg
 clear hK K
 refine tkH 9 (.bool true) ?_ ?_
 · intro V hSw; (try dsimp only at hSw); obtain ⟨u0, u1, u2⟩ := hSw; go_simp; first | done | with_reducible rfl | (simp [eqAd2])
 try simp only [Act.put, nm]
 refine tkH 10 ?_ ?_ ?_
 rotate_left
 · intro V hSw; (try dsimp only at hSw); obtain ⟨u0, u1, u2⟩ := hSw; go_simp; first | done | with_reducible rfl
 try simp only [Act.put, nm]
 refine tkH 11 ?_ ?_ ?_
 rotate_left
 · intro V hSw; (try dsimp only at hSw); obtain ⟨u0, u1, u2⟩ := hSw; go_simp; first | done | with_reducible rfl
 try simp only [Act.put, nm]
 refine tkH 12 ?_ ?_ ?_
 rotate_left
 · intro V hSw; (try dsimp only at hSw); obtain ⟨u0, u1, u2⟩ := hSw; go_simp; first | done | with_reducible rfl
 try simp only [Act.put, nm]
 refine rdH 13 (fun K hK => ?_)
 go_simp
 refine (at_any (_, _) _).mono ?_
 rintro e v2 ⟨rfl, hg⟩
 have HHv2 := Lib.hid (k_keep HHv1.out hg.xt)
 have HX := Lib.hid (HX.out.trans hg.xt)
 have HG := Lib.hid (HG.out.xt hg.xt)
 refine hK.out _ _ HHv2.out (fun hHeldv2 => ?_)
 clear hg
 clear hK K
 refine rdH 14 (fun K hK => ?_)
 go_simp
 refine (gget_any _ _ _ (1, 3) _ HG.out).mono ?_
 rintro e v3 ⟨n8, a8, rfl, hA8, hx8⟩
 obtain ⟨y, hy⟩ : ∃ y : ContT, copyC ((lkM (1, 3) Mo).getD (zeroC, none)).1 = y := ⟨_, rfl⟩
 have hyx : y.v.x = 4619567317775286272 := by rw [← hy, er_getD, HE.out]; exact k_x
 have HHv3 := Lib.hid (k_keep HHv2.out hx8)
 have HX := Lib.hid (HX.out.trans hx8)
 simp only [copyCV, hy]
 refine hK.out _ _ HHv3.out (fun hHeldv3 => ?_)
 clear hx8 hA8
 clear hK K
 try simp only [Act.put, nm]
 refine tkH 15 ?_ ?_ ?_
 rotate_left
 · intro V hSw; (try dsimp only at hSw); obtain ⟨u0, u1, u2⟩ := hSw; go_simp; first | done | with_reducible rfl
 try simp only [Act.put, nm]
 refine tkH 16 ?_ ?_ ?_
 rotate_left
 · intro V hSw; (try dsimp only at hSw); obtain ⟨u0, u1, u2⟩ := hSw; go_simp; first | done | with_reducible rfl
 try simp only [Act.put, nm]
 refine tkH 17 (.bool true) ?_ ?_
 · intro V hSw; (try dsimp only at hSw); obtain ⟨u0, u1, u2⟩ := hSw; go_simp; first | done | with_reducible rfl | exact float7
 try simp only [Act.put, nm]
 refine tkH 18 ?_ ?_ ?_
 rotate_left
 · intro V hSw; (try dsimp only at hSw); obtain ⟨u0, u1, u2⟩ := hSw; go_simp; first | done | with_reducible rfl
 try simp only [Act.put, nm]
 refine rdH 19 (fun K hK => ?_)
 go_simp
 refine hK.out _ _ HHv3.out (fun hHeld9 => ?_)
 clear hK K
 refine wpAnyH_done (by kernel_rfl) ?_ _
 go_wp2_with fail
 go_ret
 exact ⟨rfl, HX.out⟩
end Go.Proofs.YtdoeejhdenifpaaGreatDoor
/- Small laws for the walks of quadrillelaw22. -/
namespace Go.Proofs.YtdoeejhdenifpaaGreatDoor
open Go.RowKit Go.Sort Go.Maps Go.Shelf Go.MapKept
attribute [local go_sem] Oper.semAt_some
theorem ArgsIn.upQ {w : World} {n m : Nat} {av : Value} {l : List NodeT} (hm : n ≤ m) (h : ArgsIn w n av l) : ArgsIn w m av l := by
 obtain ⟨k, rfl⟩ := Nat.exists_eq_add_of_le hm
 clear hm
 induction k with
 | zero => exact h
 | succ k ih => exact ih.up
end Go.Proofs.YtdoeejhdenifpaaGreatDoor
/- move.Copy (made by mkt7.py). -/
namespace Go.Proofs.YtdoeejhdenifpaaGreatDoor
open Go.RowKit Go.Sort Go.Maps Go.Shelf Go.MapKept
attribute [local go_sem] Oper.semAt_some
def CopyR (o : Option PG) (w : World) (e : Ending) (w' : World) : Prop :=
 Xt w w' ∧ ((e = .returned (.tuple #[.pointer none, .int .i64 41]) ∧ o = none) ∨ ∃ go mo Mo, e = .returned (.tuple #[.pointer (some ⟨go, 0, none⟩), .int .i64 0]) ∧ GridIs w' go mo Mo ∧ o = some (er Mo) ∧ w.heap.size ≤ mo)
theorem by_mov {cc rr : Int} {a : Ad} (h1 : -9223372036854775808 ≤ cc ∧ cc ≤ 9223372036854775807) (h2 : -9223372036854775808 ≤ rr ∧ rr ≤ 9223372036854775807) : byG a (movG cc rr a) = (cc, rr) := by
 unfold byG movG
 refine Prod.ext ?_ ?_ <;> (simp only; unfold wrap64; omega)
theorem code_41 {P : PG} {y : Ad} {c : ContT} {cc rr : Int} (hv : validB y.1 y.2 = true) (h1 : gvalidB c = true) (h2 : (c.kind == 0) = false) (h : codeP P y (shC cc rr (copyC c)) ≠ 0) : codeP P y (shC cc rr (copyC c)) = 41 := by
 rw [(code_sh cc rr hv h1 h2).1] at h ⊢
 split at h
 · rename_i e; rw [if_pos e]
 · exact absurd rfl h
theorem far_i64 (f : ArT) (g : Ad) : (-9223372036854775808 ≤ farC f g ∧ farC f g ≤ 9223372036854775807) ∧ (-9223372036854775808 ≤ farR f g ∧ farR f g ≤ 9223372036854775807) := by
 unfold farC farR wrap64
 omega
set_option maxRecDepth 100000 in
set_option maxHeartbeats 8000000 in
theorem mcopy_any (f : ArT) (g : Ad) (gl : ArT) (cc rr : Int) (gb mb : Nat) (M : GM) (w : World) (hG : GridIs w gb mb M) (hT : Tabs w) (hO : GOk (er M)) (hv : validA f.a f.b f.c f.d = true) (hv1 : validB g.1 g.2 = true) (hv2 : validB (lastOf f g).1 (lastOf f g).2 = true)
    (hgl : thereA f g = gl) (hcc : farC f g = cc) (hrr : farR f g = rr) (hin : ∀ a, inA f a = true → validB (movG cc rr a).1 (movG cc rr a).2 = true) :
    Calls Tryz.prog 27 #[.pointer (some ⟨gb, 0, none⟩), arT f, .agg #[.int .i64 g.1, .int .i64 g.2]] w fun e w' => CopyR (cpAll (movG cc rr) cc rr (clearP gl (er M)) (inP f (er M))) w e w' := by
 have HG := Lib.hid hG
 have HT := Lib.hid hT
 have HO := Lib.hid hO
 have HINV := Lib.hid hin
 have hglt := hG.lt
 obtain ⟨B, hB⟩ : ∃ B, w.heap.size = B := ⟨_, rfl⟩
 obtain ⟨wx0, hwx0⟩ : ∃ wx0, w.alloc (.cells #[.int .i64 f.a, .int .i64 f.b, .int .i64 f.c, .int .i64 f.d] 26) = wx0 := ⟨_, rfl⟩
 have hswx0 : wx0.heap.size = B + 1 := by rw [← hwx0, ← hB]; simp
 obtain ⟨wx1, hwx1⟩ : ∃ wx1, wx0.alloc (.cells #[.int .i64 g.1, .int .i64 g.2] 24) = wx1 := ⟨_, rfl⟩
 have hswx1 : wx1.heap.size = B + 1 + 1 := by rw [← hwx1]; simp [hswx0]
 obtain ⟨wx2, hwx2⟩ : ∃ wx2, wx1.alloc (.cells #[.pointer none] 29) = wx2 := ⟨_, rfl⟩
 have hswx2 : wx2.heap.size = B + 1 + 1 + 1 := by rw [← hwx2]; simp [hswx1]
 obtain ⟨w0, hw0⟩ : ∃ w0, wx2.alloc (.cells #[.int .i64 0] 35) = w0 := ⟨_, rfl⟩
 have hs0 : w0.heap.size = B + 1 + 1 + 1 + 1 := by rw [← hw0]; simp [hswx2]
 have HX0 : Hid (Xt w w0) := by unfold Hid; rw [← hw0, ← hwx2, ← hwx1, ← hwx0]; exact ((((Xt.refl _).alloc _).alloc _).alloc _).alloc _
 have HR0 : Hid (w0.heap[B]? = some (.cells #[.int .i64 f.a, .int .i64 f.b, .int .i64 f.c, .int .i64 f.d] 26 (0, 0))) := rowX (w := wx0) (by rw [← hw0, ← hwx2, ← hwx1]; exact (((Xt.refl _).alloc _).alloc _).alloc _) (by rw [← hwx0, ← hB]; exact (MapKept.heap_alloc w _).1)
 have HR1 : Hid (w0.heap[B + 1]? = some (.cells #[.int .i64 g.1, .int .i64 g.2] 24 (0, 0))) := rowX (w := wx1) (by rw [← hw0, ← hwx2]; exact ((Xt.refl _).alloc _).alloc _) (by rw [← hwx1, ← hswx0]; exact (MapKept.heap_alloc wx0 _).1)
 have HR2 : Hid (w0.heap[B + 1 + 1]? = some (.cells #[.pointer none] 29 (0, 0))) := rowX (w := wx2) (by rw [← hw0]; exact (Xt.refl _).alloc _) (by rw [← hwx2, ← hswx1]; exact (MapKept.heap_alloc wx1 _).1)
 have HR3 : Hid (w0.heap[B + 1 + 1 + 1]? = some (.cells #[.int .i64 0] 35 (0, 0))) := by unfold Hid; rw [← hw0, ← hswx2]; exact (MapKept.heap_alloc wx2 _).1
 have HVA := Lib.hid (fun V => validArea_any f.a f.b f.c f.d V)
 rw [hv] at HVA
 have HTH := Lib.hid (fun V => there_any f g V)
 rw [hv1, hv2, hgl] at HTH
 have HBY := Lib.hid (fun V => by_any (f.a, f.b) g V)
 simp only [show wrap64 (g.1 - f.a) = cc from hcc, show wrap64 (g.2 - f.b) = rr from hrr] at HBY
 have HFI : Hid ((-9223372036854775808 ≤ cc ∧ cc ≤ 9223372036854775807) ∧ (-9223372036854775808 ≤ rr ∧ rr ≤ 9223372036854775807)) := by unfold Hid; rw [← hcc, ← hrr]; exact far_i64 f g
 obtain ⟨⟨x0, x1, x2, x3⟩, _⟩ := cells4 HR0.out
 obtain ⟨y0, y1, _, _⟩ := cells2 HR1.out
 clear hG hT hO hv hv1 hv2 hgl hcc hrr hin
 refine (callsIn_wide (n := 25)).1 ?_
 refine callsIn_of_wp_marks Tryz.func27 rfl trivial ?_ rfl
 simp only [Tryz.ntmps27, List.size_toArray, List.length_cons, List.length_nil, Nat.reduceAdd, Nat.reduceSub, Array.replicate_succ, Array.replicate_zero, List.push_toArray, List.append_toArray, List.nil_append, List.cons_append]
 refine wpIn_wide.2 ?_
 refine wp_mono (Q := noPanic (bodyPostM Fence.wide 25 Tryz.prog Tryz.f27 (fun e w' => CopyR (cpAll (movG cc rr) cc rr (clearP gl (er M)) (inP f (er M))) w e w'))) ?_ noPanic_le
 have hq := Int.le_refl 0
 go_wp2_with (first
  | (go_at_call 40; refine (HVA.out _).mono ?_; rintro e w1 ⟨rfl, hg1⟩; have HX1 : Hid (Xt w0 w1) := hg1.xt; obtain ⟨⟨a0, a1, a2, a3⟩, _⟩ := cells4 (rowX HX1.out HR0.out); obtain ⟨b0, b1, _, _⟩ := cells2 (rowX HX1.out HR1.out); clear hg1)
  | (go_at_call 41; refine (HTH.out _).mono ?_; rintro e w2 ⟨rfl, hx2⟩; have HX2 : Hid (Xt w0 w2) := HX1.out.trans hx2; obtain ⟨wb, hwb⟩ : ∃ wb, w2.alloc (.cells #[.int .i64 gl.a, .int .i64 gl.b, .int .i64 gl.c, .int .i64 gl.d] 26) = wb := ⟨_, rfl⟩; have HX2b : Hid (Xt w0 wb) := (by unfold Hid; rw [← hwb]; exact HX2.out.alloc _); obtain ⟨⟨c0, c1, c2, c3⟩, _⟩ := cells4 (b := w2.heap.size) (w := wb) (by rw [← hwb]; exact (MapKept.heap_alloc w2 _).1); clear hx2)
  | (go_at_call 68; refine (cleared_any gl gb mb M wb (HG.out.xt (HX0.out.trans HX2b.out)) (HT.out.xt (HX0.out.trans HX2b.out)) HO.out).mono ?_; rintro e w3 ⟨hx3, go, mo, Mo0, rfl, hGo, hEo0, hmo, hgo, _⟩; have HX3 : Hid (Xt w0 w3) := HX2b.out.trans hx3; have HGo3 := Lib.hid hGo; have HEo0 := Lib.hid hEo0; have hmo0 : w.heap.size + 4 ≤ mo ∧ w.heap.size + 4 ≤ go := (by have := HX2b.out.size; omega); obtain ⟨C, hC⟩ : ∃ C, w3.heap.size = C := ⟨_, rfl⟩; obtain ⟨wc, hwc⟩ : ∃ wc, w3.alloc (.cells #[.pointer (some ⟨go, 0, none⟩)] 29) = wc := ⟨_, rfl⟩; have hsc : wc.heap.size = C + 1 := (by rw [← hwc]; simp [hC]); have HX3c : Hid (Xt w3 wc) := (by unfold Hid; rw [← hwc]; exact (Xt.refl _).alloc _); have HRC : Hid (wc.heap[C]? = some (.cells #[.pointer (some ⟨go, 0, none⟩)] 29 (0, 0))) := (by unfold Hid; rw [← hwc, ← hC]; exact (MapKept.heap_alloc w3 _).1); obtain ⟨⟨a0, a1, a2, a3⟩, _⟩ := cells4 (rowX (HX3.out.trans HX3c.out) HR0.out); obtain ⟨b0, b1, _, _⟩ := cells2 (rowX (HX3.out.trans HX3c.out) HR1.out); clear hx3 hGo hEo0 hmo hgo)
  | (go_at_call 42; refine (HBY.out _).mono ?_; rintro e w4 ⟨rfl, hg4⟩; have HX4 : Hid (Xt wc w4) := hg4.xt; obtain ⟨P, hP⟩ : ∃ P, w4.heap.size = P := ⟨_, rfl⟩; obtain ⟨wd, hwd⟩ : ∃ wd, w4.alloc (.cells #[.int .i64 cc] 3) = wd := ⟨_, rfl⟩; obtain ⟨we, hwe⟩ : ∃ we, wd.alloc (.cells #[.int .i64 rr] 3) = we := ⟨_, rfl⟩; have hsd : wd.heap.size = P + 1 := (by rw [← hwd]; simp [hP]); have hse : we.heap.size = P + 1 + 1 := (by rw [← hwe]; simp [hsd]); have HX4e : Hid (Xt w4 we) := (by unfold Hid; rw [← hwe, ← hwd]; exact ((Xt.refl _).alloc _).alloc _); have HRP : Hid (we.heap[P]? = some (.cells #[.int .i64 cc] 3 (0, 0))) := rowX (w := wd) (by rw [← hwe]; exact (Xt.refl _).alloc _) (by rw [← hwd, ← hP]; exact (MapKept.heap_alloc w4 _).1); have HRQ : Hid (we.heap[P + 1]? = some (.cells #[.int .i64 rr] 3 (0, 0))) := (by unfold Hid; rw [← hwe, ← hsd]; exact (MapKept.heap_alloc wd _).1); obtain ⟨⟨a0, a1, a2, a3⟩, _⟩ := cells4 (rowX (((HX3.out.trans HX3c.out).trans HX4.out).trans HX4e.out) HR0.out); clear hg4)
  | (go_at_call 69; refine ((callsIn_wide (n := 20)).1 (gin_in 20 (by omega) (some ⟨gb, 0, none⟩) ((f.a, f.b), (f.c, f.d)) _)).mono ?_; rintro e w' ⟨rfl, rfl⟩))
 have hCm : mo < C ∧ go < C ∧ B + 1 + 1 + 1 < C := by have h1 := HGo3.out.lt; have := HX3.out.size; omega
 have hPC : C + 1 ≤ P := by have := HX4.out.size; omega
 obtain ⟨W0, hW0⟩ : ∃ W0, ((we.alloc (.cells #[.int .i64 f.a, .int .i64 f.b, .int .i64 f.c, .int .i64 f.d] 26)).alloc (.cells #[.pointer (some ⟨gb, 0, none⟩)] 29)).alloc (.cells #[.func (.func 111) #[] #[.pointer (some ⟨we.heap.size, 0, none⟩)]] 99) = W0 := ⟨_, rfl⟩
 have hsW : W0.heap.size = P + 5 := by rw [← hW0]; simp [hse]
 have HXeW : Hid (Xt we W0) := by unfold Hid; rw [← hW0]; exact (((Xt.refl we).alloc _).alloc _).alloc _
 have HRA : Hid (W0.heap[P + 2]? = some (.cells #[.int .i64 f.a, .int .i64 f.b, .int .i64 f.c, .int .i64 f.d] 26 (0, 0))) := by
  unfold Hid; rw [← hW0, show P + 2 = we.heap.size by omega]
  exact rowX (((Xt.refl _).alloc _).alloc _) (MapKept.heap_alloc we _).1
 have rBg : W0.heap[P + 3]? = some (.cells #[.pointer (some ⟨gb, 0, none⟩)] 29 (0, 0)) := by
  rw [← hW0]
  have := rowX ((Xt.refl _).alloc (.cells #[.func (.func 111) #[] #[.pointer (some ⟨we.heap.size, 0, none⟩)]] 99)) (MapKept.heap_alloc (we.alloc (.cells #[.int .i64 f.a, .int .i64 f.b, .int .i64 f.c, .int .i64 f.d] 26)) (.cells #[.pointer (some ⟨gb, 0, none⟩)] 29)).1
  simpa [hse] using this
 have rBw : W0.heap[P + 4]? = some (.cells #[.func (.func 111) #[] #[.pointer (some ⟨P + 2, 0, none⟩)]] 99 (0, 0)) := by
  rw [← hW0]
  have := (MapKept.heap_alloc ((we.alloc (.cells #[.int .i64 f.a, .int .i64 f.b, .int .i64 f.c, .int .i64 f.d] 26)).alloc (.cells #[.pointer (some ⟨gb, 0, none⟩)] 29)) (.cells #[.func (.func 111) #[] #[.pointer (some ⟨we.heap.size, 0, none⟩)]] 99)).1
  simpa [hse] using this
 have HX3W : Hid (Xt w3 W0) := ((HX3c.out.trans HX4.out).trans HX4e.out).trans HXeW.out
 have HXcW : Hid (Xt wc W0) := (HX4.out.trans HX4e.out).trans HXeW.out
 have HX0W : Hid (Xt w0 W0) := HX3.out.trans HX3W.out
 have HXW : Hid (Xt w W0) := HX0.out.trans HX0W.out
 have HGoW : Hid (GridIs W0 go mo Mo0) := HGo3.out.xt HX3W.out
 have HRCW := Lib.hid (rowX HXcW.out HRC.out)
 have HRPW := Lib.hid (rowX HXeW.out HRP.out)
 have HRQW := Lib.hid (rowX HXeW.out HRQ.out)
 have HR2W := Lib.hid (rowX HX0W.out HR2.out)
 have HR3W := Lib.hid (rowX HX0W.out HR3.out)
 have HcgW : W0.cell? ⟨P + 3, 0, none⟩ = some (.pointer (some ⟨gb, 0, none⟩)) := by simp [World.cell?, rBg]
 simp only [hse] at hW0
 try simp only [hse]
 try simp only [hC, hP]
 simp only [hW0]
 clear hwx0 hwx1 hwx2 hw0 hW0 hse hsd hsc hwe hwd hwc hwb rBg HTH HBY HVA x0 x1 x2 x3 y0 y1 a0 a1 a2 a3 b0 b1 c0 c1 c2 c3 hP hC
 have hO2 : Hid (∀ x ∈ er M, gvalidB x.2 = true ∧ (x.2.kind == 0) = false ∧ x.2.ok) := Lib.hid fun x hx => ⟨(HO.out.each x hx).2.1, (HO.out.each x hx).2.2.1, (HO.out.each x hx).2.2.2.2⟩
 generalize hA0 : Act.mk _ _ = a0
 refine (wpIn_wide (n := 25)).1 ?_
 refine rangeFunc_told (n := 25) (by omega) (gf := 116) (lb := #[.pointer (some ⟨P + 3, 0, none⟩), .pointer (some ⟨P + 4, 0, none⟩)]) (by subst hA0; rfl) (enters_of Tryz.func116 (by kernel_rfl) rfl)
  (some1_told (fun x => x == 2 * mo + 1 || x == 2 * 26) 111 #[.pointer (some ⟨P + 2, 0, none⟩)] (enters_of Tryz.func111 (by kernel_rfl) rfl) (fun a => inA f a) w.heap.size w rfl (fun W => W.heap[P + 2]? = some (.cells #[.int .i64 f.a, .int .i64 f.b, .int .i64 f.c, .int .i64 f.d] 26 (0, 0))) (fun _ _ h _ hk => keeps_area (by simp) h hk) (fun a W h => in1_any f (P + 2) a W h) (25 - 1) (by omega) (P + 3) (P + 4) gb mb M HG.out W0 HXW.out HRA.out (by omega) HcgW rBw (fun k hk => by simp; omega))
  (fun h k => ⟨h.1.trans k.1, h.2.trans k.2⟩) (fun W l o o' hl ho hc hw => ⟨belowK_b (w := W0) (by omega) W l o o' hl ho hc hw, KeepsT.of_grown (grownBy_putObj' W l o') (fun j o2 e h2 => by cases e; rw [ho] at h2; cases h2; cases o <;> simp_all [keptO, Obj.isCells, Obj.isWalk])⟩) (Below.refl _ _) (fun _ => rfl)
  (fun pre W => MQ W0 go mo (fun pre => cpAll (movG cc rr) cc rr (clearP gl (er M)) (pre.map tpT)) pre W)
  (fun c pre W => c = .ret ∧ Xt w W ∧ W.heap[B + 1 + 1]? = some (.cells #[.pointer none] 29 (0, 0)) ∧ cpAll (movG cc rr) cc rr (clearP gl (er M)) (pre.map tpT) = none ∧ ∃ cd, W.heap[B + 1 + 1 + 1]? = some (.cells #[.int .i64 cd] 35 (0, 0)) ∧ cd ≠ 0 ∧ ∃ (Q : PG) (x : Ad × ContT) (l : PG), pre.map tpT = l ++ [x] ∧ codeP Q (movG cc rr x.1) (shC cc rr (copyC x.2)) = cd)
  (MQ.own (by omega))
  (fun c s X Y row hs hg hr => ⟨hs.1, hs.2.1.grownB hg (fun q hq => by have := (hr q hq).1; omega), rowCells_own hs.2.2.1 hg (fun r e => (hr r e).2), hs.2.2.2.1, let ⟨cd, q1, q2⟩ := hs.2.2.2.2; ⟨cd, rowCells_own q1 hg (fun r e => (hr r e).2), q2⟩⟩)
  (MQ.start HGoW.out (by rw [HEo0.out]; rfl))
  (fun x a' W => ∃ (z : CE) (Bx By nT : Nat), z.1 = copyC x.2.1 ∧ z.2 = x.2.2 ∧ W.heap[Bx]? = some (.cells #[.int .i64 x.1.1, .int .i64 x.1.2] 24 (0, 0)) ∧ W.heap[By]? = some (.cells #[.int .i64 z.1.kind, .int .i64 z.1.v.kind, .float .f64 z.1.v.x, .string z.1.v.s, .bool z.1.v.b, .int .i64 z.1.v.f, .int .i64 z.1.t.kind, .int .i64 z.1.t.op, .float .f64 z.1.t.x, .string z.1.t.s, .bool z.1.t.b, .int .i64 z.1.t.f, .int .i64 z.1.t.ref.a.1, .int .i64 z.1.t.ref.a.2, .bool z.1.t.ref.cf, .bool z.1.t.ref.rf, .int .i64 z.1.t.to.a.1, .int .i64 z.1.t.to.a.2, .bool z.1.t.to.cf, .bool z.1.t.to.rf, .slice z.2 z.1.t.args.length z.1.t.args.length] 51 (0, 0)) ∧ smallT z.1.t ∧ ArgsIn W nT (.slice z.2 z.1.t.args.length z.1.t.args.length) z.1.t.args ∧ (x.1, x.2.1) ∈ er M ∧
   a' = { tmps := (((a0.tmps.setIfInBounds 44 (adW x.1)).setIfInBounds 45 (ceV z)).setIfInBounds 13 (.pointer (some ⟨Bx, 0, none⟩))).setIfInBounds 14 (.pointer (some ⟨By, 0, none⟩)), defers := [] })
  (fun x a' _ X Y row hs hg hr => by
   obtain ⟨z, Bx, By, nT, e1, e2, h1, h2, h3, h4, h5⟩ := hs
   exact ⟨z, Bx, By, nT, e1, e2, rowCells_own h1 hg (fun r e => (hr r e).2), rowCells_own h2 hg (fun r e => (hr r e).2), h3, h4.kept (cellsIn_walk hg (fun r e => (hr r e).2)), h5⟩)
  ?assign ?body ?done ?stop
 case stop =>
  rintro D c pre W hD hS ⟨rfl, hxW, k1, hno, cd, k2, hcd0, Q, x, l, hpl, hcd⟩ hK
  obtain rfl : cd = 41 := by
   obtain ⟨i, hS⟩ := hS
   have hx : x ∈ pre.map tpT := by rw [hpl]; simp
   rw [told_in hS] at hx
   obtain ⟨h1, h2⟩ := List.mem_filter.1 hx
   have h3 : x ∈ er M := by unfold er at h1 ⊢; rw [List.map_take] at h1; exact List.mem_of_mem_take h1
   obtain ⟨v1, v2, _⟩ := hO2.out _ h3
   rw [← hcd] at hcd0 ⊢
   exact code_41 (HINV.out _ h2) v1 v2 hcd0
  subst hA0
  refine (wpIn_wide (n := 25)).2 ?_
  go_wp2_with fail
  refine ⟨by simp, .inl ⟨_, _, rfl, run_takeDeferred hK, ?_⟩⟩
  have k1' : (W.putObj D (.deferred none)).heap[B + 1 + 1]? = some (.cells #[.pointer none] 29 (0, 0)) := (World.putObj_heap_other (by omega)).trans k1
  have k2' : (W.putObj D (.deferred none)).heap[B + 1 + 1 + 1]? = some (.cells #[.int .i64 41] 35 (0, 0)) := (World.putObj_heap_other (by omega)).trans k2
  have hxE : Xt w (W.putObj D (.deferred none)) := hxW.grownB (grownBy_putObj' W D _) (fun q hq => by cases hq; have := HXW.out.size; omega)
  refine ⟨_, results_two rfl _ _ (B + 1 + 1) (B + 1 + 1 + 1) (.pointer none) (.int .i64 41) rfl rfl (load_pgrid _ _ _ (one_row k1').1) (load_err _ _ _ (one_row k2').1), hxE, Or.inl ⟨rfl, ?_⟩⟩
  obtain ⟨i, hS⟩ := hS
  obtain ⟨l, hl⟩ := told_in_pre hS
  rw [show inP f (er M) = pre.map tpT ++ l from hl]
  exact cpAll_none _ _ _ _ _ _ hno
 case done =>
  rintro D xs W hD hS hI hK
  subst hA0
  obtain ⟨hgr, ⟨Mo, hGo, hEo⟩⟩ := hI
  have HGo := Lib.hid hGo
  have HEo : Hid (cpAll (movG cc rr) cc rr (clearP gl (er M)) (inP f (er M)) = some (er Mo)) := by
   unfold Hid
   rw [told_in hS] at hEo
   exact hEo
  clear hEo
  have r1 := (hgr.block (B + 1 + 1) (by omega) (fun e => by have := Option.some.inj e; omega)).trans HR2W.out
  have r2 := (hgr.block (B + 1 + 1 + 1) (by omega) (fun e => by have := Option.some.inj e; omega)).trans HR3W.out
  have rC := (hgr.block C (by omega) (fun e => by have := Option.some.inj e; omega)).trans HRCW.out
  obtain ⟨c1, f1⟩ := one_row r1
  obtain ⟨c2, f2⟩ := one_row r2
  obtain ⟨cGG, _⟩ := one_row rC
  have HxW : Hid (Xt w W) := HXW.out.grownB hgr (fun q hq => by cases hq; omega)
  have HK := Lib.hid hK
  have HC1c := Lib.hid r1
  have HC2c := Lib.hid r2
  clear hGo hS hgr r1 r2 rC hK
  go_wp2_with fail
  obtain ⟨W', hW'⟩ : ∃ W', (W.setCell ⟨B + 1 + 1, 0, none⟩ (.pointer (some ⟨go, 0, none⟩))).setCell ⟨B + 1 + 1 + 1, 0, none⟩ (.int .i64 0) = W' := ⟨_, rfl⟩
  have k1 : W'.cell? ⟨B + 1 + 1, 0, none⟩ = some (.pointer (some ⟨go, 0, none⟩)) := by rw [← hW', World.cell?_setCell_other _ _ _ _ (by simp)]; exact World.cell?_setCell_same _ _ _ c1
  have k2 : W'.cell? ⟨B + 1 + 1 + 1, 0, none⟩ = some (.int .i64 0) := by rw [← hW']; exact World.cell?_setCell_same _ _ _ ((World.cell?_setCell_other _ _ _ _ (by simp)).trans c2)
  have hgW : Wr (fun b => b = B + 1 + 1 ∨ b = B + 1 + 1 + 1) W W' := by rw [← hW']; exact (Wr.cell _ (Or.inl rfl)).trans (Wr.cell _ (Or.inr rfl))
  have hKW : W'.heap[D]? = some (.deferred (some [])) := (hgW.block D (Array.getElem?_eq_some_iff.1 HK.out).1 (fun e => by omega)).trans HK.out
  have hGW : GridIs (W'.putObj D (.deferred none)) go mo Mo := by
   have hk : ∀ b, b ≠ B + 1 + 1 → b ≠ B + 1 + 1 + 1 → b ≠ D → (W'.putObj D (.deferred none)).heap[b]? = W.heap[b]? := fun b h1 h2 h3 => (World.putObj_heap_other h3).trans (by rw [← hW']; exact (Below.heap_setCell _ _ _ _ h2).trans (Below.heap_setCell _ _ _ _ h1))
   exact HGo.out.far (P := fun b => b = B + 1 + 1 ∨ b = B + 1 + 1 + 1 ∨ b = D) (fun b hb => hk b (fun e => hb (Or.inl e)) (fun e => hb (Or.inr (Or.inl e))) (fun e => hb (Or.inr (Or.inr e))))
    (fun b hb o u hu => by
     rcases hb with rfl | rfl | rfl
     · exact one_cell HC1c.out hu
     · exact one_cell HC2c.out hu
     · rw [World.cell?, HK.out] at hu; cases hu) (by omega) (by omega)
  rw [hW']
  refine ⟨by simp, .inl ⟨_, _, rfl, run_takeDeferred hKW, ?_⟩⟩
  have hcell : ∀ b, b ≠ D → ∀ u, W'.cell? ⟨b, 0, none⟩ = some u → (W'.putObj D (.deferred none)).cell? ⟨b, 0, none⟩ = some u := fun b hb u hu => (World.cell?_of_block (w := W') (a := ⟨b, 0, none⟩) (World.putObj_heap_other (by exact hb))).trans hu
  have hxE : Xt w (W'.putObj D (.deferred none)) := by
   have h1 : Xt w W' := hgW.xt HxW.out (fun b hb => by rcases hb with e | e <;> omega)
   exact h1.grownB (grownBy_putObj' W' D _) (fun q hq => by cases hq; have := HXW.out.size; omega)
  exact ⟨_, results_two rfl _ _ (B + 1 + 1) (B + 1 + 1 + 1) (.pointer (some ⟨go, 0, none⟩)) (.int .i64 0) rfl rfl (load_pgrid _ _ _ (hcell _ (by omega) _ k1)) (load_err _ _ _ (hcell _ (by omega) _ k2)), hxE, Or.inr ⟨go, mo, Mo, rfl, hGW, HEo.out, by omega⟩⟩
 case assign =>
  rintro l0 pre x W K hI ⟨V, hIV, ⟨hxV, hsm, nT, hA⟩, hmem⟩ hK
  subst hA0
  obtain ⟨⟨c, d⟩, tc, tp⟩ := x
  obtain ⟨z, hz1, hz2⟩ : ∃ z : CE, z.1 = copyC tc ∧ z.2 = tp := ⟨(copyC tc, tp), rfl, rfl⟩
  have hzv : copyCV tc tp = ceV z := by rw [← ceV_copy]; obtain ⟨z1, z2⟩ := z; simp only at hz1 hz2; rw [hz1, hz2]
  have hzA : smallT z.1.t ∧ ArgsIn W nT (.slice z.2 z.1.t.args.length z.1.t.args.length) z.1.t.args := by
   rw [hz1, hz2]
   refine ⟨smallT_copy _ hsm, ?_⟩
   show ArgsIn _ _ (.slice tp (copyT tc.t).args.length (copyT tc.t).args.length) (copyT tc.t).args
   rw [copyT_len, copyT_args]
   exact hA.args
  have HZ := Lib.hid (show z.1 = copyC tc ∧ z.2 = tp from ⟨hz1, hz2⟩)
  have HZA := Lib.hid hzA
  have HI := Lib.hid hI
  have HME : Hid (((c, d), tc) ∈ er M) := hmem
  simp only [teV, hzv]
  clear hz1 hz2 hzv hzA hA hsm hIV hxV hI hmem
  obtain ⟨wA, hwA, hbA, hsA, kA0, kA1⟩ := box1 W c d 24
  obtain ⟨wZ, wR, hwZ, hwR, hrZ, hrR, hxR, hsR, hxZ, hsZ⟩ := boxR wA z
  rw [hsA] at hrZ hwR hrR
  have hrA : wA.heap[W.heap.size]? = some (.cells #[.int .i64 c, .int .i64 d] 24 (0, 0)) := by rw [← hwA]; exact World.alloc_heap_new W _
  have hxWR := Lib.hid (Xt.trans hbA hxR)
  have HRA2 := Lib.hid ((hxR.block _ (by omega)).trans hrA)
  have HRZ := Lib.hid hrZ
  have HRR := Lib.hid hrR
  have HWR := Lib.hid hwR
  clear hrZ hwR hrR hrA kA0 kA1 hbA hxZ hxR
  gi_wp2_with (first | (refine wpListIn_store_row (P := Tryz.prog) rfl 51 _ _ rfl (W.heap.size + 1) #[.int .i64 z.1.kind, .int .i64 z.1.v.kind, .float .f64 z.1.v.x, .string z.1.v.s, .bool z.1.v.b, .int .i64 z.1.v.f, .int .i64 z.1.t.kind, .int .i64 z.1.t.op, .float .f64 z.1.t.x, .string z.1.t.s, .bool z.1.t.b, .int .i64 z.1.t.f, .int .i64 z.1.t.ref.a.1, .int .i64 z.1.t.ref.a.2, .bool z.1.t.ref.cf, .bool z.1.t.ref.rf, .int .i64 z.1.t.to.a.1, .int .i64 z.1.t.to.a.2, .bool z.1.t.to.cf, .bool z.1.t.to.rf, .slice z.2 z.1.t.args.length z.1.t.args.length] rfl rfl 51 _ HRZ.out (by kernel_rfl) rfl (by simp [Value.oneCell']) ?_; rw [HWR.out]))
  have hx := hxWR.out
  refine hK _ _ (keepsFrom_xt hx _) ⟨hx.mono (by have := HI.out.grown.size; have := HXW.out.size; omega), KeepsT.of_xt hx⟩ (HI.out.xt hx) ?_
  refine ⟨z, W.heap.size, W.heap.size + 1, nT, HZ.out.1, HZ.out.2, HRA2.out, HRR.out, HZA.out.1, HZA.out.2.xt hx, HME.out, ?_⟩
  simp only [List.setIfInBounds_toArray, List.set_cons_zero, List.set_cons_succ]
 case body =>
  rintro l0 pre x a' W hl0 ⟨r, hr⟩ hI ⟨z, Bx, By, nT, hz1, hz2, hBx, hBy, hzs, hzA, hmem, rfl⟩ hlt
  subst hA0
  obtain ⟨⟨c, d⟩, tc, tp⟩ := x
  simp only at hBx hz1 hz2 hmem
  obtain ⟨hgr, ⟨Mo, hGo, hEo⟩⟩ := hI
  have HGo := Lib.hid hGo
  have HEo := Lib.hid hEo
  have HGr := Lib.hid hgr
  have hgs := hgr.size
  have rC := (hgr.block C (by omega) (fun e => by have := Option.some.inj e; omega)).trans HRCW.out
  have rP := (hgr.block P (by omega) (fun e => by have := Option.some.inj e; omega)).trans HRPW.out
  have rQ := (hgr.block (P + 1) (by omega) (fun e => by have := Option.some.inj e; omega)).trans HRQW.out
  have r1 := (hgr.block (B + 1 + 1) (by omega) (fun e => by have := Option.some.inj e; omega)).trans HR2W.out
  have r2 := (hgr.block (B + 1 + 1 + 1) (by omega) (fun e => by have := Option.some.inj e; omega)).trans HR3W.out
  obtain ⟨cC, _⟩ := one_row rC
  obtain ⟨cP, _⟩ := one_row rP
  obtain ⟨cQ, _⟩ := one_row rQ
  obtain ⟨x0, x1, _, _⟩ := cells2 hBx
  have HRB1 := Lib.hid r1
  have HRB2 := Lib.hid r2
  have HBY2 := Lib.hid hBy
  have HXWW : Hid (Xt w W) := HXW.out.grownB hgr (fun q hq => by have := Option.some.inj hq; omega)
  obtain ⟨v1, v2, v3⟩ := hO2.out _ hmem
  simp only at v1 v2 v3
  have hgz : gvalidB z.1 = true := by rw [hz1]; exact (gvalidB_copy tc).trans v1
  have hokz : z.1.ok := by rw [hz1]; exact okC_copy v3
  obtain ⟨y, hy⟩ : ∃ y, movG cc rr (c, d) = y := ⟨_, rfl⟩
  have hbym : byG (c, d) y = (cc, rr) := by rw [← hy]; exact by_mov HFI.out.1 HFI.out.2
  have e1 : wrap64 (c + cc) = y.1 := by rw [← hy]; rfl
  have e2 : wrap64 (d + rr) = y.2 := by rw [← hy]; rfl
  have HP := Lib.hid (laid_any nT go mo Mo z.1 z.2 z.1.t.args.length (c, d) y W hGo (HT.out.xt HXWW.out) hokz hzs hzA hgz)
  rw [hbym] at HP
  obtain ⟨cd, hcd⟩ : ∃ cd, putCode Mo y (shC cc rr z.1) = cd := ⟨_, rfl⟩
  have hcd2 : codeP (er Mo) y (shC cc rr (copyC tc)) = cd := by rw [← hz1, ← er_code]; exact hcd
  have HC2 : Hid (codeP (er Mo) (movG cc rr (c, d)) (shC cc rr (copyC tc)) = cd) := by unfold Hid; rw [hy]; exact hcd2
  have HPO : Hid (∀ zz, cd = 0 → cpAll (movG cc rr) cc rr (clearP gl (er M)) ((pre ++ [((c, d), tc, tp)]).map tpT) = some (er (putTo Mo y (shC cc rr z.1) zz))) := Lib.hid fun zz h => by
   rw [List.map_append, List.map_cons, List.map_nil, cpAll_snoc, hEo]
   simp only [tpT, hy]
   rw [cpStep_ok (hcd2.trans h), er_put, hz1]
  have HPN : Hid (cd ≠ 0 → cpAll (movG cc rr) cc rr (clearP gl (er M)) ((pre ++ [((c, d), tc, tp)]).map tpT) = none) := Lib.hid fun h => by
   rw [List.map_append, List.map_cons, List.map_nil, cpAll_snoc, hEo]
   simp only [tpT, hy]
   exact cpStep_no (by rw [hcd2]; exact h)
  have HCD := Lib.hid hcd
  have hfl : Fence.wide.fn 70 := trivial
  clear hGo hEo hgr rC rP rQ r1 r2 hBx hBy hmem hr hlt hz1 hz2 hzs hzA v1 v2 v3 hgz hokz hy hbym hcd2
  simp only [List.setIfInBounds_toArray, List.set_cons_zero, List.set_cons_succ]
  by_cases h0 : cd = 0
  · have hcb : (cd != 0) = false := by simp [h0]
    have H0 := Lib.hid h0
    clear h0 hcd
    gi_wp2_with (first
     | (refine BigFrame.wpListIn_want (by rfl) (fun K hK => wpIn_load_row 51 _ rfl By rfl 51 _ (0, 0) _ HBY2.out Tryz.underlying51 rfl (by kernel_rfl) (hK _ _ ?_)); clear hK K)
     | (gi_at_call 70; refine (callsIn_round HP.out).mono ?_; rintro e w8 ⟨zz, rfl, hG8, hg8⟩; rw [HCD.out]; have HG8 := Lib.hid hG8; have Hg8 := Lib.hid hg8; clear hG8 hg8))
    have hgW := Hg8.out
    refine ⟨⟨hgW.size, fun k o hB hk _ => (hgW.block k (Array.getElem?_eq_some_iff.1 hk).1 (fun e => by have := Option.some.inj e; omega)).trans hk⟩, ⟨⟨hgW.os, hgW.tape, hgW.output, hgW.size, fun k hk => hgW.block k (by omega) (fun e => by have := Option.some.inj e; omega)⟩, KeepsT.of_grown hgW (fun j o e ho => ?_)⟩, ⟨grownBy_two HGr.out hgW, ⟨_, HG8.out, HPO.out _ H0.out⟩⟩⟩
    obtain ⟨E, hm, _⟩ := HGo.out.map
    obtain ⟨es, clk, h1, _⟩ := hm
    have e1 := Option.some.inj e
    rw [← e1, h1] at ho
    cases ho
    simp [keptO, ← e1]
  · have hcb : (cd != 0) = true := by simpa using h0
    have H0 := Lib.hid h0
    clear h0 hcd
    gi_wp2_with (first
     | (refine BigFrame.wpListIn_want (by rfl) (fun K hK => wpIn_load_row 51 _ rfl By rfl 51 _ (0, 0) _ HBY2.out Tryz.underlying51 rfl (by kernel_rfl) (hK _ _ ?_)); clear hK K)
     | (gi_at_call 70; refine (callsIn_round HP.out).mono ?_; rintro e w8 ⟨zz, rfl, hG8, hg8⟩; rw [HCD.out]; have HG8 := Lib.hid hG8; have Hg8 := Lib.hid hg8; have q1 := (hg8.block (B + 1 + 1) (Array.getElem?_eq_some_iff.1 HRB1.out).1 (fun e => by have := Option.some.inj e; omega)).trans HRB1.out; have q2 := (hg8.block (B + 1 + 1 + 1) (Array.getElem?_eq_some_iff.1 HRB2.out).1 (fun e => by have := Option.some.inj e; omega)).trans HRB2.out; have HQ1 := Lib.hid q1; have HQ2 := Lib.hid q2; obtain ⟨k1, g1⟩ := one_row q1; obtain ⟨k2, g2⟩ := one_row q2; clear hG8 hg8 q1 q2))
    have hgW := Hg8.out
    have hW8 : Wr (fun b => b = mo) W w8 := ⟨hgW.os, hgW.tape, hgW.output, hgW.size, fun b hb hn => hgW.block b hb (fun e => hn (Option.some.inj e))⟩
    have hWE : Wr (fun b => b = mo ∨ b = B + 1 + 1 ∨ b = B + 1 + 1 + 1) W ((w8.setCell ⟨B + 1 + 1, 0, none⟩ (.pointer none)).setCell ⟨B + 1 + 1 + 1, 0, none⟩ (.int .i64 cd)) := Wr.trans (b := w8.setCell ⟨B + 1 + 1, 0, none⟩ (.pointer none)) (Wr.trans (b := w8) (hW8.weak (fun b e => Or.inl e)) (Wr.cell _ (Or.inr (Or.inl rfl)))) (Wr.cell _ (Or.inr (Or.inr rfl)))
    have hxE : Xt w ((w8.setCell ⟨B + 1 + 1, 0, none⟩ (.pointer none)).setCell ⟨B + 1 + 1 + 1, 0, none⟩ (.int .i64 cd)) := hWE.xt HXWW.out (fun b hb => by rcases hb with e | e | e <;> omega)
    refine ⟨⟨hWE.size, fun k o hB hk _ => (hWE.block k (Array.getElem?_eq_some_iff.1 hk).1 (fun e => by rcases e with e | e | e <;> omega)).trans hk⟩, rfl, hxE, ?_, HPN.out H0.out, cd, ?_, H0.out, er Mo, ((c, d), tc), pre.map tpT, by rw [List.map_append]; rfl, HC2.out⟩
    · exact (Below.heap_setCell _ _ _ _ (by simp)).trans (setCell_row HQ1.out 0 _)
    · exact setCell_row ((Below.heap_setCell _ _ _ _ (by simp)).trans HQ2.out) 0 _
end Go.Proofs.YtdoeejhdenifpaaGreatDoor
/- A loop over an iterator that writes small rows of its own between its rounds (made by mkl21.py). -/
namespace Go.Proofs.YtdoeejhdenifpaaGreatDoor
open Go.RowKit
structure Near (B : Nat) (W W' : World) : Prop where
 os : W'.os = W.os
 tape : W'.tape = W.tape
 output : W'.output = W.output
 size : W.heap.size ≤ W'.heap.size
 block : ∀ k, k < B → W'.heap[k]? = W.heap[k]?
 small : ∀ k, W'.heap[k]? = W.heap[k]? ∨ ∀ o u, W.cell? ⟨k, o, none⟩ = some u → o ≤ 1
theorem Near.refl (B : Nat) (W : World) : Near B W W := ⟨rfl, rfl, rfl, Nat.le_refl _, fun _ _ => rfl, fun _ => Or.inl rfl⟩
theorem Near.trans {B : Nat} {X Y Z : World} (h : Near B X Y) (k : Near B Y Z) : Near B X Z :=
 ⟨k.os.trans h.os, k.tape.trans h.tape, k.output.trans h.output, Nat.le_trans h.size k.size, fun i hi => (k.block i hi).trans (h.block i hi), fun i => by
  rcases h.small i with e | e
  · rcases k.small i with e2 | e2
    · exact Or.inl (e2.trans e)
    · refine Or.inr fun o u hu => e2 o u ?_
      exact (World.cell?_of_block (w := X) (a := ⟨i, o, none⟩) e).trans hu
  · exact Or.inr e⟩
theorem Near.mono {A B : Nat} {X Y : World} (h : Near B X Y) (hA : A ≤ B) : Near A X Y := ⟨h.os, h.tape, h.output, h.size, fun k hk => h.block k (by omega), h.small⟩
theorem Near.below {B : Nat} {X Y : World} (h : Near B X Y) : Below B X Y := ⟨h.os, h.tape, h.output, h.size, fun k hk => h.block k hk⟩
theorem Near.alloc {B : Nat} {X Y : World} (h : Near B X Y) (hB : B ≤ Y.heap.size) (o : Obj) : Near B X (Y.alloc o) :=
 ⟨h.os, h.tape, h.output, Nat.le_trans h.size (by simp), fun k hk => (Below.heap_alloc Y o _ (by omega)).trans (h.block k hk), fun k => by
  by_cases hk : k < Y.heap.size
  · rcases h.small k with e | e
    · exact Or.inl ((Below.heap_alloc Y o _ hk).trans e)
    · exact Or.inr e
  · refine Or.inr fun o u hu => ?_
    have h1 : k < X.heap.size := World.block_lt_of_cell? X _ hu
    have h2 := h.size
    omega⟩
theorem Near.setCell {B k o : Nat} {X Y : World} (h : Near B X Y) (hk : B ≤ k) (hs : ∀ o u, X.cell? ⟨k, o, none⟩ = some u → o ≤ 1) (v : Value) : Near B X (Y.setCell ⟨k, o, none⟩ v) :=
 ⟨h.os, h.tape, h.output, Nat.le_trans h.size (by simp), fun i hi => (Below.heap_setCell _ _ _ _ (by simp; omega)).trans (h.block i hi), fun i => by
  by_cases e : i = k
  · subst e; exact Or.inr hs
  · rcases h.small i with q | q
    · exact Or.inl ((Below.heap_setCell _ _ _ _ (by simpa using e)).trans q)
    · exact Or.inr q⟩
def NearFrom {β : Type} (B : Nat) (J : β → World → Prop) : Prop := ∀ s W W', J s W → Near B W W' → J s W'
section
variable {α : Type} {n : Nat} {P : Program}
def SeqNear (n : Nat) (P : Program) (g : Nat) (lb : Array Value) (encs : α → Array Value) (Kp : World → World → Prop) (T : World → α → World → Prop) (S Sp : List α → Prop) (N : Nat) (w0 : World) : Prop :=
 ∀ (l : Nat) (J Jx : List α → World → Prop) (W : World), Below w0.heap.size w0 W → NearFrom W.heap.size J → NearFrom W.heap.size Jx →
  (∀ pre x W1, J pre W1 → (∃ V, J pre V ∧ T V x W1) → pre.length < N → YieldAt Fence.wide (n - 1) P l (encs x) W1 fun e W' => (e = .returned (.bool true) ∧ J (pre ++ [x]) W' ∧ Kp W1 W') ∨ (e = .returned (.bool false) ∧ Jx (pre ++ [x]) W')) →
  J [] W →
  CallsIn Fence.wide n P g (#[.func (.yield l) #[] #[]] ++ lb) W fun e W' => (∃ v, e = .returned v) ∧ ((∃ xs, S xs ∧ J xs W') ∨ (∃ pre, Sp pre ∧ Jx pre W'))
theorem NearFrom.alloc {β : Type} {B : Nat} {J : β → World → Prop} (h : NearFrom B J) {s : β} {W : World} (o : Obj) (hs : J s W) (hB : B ≤ W.heap.size) : J s (W.alloc o) := h s W _ hs ((Near.refl _ _).alloc hB o)
theorem NearFrom.putObj {β : Type} {B : Nat} {J : β → World → Prop} (h : NearFrom B J) {s : β} {W : World} {l : Nat} (o' : Obj) (hs : J s W) (hl : B ≤ l) {o : Obj} (ho : W.heap[l]? = some o) (hc : o.isCells = false) : J s (W.putObj l o') :=
 h s W _ hs ⟨(grownBy_putObj' W l o').os, (grownBy_putObj' W l o').tape, (grownBy_putObj' W l o').output, (grownBy_putObj' W l o').size, fun k hk => World.putObj_heap_other (by omega), fun k => by
  by_cases e : k = l
  · subst e
    refine Or.inr fun q u hu => ?_
    rw [World.cell?] at hu
    simp only [ho] at hu
    cases o <;> simp_all [Obj.isCells]
  · exact Or.inl (World.putObj_heap_other e)⟩
theorem Books.near {D : Nat} {L : Loop} {W W' : World} (h : Books D L W) (hb : Near (D + 2) W W') : Books D L W' := ⟨(hb.block _ (by omega)).trans h.loop, (hb.block _ (by omega)).trans h.late⟩
theorem rangeFunc_near {g : Operand} {ps : Array Tmp} {assign body : Code} {Q : Exit → Act → World → Prop} {a : Act} {w : World} (h1 : 1 ≤ n) {gf : Nat} {lb : Array Value} (hg : a.eval g = .func (.func gf) #[] lb) (eg : ∀ args w, (callFunc gf args).run P w = .ok (.enter gf args) w)
    {encs : α → Array Value} {Kp : World → World → Prop} {T : World → α → World → Prop} {S Sp : List α → Prop} {N : Nat} {w0 : World} (hseq : SeqNear (n - 1) P gf lb encs Kp T S Sp N w0)
    (hKt : ∀ {A B C : World}, Kp A B → Kp B C → Kp A C) (hKb : ∀ (W : World) (l : Nat) (o o' : Obj), w.heap.size ≤ l → W.heap[l]? = some o → o.isCells = false → o.isWalk = false → Kp W (W.putObj l o')) (hb0 : Below w0.heap.size w0 w) (hps : ∀ x, (encs x).size = ps.size)
    (I : List α → World → Prop) (Ix : Code → List α → World → Prop) (hI : NearFrom w.heap.size I) (hIx : ∀ c, NearFrom w.heap.size (Ix c)) (h0 : I [] w) (Ax : α → Act → World → Prop) (hAx : ∀ x a', OwnFrom w.heap.size (fun (_ : Unit) W => Ax x a' W))
    (hassign : ∀ (l : Nat) (pre : List α) (x : α) (W : World) (K : Act → World → Prop), I pre W → (∃ V, I pre V ∧ T V x W) → (∀ a' W', KeepsFrom w.heap.size W W' → Kp W W' → I pre W' → Ax x a' W' → K a' W') →
     assign.wpIn (Fence.wide.inRound l) (n - 1 - 1) P (Exit.then K (fun _ _ _ => False)) { tmps := (ps.zip (encs x)).foldl (fun t (p, v) => t.setIfInBounds p v) a.tmps, defers := [] } W)
    (hbody : ∀ (l : Nat) (pre : List α) (x : α) (a' : Act) (W : World), w.heap.size ≤ l → (∃ r, W.heap[l]? = some (.loop r)) → I pre W → Ax x a' W → pre.length < N → body.wpIn (Fence.wide.inRound l) (n - 1 - 1) P (ownPostG w.heap.size Kp I Ix (pre ++ [x]) W) a' W)
    (hdone : ∀ (D : Nat) (xs : List α) (W : World), w.heap.size ≤ D → S xs → I xs W → W.heap[D]? = some (.deferred (some [])) → Q .normal { a with defers := { target := .collected D, args := #[] } :: a.defers } W)
    (hstop : ∀ (D : Nat) (c : Code) (pre : List α) (W : World), w.heap.size ≤ D → Sp pre → Ix c pre W → W.heap[D]? = some (.deferred (some [])) → c.wpIn Fence.wide n P Q { a with defers := { target := .collected D, args := #[] } :: a.defers } W) :
    (Code.rangeFunc g ps assign body).wpIn Fence.wide n P Q a w := by
 refine wpIn_rangeFunc fun fn hfn => ?_
 let L : LoopState → Option Code → Loop := fun st pe => { state := st, pending := pe, fn, tmps := a.tmps, params := ps, assign, body, defers := w.heap.size }
 obtain ⟨V, hV⟩ : ∃ V, (w.alloc (.deferred (some []))).alloc (.loop (L .ready none)) = V := ⟨_, rfl⟩
 have hVB : Books w.heap.size (L .ready none) V := by
  rw [← hV]
  refine ⟨?_, (Below.heap_alloc _ _ _ (by simp)).trans (World.alloc_heap_new w _)⟩
  have := World.alloc_heap_new (w.alloc (.deferred (some []))) (.loop (L .ready none))
  rwa [World.size_alloc] at this
 have hVs : V.heap.size = w.heap.size + 2 := by rw [← hV]; simp
 have hVI : I [] V := by rw [← hV]; exact hI.alloc _ (hI.alloc _ h0 (Nat.le_refl _)) (by simp)
 have hVb : Below w0.heap.size w0 V := by rw [← hV]; exact hb0.trans ((((Below.refl _ w).alloc (Nat.le_refl _) _).alloc (by simp) _).mono hb0.size)
 refine ⟨w.heap.size + 1, [{ target := .collected w.heap.size, args := #[] }], V, { target := .fn (.func gf) lb, args := #[.func (.yield (w.heap.size + 1)) #[] #[]] }, V, gf, #[.func (.yield (w.heap.size + 1)) #[] #[]] ++ lb, V, ?_, ?_, fun _ _ => trivial, by simp [invoke, go_sem, eg], fun _ => h1, ?_⟩
 · rw [← hV]; exact run_enterLoop_outer _ _ _ _ _
 · simp only [resolve, hg]; simp [go_sem]
 refine (hseq (w.heap.size + 1) (fun pre W => I pre W ∧ Books w.heap.size (L .ready none) W) (fun pre W => ∃ c, Ix c pre W ∧ Books w.heap.size (L .done (some c)) W) V hVb
  (fun s A B hs hb => ⟨hI s A B hs.1 (hb.mono (by omega)), hs.2.near (hb.mono (by omega))⟩)
  (fun s A B hs hb => let ⟨c, hc, hk⟩ := hs; ⟨c, hIx c s A B hc (hb.mono (by omega)), hk.near (hb.mono (by omega))⟩) ?_ ⟨hVI, hVB⟩).mono ?_
 · rintro pre x W ⟨hi, hb⟩ ⟨V0, hV0, ht⟩ hlen
   have hy := run_yield (P := P) (args := encs x) hb.loop (hps x)
   refine ⟨fn, _, assign, body, hy, roundIn_of_wpIn hfn (hassign _ pre x W _ hi ⟨V0, hV0.1, ht⟩ ?_)⟩
   intro a' Wa hka hpa hia haa
   have hba := hb.keep hka
   refine ⟨_, run_beginRound hba.loop rfl, ?_⟩
   have hbb : Books w.heap.size { L .ready none with state := .busy } (Wa.putObj (w.heap.size + 1) (.loop { L .ready none with state := .busy })) := hba.turn
   have hpb : Kp Wa (Wa.putObj (w.heap.size + 1) (.loop { L .ready none with state := .busy })) := hKb _ _ _ _ (by omega) hba.loop rfl rfl
   refine wpIn_mono (hbody _ pre x a' _ (by omega) ⟨_, hbb.loop⟩ (hI.putObj _ hia (by omega) hba.loop rfl) ((hAx x a').putObj (s := ()) _ haa (by omega) hba.loop rfl) hlen) ?_
   have out : ∀ (jump : Option Code) (Wz : World), KeepsFrom w.heap.size (Wa.putObj (w.heap.size + 1) (.loop { L .ready none with state := .busy })) Wz →
       (Instr.endRound (w.heap.size + 1) jump).run P Wz = .ok (.bool jump.isNone) (Wz.putObj (w.heap.size + 1) (.loop (L (if jump.isNone then .ready else .done) jump))) ∧ Wz.heap[w.heap.size + 1]? = some (.loop { L .ready none with state := .busy }) ∧ Books w.heap.size (L (if jump.isNone then .ready else .done) jump) (Wz.putObj (w.heap.size + 1) (.loop (L (if jump.isNone then .ready else .done) jump))) := fun jump Wz hkz =>
    have hbz := hbb.keep hkz
    ⟨run_endRound (P := P) jump hbz.loop, hbz.loop, hbz.turn⟩
   have gone : ∀ (c : Code) (Wz : World), KeepsFrom w.heap.size (Wa.putObj (w.heap.size + 1) (.loop { L .ready none with state := .busy })) Wz → Ix c (pre ++ [x]) Wz →
       (Instr.endRound (w.heap.size + 1) (some c)).run P Wz = .ok (.bool false) (Wz.putObj (w.heap.size + 1) (.loop (L .done (some c)))) ∧ ∃ c', Ix c' (pre ++ [x]) (Wz.putObj (w.heap.size + 1) (.loop (L .done (some c)))) ∧ Books w.heap.size (L .done (some c')) (Wz.putObj (w.heap.size + 1) (.loop (L .done (some c)))) := fun c Wz hkz hiz => by
    obtain ⟨q1, q2, q3⟩ := out (some c) Wz hkz
    exact ⟨q1, c, (hIx c).putObj _ hiz (by omega) q2 rfl, q3⟩
   rintro e az Wz hz
   cases e with
   | normal =>
    obtain ⟨hkz, hpz, hiz⟩ := hz
    obtain ⟨q1, q2, q3⟩ := out none Wz hkz
    exact ⟨_, _, q1, .inl ⟨rfl, ⟨hI.putObj _ hiz (by omega) q2 rfl, q3⟩, hKt hpa (hKt (hKt hpb hpz) (hKb _ _ _ _ (by omega) q2 rfl rfl))⟩⟩
   | ret => obtain ⟨q1, q2⟩ := gone .ret Wz hz.1 hz.2; exact ⟨_, _, q1, .inr ⟨rfl, q2⟩⟩
   | exit id => obtain ⟨q1, q2⟩ := gone (.exit id) Wz hz.1 hz.2; exact ⟨_, _, q1, .inr ⟨rfl, q2⟩⟩
   | goto t => obtain ⟨q1, q2⟩ := gone (.goto t) Wz hz.1 hz.2; exact ⟨_, _, q1, .inr ⟨rfl, q2⟩⟩
   | panic ch => exact hz.elim
   | outgrown => exact hz.elim
 · rintro e Wz ⟨⟨v, rfl⟩, (⟨xs, hS, hi, hb⟩ | ⟨pre, hSp, c, hi, hb⟩)⟩
   · exact ⟨none, _, run_endLoop (P := P) hb.loop (by simp [L]), hdone _ xs _ (Nat.le_refl _) hS (hI.putObj _ hi (by omega) hb.loop rfl) ((World.putObj_heap_other (by omega)).trans hb.late)⟩
   · exact ⟨some c, _, run_endLoop (P := P) hb.loop (by simp [L]), hstop _ c pre _ (Nat.le_refl _) hSp ((hIx c).putObj _ hi (by omega) hb.loop rfl) ((World.putObj_heap_other (by omega)).trans hb.late)⟩
end
end Go.Proofs.YtdoeejhdenifpaaGreatDoor
/- addr.Cells' iterator: it writes a small row of its own (made by mkl21.py). -/
namespace Go.Proofs.YtdoeejhdenifpaaGreatDoor
open Go.RowKit Go.Sort Go.Maps Go.Shelf
attribute [local go_sem] Oper.semAt_some
theorem Near.of_xt {B : Nat} {X Y : World} (h : Xt X Y) (hB : B ≤ X.heap.size) : Near B X Y := ⟨h.os, h.tape, h.output, h.size, fun k hk => h.block k (by omega), fun k => by
 by_cases hk : k < X.heap.size
 · exact Or.inl (h.block k hk)
 · refine Or.inr fun o u hu => ?_
   have h1 : k < X.heap.size := World.block_lt_of_cell? X _ hu
   omega⟩
theorem small2 {w : World} {k : Nat} {u v : Value} {T : TypeId} (h : w.heap[k]? = some (.cells #[u, v] T (0, 0))) : ∀ o x, w.cell? ⟨k, o, none⟩ = some x → o ≤ 1 := fun o x hx => by
 have h2 : (#[u, v] : Array Value)[o]? = some x := by simpa [World.cell?, h] using hx
 have := (Array.getElem?_eq_some_iff.1 h2).1
 simp at this; omega
set_option maxRecDepth 100000 in
set_option maxHeartbeats 4000000 in
theorem cells1_near (n b : Nat) (f : ArT) (w0 : World) (hr : w0.heap[b]? = some (.cells #[.int .i64 f.a, .int .i64 f.b, .int .i64 f.c, .int .i64 f.d] 26 (0, 0))) (hv : validA f.a f.b f.c f.d = true) :
    SeqNear n Tryz.prog 79 #[.pointer (some ⟨b, 0, none⟩)] encA KC (fun _ x _ => inA f x = true) (fun xs => xs = cellsL f) (fun pre => pre <+: cellsL f) (leftN f (f.a, f.b)) w0 := fun l J Jx W hB hJ _ hY h0 => by
 have hx : Xt w0 W := hB
 have HR := Lib.hid (rowX hx hr)
 have HV := Lib.hid hv
 have hvb := validA_le hv
 have HY := Lib.hid (fun pre x W1 hj ht hl => yield_any (m' := 9 - 1) (hY pre x W1 hj ⟨W1, hj, ht⟩ hl))
 have HJ := Lib.hid (fun pre X Y (h : J pre X) (hx : Near W.heap.size X Y) => hJ pre X Y h hx)
 have HJ0 := Lib.hid h0
 have HVA := Lib.hid (fun V => validArea_any f.a f.b f.c f.d V)
 rw [hv] at HVA
 clear hY h0 hJ hr hx hB
 refine callsIn_wide.2 ((callsIn_wide (n := 9)).1 ?_)
 have hf : Fence.wide.fn 40 := trivial
 obtain ⟨⟨a0, a1, a2, a3⟩, _⟩ := cells4 HR.out
 refine callsIn_of_wp Tryz.func79 rfl trivial ?_ rfl
 simp only [Tryz.ntmps79, List.size_toArray, List.length_cons, List.length_nil, Nat.reduceAdd, Nat.reduceSub, Array.replicate_succ, Array.replicate_zero, List.push_toArray, List.append_toArray, List.nil_append, List.cons_append]
 gi_wp2_with (first
  | (gi_at_call 40; refine ((callsIn_wide (n := 9 - 1)).2 (HVA.out _)).mono ?_; rintro e w1 ⟨rfl, hg1⟩; have HX1 : Hid (Xt W w1) := hg1.xt; obtain ⟨⟨b0, b1, b2, b3⟩, _⟩ := cells4 (rowX HX1.out HR.out); clear hg1))
 obtain ⟨w2, hw2⟩ : ∃ w2, w1.alloc (.cells #[.int .i64 f.a, .int .i64 f.b] 24) = w2 := ⟨_, rfl⟩
 have HX2 : Hid (Xt W w2) := by unfold Hid; rw [← hw2]; exact HX1.out.alloc _
 have HK2 : Hid (w2.heap[w1.heap.size]? = some (.cells #[.int .i64 f.a, .int .i64 f.b] 24 (0, 0))) := by unfold Hid; rw [← hw2]; exact (MapKept.heap_alloc w1 _).1
 rw [hw2]
 clear hw2
 gi_loopw [3] (fun s3 wr => ∃ (k : Nat) (x y : Int) (pre : List Ad), s3 = .pointer (some ⟨k, 0, none⟩) ∧ Hid (KC W wr) ∧ Hid (J pre wr) ∧ Hid (wr.heap[k]? = some (.cells #[.int .i64 x, .int .i64 y] 24 (0, 0))) ∧ Hid (inA f (x, y) = true) ∧ Hid (pre.length + leftN f (x, y) = leftN f (f.a, f.b)) ∧ Hid (pre ++ restL f (leftN f (x, y)) x y = cellsL f) ∧ W.heap.size ≤ k) (fun s3 wr => leftN f (atOf wr s3))
 case atStart =>
  exact ⟨w1.heap.size, f.a, f.b, [], rfl, KC.of_xt HX2.out, HJ.out _ _ _ HJ0.out (Near.of_xt HX2.out (Nat.le_refl _)), HK2, inA_of HV.out (by simp only; omega), (by unfold Hid; simp), rfl, HX1.out.size⟩
 case round =>
  obtain ⟨k, x, y, pre, rfl, HK, HJp, HRk, HIN, HLF, HRS, hkb⟩ := hrel
  have hin := inA_le HIN.out
  simp only at hin
  obtain ⟨k0, k1, kf0, kf1⟩ := cells2 HRk.out
  obtain ⟨⟨c0, c1, c2, c3⟩, _⟩ := cells4 (HK.out.same _ _ HR.out rfl)
  have hwx : IntKind.i64.wrap (x + 1) = x + 1 := wrap_idz (by omega) (by omega)
  have hwy : IntKind.i64.wrap (y + 1) = y + 1 := wrap_idz (by omega) (by omega)
  have hbk : k ≠ b := by have := (Array.getElem?_eq_some_iff.1 HR.out).1; omega
  have hbk' : b ≠ k := fun e => hbk e.symm
  obtain ⟨fn, tmps, assign, body, hy, hR⟩ := HY.out pre (x, y) wr HJp.out HIN.out (by have := HLF.out; have := left_pos f (x, y); omega)
  dsimp only [encA, adW] at hy
  by_cases hto : x = f.c ∧ y = f.d
  · obtain ⟨rfl, rfl⟩ := hto
    gi_wp2
    refine hR.mono ?_
    rintro e w3 (⟨rfl, hJ3, hk3⟩ | ⟨rfl, hJ3⟩)
    · have HJ3 := Lib.hid hJ3
      have HK3 := Lib.hid hk3
      obtain ⟨e0, e1, ef0, ef1⟩ := cells2 (hk3.same _ _ HRk.out rfl)
      obtain ⟨⟨g0, g1, g2, g3⟩, _⟩ := cells4 ((HK.out.trans hk3).same _ _ HR.out rfl)
      clear hk3 hJ3 hR hy
      gi_wp2
      refine bodyPost_ret (results_none rfl _ _ _) rfl ?_
      exact ⟨⟨_, rfl⟩, Or.inl ⟨_, by have := HRS.out; rw [rest_end] at this; exact this, HJ3.out⟩⟩
    · have HJ3 := Lib.hid hJ3
      clear hJ3 hR hy
      gi_wp2
      refine bodyPost_ret (results_none rfl _ _ _) rfl ?_
      exact ⟨⟨_, rfl⟩, Or.inr ⟨_, by have := HRS.out; rw [rest_end] at this; exact pre_of this, HJ3.out⟩⟩
  · by_cases hx : x = f.c
    · subst hx
      have hy1 : y < f.d := by omega
      have hgt : f.c < f.c + 1 := by omega
      have hne : ¬ y = f.d := by omega
      gi_wp2
      refine hR.mono ?_
      rintro e w3 (⟨rfl, hJ3, hk3⟩ | ⟨rfl, hJ3⟩)
      · have HJ3 := Lib.hid hJ3
        have HK3 := Lib.hid hk3
        obtain ⟨e0, e1, ef0, ef1⟩ := cells2 (hk3.same _ _ HRk.out rfl)
        obtain ⟨⟨g0, g1, g2, g3⟩, _⟩ := cells4 ((HK.out.trans hk3).same _ _ HR.out rfl)
        clear hk3 hJ3 hR hy
        gi_wp2
        have HKW := Lib.hid (HK.out.trans HK3.out)
        have hsm : ∀ o u, w3.cell? ⟨k, o, none⟩ = some u → o ≤ 1 := small2 (HK3.out.same _ _ HRk.out rfl)
        have hb : Near W.heap.size w3 (((w3.setCell ⟨k, 0, none⟩ (Value.int .i64 (f.c + 1))).setCell ⟨k, 0, none⟩ (Value.int .i64 f.a)).setCell ⟨k, 1, none⟩ (Value.int .i64 (y + 1))) := (((Near.refl _ w3).setCell hkb hsm _).setCell hkb hsm _).setCell hkb hsm _
        have hbA := hb.alloc (by have := hb.size; have := HKW.out.size; omega) (Obj.cells #[Value.int .i64 f.a, Value.int .i64 (y + 1)] 24)
        go_roundw
        case rel =>
         refine ⟨_, f.a, y + 1, pre ++ [(f.c, y)], rfl, ⟨Nat.le_trans HKW.out.size hbA.size, fun k o hk ho => ((hbA.block k (Array.getElem?_eq_some_iff.1 hk).1).trans (HKW.out.same k o hk ho))⟩, HJ.out _ _ _ HJ3.out hbA, ?_, inA_of HV.out (by simp only; omega), ?_, ?_, ?_⟩
         · unfold Hid; exact (by simpa using (MapKept.heap_alloc (((w3.setCell ⟨k, 0, none⟩ (Value.int .i64 (f.c + 1))).setCell ⟨k, 0, none⟩ (Value.int .i64 f.a)).setCell ⟨k, 1, none⟩ (Value.int .i64 (y + 1))) (Obj.cells #[Value.int .i64 f.a, Value.int .i64 (y + 1)] 24)).1)
         · have h1 := HLF.out
           have h2 := left_row HIN.out rfl hy1
           unfold Hid
           rw [List.length_append, List.length_singleton]
           omega
         · have h1 := HRS.out
           rw [rest_row HIN.out hy1] at h1
           unfold Hid; rw [← h1]; simp
         · exact HKW.out.size
        case measure =>
         rw [atOf_row HRk.out, atOf_row (x := f.a) (y := y + 1) (T := 24) (by simpa using (MapKept.heap_alloc (((w3.setCell ⟨k, 0, none⟩ (Value.int .i64 (f.c + 1))).setCell ⟨k, 0, none⟩ (Value.int .i64 f.a)).setCell ⟨k, 1, none⟩ (Value.int .i64 (y + 1))) (Obj.cells #[Value.int .i64 f.a, Value.int .i64 (y + 1)] 24)).1)]
         have h2 := left_row HIN.out rfl hy1
         omega
      · have HJ3 := Lib.hid hJ3
        clear hJ3 hR hy
        gi_wp2
        refine bodyPost_ret (results_none rfl _ _ _) rfl ?_
        exact ⟨⟨_, rfl⟩, Or.inr ⟨_, by have := HRS.out; rw [rest_row HIN.out hy1] at this; exact pre_of this, HJ3.out⟩⟩
    · have hx1 : x < f.c := by omega
      have hgt : ¬ f.c < x + 1 := by omega
      gi_wp2
      refine hR.mono ?_
      rintro e w3 (⟨rfl, hJ3, hk3⟩ | ⟨rfl, hJ3⟩)
      · have HJ3 := Lib.hid hJ3
        have HK3 := Lib.hid hk3
        obtain ⟨e0, e1, ef0, ef1⟩ := cells2 (hk3.same _ _ HRk.out rfl)
        obtain ⟨⟨g0, g1, g2, g3⟩, _⟩ := cells4 ((HK.out.trans hk3).same _ _ HR.out rfl)
        clear hk3 hJ3 hR hy
        gi_wp2
        have HKW := Lib.hid (HK.out.trans HK3.out)
        have hsm : ∀ o u, w3.cell? ⟨k, o, none⟩ = some u → o ≤ 1 := small2 (HK3.out.same _ _ HRk.out rfl)
        have hb : Near W.heap.size w3 (w3.setCell ⟨k, 0, none⟩ (Value.int .i64 (x + 1))) := (Near.refl _ w3).setCell hkb hsm _
        have hbA := hb.alloc (by have := hb.size; have := HKW.out.size; omega) (Obj.cells #[Value.int .i64 (x + 1), Value.int .i64 y] 24)
        go_roundw
        case rel =>
         refine ⟨_, x + 1, y, pre ++ [(x, y)], rfl, ⟨Nat.le_trans HKW.out.size hbA.size, fun k o hk ho => ((hbA.block k (Array.getElem?_eq_some_iff.1 hk).1).trans (HKW.out.same k o hk ho))⟩, HJ.out _ _ _ HJ3.out hbA, ?_, inA_of HV.out (by simp only; omega), ?_, ?_, ?_⟩
         · unfold Hid; exact (by simpa using (MapKept.heap_alloc (w3.setCell ⟨k, 0, none⟩ (Value.int .i64 (x + 1))) (Obj.cells #[Value.int .i64 (x + 1), Value.int .i64 y] 24)).1)
         · have h1 := HLF.out
           have h2 := left_one HIN.out hx1
           unfold Hid
           rw [List.length_append, List.length_singleton]
           omega
         · have h1 := HRS.out
           rw [rest_one HIN.out hx1] at h1
           unfold Hid; rw [← h1]; simp
         · exact HKW.out.size
        case measure =>
         rw [atOf_row HRk.out, atOf_row (x := x + 1) (y := y) (T := 24) (by simpa using (MapKept.heap_alloc (w3.setCell ⟨k, 0, none⟩ (Value.int .i64 (x + 1))) (Obj.cells #[Value.int .i64 (x + 1), Value.int .i64 y] 24)).1)]
         have h2 := left_one HIN.out hx1
         omega
      · have HJ3 := Lib.hid hJ3
        clear hJ3 hR hy
        gi_wp2
        refine bodyPost_ret (results_none rfl _ _ _) rfl ?_
        exact ⟨⟨_, rfl⟩, Or.inr ⟨_, by have := HRS.out; rw [rest_one HIN.out hx1] at this; exact pre_of this, HJ3.out⟩⟩
end Go.Proofs.YtdoeejhdenifpaaGreatDoor
