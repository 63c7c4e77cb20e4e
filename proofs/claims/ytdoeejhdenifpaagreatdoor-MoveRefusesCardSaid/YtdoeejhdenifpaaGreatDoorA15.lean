import Derived.Test.YtdoeejhdenifpaaGreatDoorZ1
import Derived.Test.YtdoeejhdenifpaaGreatDoorW44
import Derived.Test.YtdoeejhdenifpaaGreatDoorA4
import Derived.Test.YtdoeejhdenifpaaGreatDoorA8
import Derived.Test.YtdoeejhdenifpaaGreatDoorA11
import Derived.Test.YtdoeejhdenifpaaGreatDoorA12
import Derived.Test.YtdoeejhdenifpaaGreatDoorA14
import Derived.Test.YtdoeejhdenifpaaGreatDoorA5
import Derived.Deep.MidRow
import Derived.Sort.CutIn
import Derived.Test.YtdoeejhdenifpaaGreatDoorA13
import Derived.RangeFuncWrites
import Derived.StillTailTactics
/- Two contents are the same: grid.Same answers as their keys do. -/
namespace Go.Proofs.YtdoeejhdenifpaaGreatDoor
open Go.RowKit Go.Sort
inductive KeyC where
 | p (v : Int × KeyV) | f (t : NodeT) | o
def keyC (c : ContT) : Int × KeyC := (c.kind, if (c.kind == 1) = true then .p (keyV c.v) else if (c.kind == 2) = true then .f (copyT c.t) else .o)
noncomputable def sameCB (a b : ContT) : Bool := @decide (keyC a = keyC b) (Classical.propDecidable _)
theorem sameCB_iff (a b : ContT) : sameCB a b = true ↔ keyC a = keyC b := @decide_eq_true_iff _ (Classical.propDecidable _)
theorem sameVB_iff (a b : ValT) : sameVB a b = true ↔ keyV a = keyV b := @decide_eq_true_iff _ (Classical.propDecidable _)
theorem sameCB_kind {a b : ContT} (h : (a.kind == b.kind) = false) : sameCB a b = false := by
 cases hs : sameCB a b
 · rfl
 · have := congrArg Prod.fst ((sameCB_iff _ _).1 hs)
   simp only [keyC] at this
   rw [this] at h; simp at h
theorem sameCB_1 {a b : ContT} (h : (a.kind == b.kind) = true) (h1 : (a.kind == 1) = true) : sameCB a b = sameVB a.v b.v := by
 have e := eq_of_beq h
 rw [Bool.eq_iff_iff, sameCB_iff, sameVB_iff]
 unfold keyC
 rw [← e]; simp [h1]
theorem sameCB_2 {a b : ContT} (h : (a.kind == b.kind) = true) (h1 : (a.kind == 1) = false) (h2 : (a.kind == 2) = true) : sameCB a b = sameTB a.t b.t := by
 have e := eq_of_beq h
 rw [Bool.eq_iff_iff, sameCB_iff, sameTB_iff]
 unfold keyC
 rw [← e]; simp [h1, h2]
theorem sameCB_o {a b : ContT} (h : (a.kind == b.kind) = true) (h1 : (a.kind == 1) = false) (h2 : (a.kind == 2) = false) : sameCB a b = true := by
 have e := eq_of_beq h
 rw [sameCB_iff]
 unfold keyC
 rw [← e]; simp [h1, h2]
set_option maxRecDepth 100000 in
set_option maxHeartbeats 4000000 in
theorem gsame_any (n : Nat) (a b : ContT) (aa ba : Option Addr) (ac bc : Nat) (w : World) (ha : ArgsIn w n (.slice aa a.t.args.length ac) a.t.args) (hb : ArgsIn w n (.slice ba b.t.args.length bc) b.t.args) :
    Calls Tryz.prog 17 #[contV a aa a.t.args.length ac, contV b ba b.t.args.length bc] w fun e w' => e = .returned (.bool (sameCB a b)) ∧ Gr w w' := by
 obtain ⟨w0, hw0, hg0, hs0, hN⟩ := boxC w a aa a.t.args.length ac 51
 obtain ⟨w1, hw1, hg1, hs1, hM⟩ := boxC w0 b ba b.t.args.length bc 51
 rw [hs0] at hM
 have hN := hN.xt hg1.xt
 obtain ⟨k0, k1, k2, k3, k4, k5, k6, k7, k8, k9, k10, k11, k12, k13, k14, k15, k16, k17, k18, k19, k20⟩ := hN
 obtain ⟨m0, m1, m2, m3, m4, m5, m6, m7, m8, m9, m10, m11, m12, m13, m14, m15, m16, m17, m18, m19, m20⟩ := hM
 simp only [Nat.zero_add] at k0 k1 k2 k3 k4 k5 k6 k7 k8 k9 k10 k11 k12 k13 k14 k15 k16 k17 k18 k19 k20 m0 m1 m2 m3 m4 m5 m6 m7 m8 m9 m10 m11 m12 m13 m14 m15 m16 m17 m18 m19 m20
 have HG := Lib.hid (hg0.trans hg1)
 have HV := Lib.hid (vSame_any a.v b.v w1)
 have HT := Lib.hid (fsame_any n a.t b.t aa ba ac bc w1 (ha.xt (hg0.trans hg1).xt) (hb.xt (hg0.trans hg1).xt))
 clear ha hb hg0 hg1
 cases hk : (a.kind == b.kind)
 · have HS := Lib.hid (sameCB_kind hk)
   clear k1 k2 k3 k4 k5 k6 k7 k8 k9 k10 k11 k12 k13 k14 k15 k16 k17 k18 k19 k20 m1 m2 m3 m4 m5 m6 m7 m8 m9 m10 m11 m12 m13 m14 m15 m16 m17 m18 m19 m20
   go_enter Tryz.func17, Tryz.ntmps17
   go_wp2_with fail
   go_ret
   exact ⟨by rw [HS.out]; rfl, HG.out⟩
 cases h1 : (a.kind == 1)
 rotate_left
 · have HS := Lib.hid (sameCB_1 hk h1)
   clear k6 k7 k8 k9 k10 k11 k12 k13 k14 k15 k16 k17 k18 k19 k20 m6 m7 m8 m9 m10 m11 m12 m13 m14 m15 m16 m17 m18 m19 m20
   go_enter Tryz.func17, Tryz.ntmps17
   go_wp2_with (refine (HV.out).mono ?_; rintro e w2 ⟨rfl, hg2⟩; have HG2 := Lib.hid hg2; clear hg2)
   go_ret
   exact ⟨by rw [HS.out]; rfl, HG.out.trans HG2.out⟩
 cases h2 : (a.kind == 2)
 · have HS := Lib.hid (sameCB_o hk h1 h2)
   clear k1 k2 k3 k4 k5 k6 k7 k8 k9 k10 k11 k12 k13 k14 k15 k16 k17 k18 k19 k20 m1 m2 m3 m4 m5 m6 m7 m8 m9 m10 m11 m12 m13 m14 m15 m16 m17 m18 m19 m20
   go_enter Tryz.func17, Tryz.ntmps17
   go_wp2_with fail
   go_ret
   exact ⟨by rw [HS.out]; rfl, HG.out⟩
 · have HS := Lib.hid (sameCB_2 hk h1 h2)
   clear k1 k2 k3 k4 k5 m1 m2 m3 m4 m5
   go_enter Tryz.func17, Tryz.ntmps17
   go_wp2_with (refine (HT.out).mono ?_; rintro e w2 ⟨rfl, hg2⟩; have HG2 := Lib.hid hg2; clear hg2)
   go_ret
   exact ⟨by rw [HS.out]; rfl, HG.out.trans HG2.out⟩
end Go.Proofs.YtdoeejhdenifpaaGreatDoor
/- Plain grids; what a copy has is valid as what it was copied from. -/
namespace Go.Proofs.YtdoeejhdenifpaaGreatDoor
open Go.RowKit Go.Sort
theorem sameCB_refl (c : ContT) : sameCB c c = true := (sameCB_iff _ _).2 rfl
end Go.Proofs.YtdoeejhdenifpaaGreatDoor
/- quadrillelaw22.known: a formula goes along with a row (made by mkm11.py). -/
namespace Go.Proofs.YtdoeejhdenifpaaGreatDoor
open Go.RowKit Go.Sort
def kPlain : ContT := ⟨1, ⟨1, 4619567317775286272, ⟨#[]⟩, false, 0⟩, zeroC.t⟩
def kForm : ContT := ⟨2, zeroC.v, refT (1, 1)⟩
def kGrid : PG := putP (putP [] (1, 1) kPlain) (2, 1) kForm
def kOut : PG := goAll (cellF false ⟨1, 2, 4096⟩) (areaF false ⟨1, 2, 4096⟩) kGrid
theorem kPlain_ok : kPlain.ok := by simp [ContT.ok, kPlain, zeroC, NodeT.ok, okL, ByteArray.size]
theorem kForm_ok : kForm.ok := by simp [ContT.ok, kForm, refT, zeroC, NodeT.ok, okL, ByteArray.size]
theorem k_code1 : codeP [] (1, 1) kPlain = 0 := by kernel_rfl
theorem k_code2 : codeP (putP [] (1, 1) kPlain) (2, 1) kForm = 0 := by kernel_rfl
theorem k_stop : goStop (cellF false ⟨1, 2, 4096⟩) 2 kGrid = false := by kernel_rfl
theorem k_made : (madeL (manyL false) 1 2).2 = true := by kernel_rfl
theorem k_len : kOut.length = 2 := by kernel_rfl
theorem k_at : ((lkM (2, 3) kOut).getD zeroC).kind = 2 ∧ ((lkM (2, 3) kOut).getD zeroC).t.ref.a = (1, 3) := ⟨by kernel_rfl, by kernel_rfl⟩
theorem k_x : oneX ((lkM (1, 3) kOut).getD zeroC).v.x = 4619567317775286272 := by kernel_rfl
theorem er_getD (a : Ad) (M : GM) : ((lkM a M).getD (zeroC, none)).1 = (lkM a (er M)).getD zeroC := by rw [er_lk]; cases lkM a M <;> rfl
theorem k_keep {w w' : World} {b : Nat} {u v x : Value} (h : w.cell? ⟨b, 0, none⟩ = some u ∧ w.cell? ⟨b, 12, none⟩ = some v ∧ w.cell? ⟨b, 13, none⟩ = some x) (hx : Xt w w') : w'.cell? ⟨b, 0, none⟩ = some u ∧ w'.cell? ⟨b, 12, none⟩ = some v ∧ w'.cell? ⟨b, 13, none⟩ = some x := ⟨hx.cellsIn _ _ _ h.1, hx.cellsIn _ _ _ h.2.1, hx.cellsIn _ _ _ h.2.2⟩
@[go_sem] theorem run_field_cv (y : ContT) (a : Option Addr) (n m : Nat) (w : World) : (Instr.field 51 (contV y a n m) 1).run Tryz.prog w = .ok (.agg #[.int .i64 y.v.kind, .float .f64 y.v.x, .string y.v.s, .bool y.v.b, .int .i64 y.v.f]) w := by
 have u := run_underlying Tryz.underlying51
 have u2 := run_underlying Tryz.underlying44
 simp [Instr.field, u, part, asAgg]
theorem float7 : FloatKind.f64.format.order 4619567317775286272 4619567317775286272 = some Ordering.eq := by decide +kernel
theorem kPlain_small : smallT kPlain.t := by simp [kPlain, zeroC, smallT, smallL]
theorem kForm_small : smallT kForm.t := by simp [kForm, refT, smallT, smallL]
theorem args_nil {w : World} : ArgsIn w 0 (.slice none 0 0) [] := ⟨rfl, none, 0, rfl, by omega⟩
theorem k_alloc2 {w w' : World} {a b : Obj} (h : w' = (w.alloc a).alloc b) : Xt w w' := by rw [h]; exact ((Xt.refl _).alloc _).alloc _
theorem k_alloc1 {w w' : World} {a : Obj} (h : w' = w.alloc a) : Xt w w' := by rw [h]; exact (Xt.refl _).alloc _
theorem kGrid_ok : GOk kGrid := (GOk.nil.put _ kPlain_ok).put _ kForm_ok
theorem k_rows (gb mb : Nat) (M : GM) (hM : er M = kGrid) (w : World) (hG : GridIs w gb mb M) (hT : Tabs w) :
    Calls Tryz.prog 33 #[.pointer (some ⟨gb, 0, none⟩), .int .i64 1, .int .i64 2] w fun e w' => ∃ go mo Mo, e = .returned (.tuple #[.pointer (some ⟨go, 0, none⟩), .int .i64 0]) ∧ GridIs w' go mo Mo ∧ er Mo = kOut ∧ Xt w w' :=
 (rows_any 1 2 gb mb M w hG hT (hM ▸ kGrid_ok)).mono fun e w' h => by
  obtain ⟨hx, (⟨h1, _⟩ | ⟨_, (⟨h2, _⟩ | ⟨_, go, mo, Mo, rfl, h3, h4, _⟩)⟩)⟩ := h
  · rw [k_made] at h1; cases h1
  · rw [hM] at h2; exact absurd (k_stop.symm.trans h2) (by decide)
  · rw [hM] at h4; exact ⟨go, mo, Mo, rfl, h3, h4, hx⟩
set_option maxRecDepth 100000 in
set_option maxHeartbeats 4000000 in
theorem known_any (w : World) (hT : Tabs w) : Calls Tryz.prog 9 #[] w fun e w' => e = .returned (.bool true) ∧ Xt w w' := by
 have HT := Lib.hid hT
 have hq2 := fun w f lb => run_eql_func_nil (P := Tryz.prog) w 75 _ _ _ (.func f) #[] lb Tryz.underlying75
 have hqn := fun w f lb => run_eql_func_nil (P := Tryz.prog) w 85 _ _ _ (.func f) #[] lb Tryz.underlying85
 have hqa := fun w f lb => run_eql_func_nil (P := Tryz.prog) w 39 _ _ _ (.func f) #[] lb Tryz.underlying39
 clear hT
 go_enter Tryz.func9, Tryz.ntmps9
 have hm1 : True := trivial
 have hm2 : True := trivial
 go_wp2_with (first
  | (go_at_call 35; refine (gnew_any _).mono ?_; rintro e w1 ⟨rfl, hG1, hg1⟩; have HX := Lib.hid hg1.xt; have HG := Lib.hid hG1; clear hg1 hG1)
  | (go_at_call 14; refine (at_any (_, _) _).mono ?_; rintro e w2 ⟨rfl, hg2⟩; have HX := Lib.hid (HX.out.trans hg2.xt); have HG := Lib.hid (HG.out.xt hg2.xt); clear hg2)
  | (go_at_call 36; refine (ref_any (_, _) _).mono ?_; rintro e w2 ⟨rfl, hg2⟩; have HX := Lib.hid (HX.out.trans hg2); have HG := Lib.hid (HG.out.xt hg2); clear hg2)
  | (go_at_call 25; have hm0 := hm1; clear hm1 hm0; refine (gput_any 0 _ _ [] (1, 1) kPlain none 0 _ HG.out kPlain_ok (HT.out.xt HX.out) kPlain_small args_nil).mono ?_; rintro e w3 ⟨zp, rfl, hG3, hg3⟩; rw [show putCode ([] : GM) (1, 1) kPlain = 0 from (er_code _ _ _).trans k_code1]; have HX := Lib.hid (HX.out.grownB hg3 (fun q hq => by cases hq; exact Nat.le_refl _)); have HG := Lib.hid hG3; clear hG3 hg3)
  | (go_at_call 25; have hm0 := hm2; clear hm2 hm0; refine (gput_any 0 _ _ (putTo [] (1, 1) kPlain zp) (2, 1) kForm none 0 _ HG.out kForm_ok (HT.out.xt HX.out) kForm_small args_nil).mono ?_; rintro e w4 ⟨zq, rfl, hG3, hg3⟩; rw [show putCode (putTo ([] : GM) (1, 1) kPlain zp) (2, 1) kForm = 0 from (er_code _ _ _).trans (by rw [er_put]; exact k_code2)]; have HX := Lib.hid (HX.out.grownB hg3 (fun q hq => by cases hq; exact Nat.le_refl _)); have HG := Lib.hid hG3; clear hG3 hg3)
  | (go_at_call 33; refine (k_rows _ _ _ (by rw [er_put, er_put]; rfl) _ HG.out (HT.out.xt HX.out)).mono ?_; rintro e w5 ⟨go, mo, Mo, rfl, hG5, hE5, hx5⟩; have HX := Lib.hid (HX.out.trans hx5); have HG := Lib.hid hG5; have HE := Lib.hid hE5; have hlen : (Mo.length : Int) = 2 := (by rw [← er_len, hE5, k_len]; rfl); clear hG5 hE5 hx5)
  | (go_at_call 19; refine (glen_any _ _ _ _ HG.out).mono ?_; rintro e w6 ⟨rfl, rfl⟩; rw [hlen])
  | (go_at_call 37; refine ((callsIn_wide (n := 20)).1 (all_in 20 (by omega) _ _)).mono ?_; rintro e w6 ⟨rfl, hw6⟩; have hx6 := k_alloc2 hw6; have HX := Lib.hid (HX.out.trans hx6); have HG := Lib.hid (HG.out.xt hx6); clear hx6 hw6)
  | (go_at_call 38; refine (nodes_any 0 (refT (1, 1)) none 0 _ kForm_small args_nil).mono ?_; rintro e w6 ⟨bn, an, nn, rfl, _, _, _, hx6⟩; have HX := Lib.hid (HX.out.trans hx6); have HG := Lib.hid (HG.out.xt hx6); clear hx6)
  | (go_at_call 39; refine (cells_any ⟨_, _, _, _⟩ _).mono ?_; rintro e w6 ⟨rfl, hw6⟩; have hx6 := k_alloc1 hw6; have HX := Lib.hid (HX.out.trans hx6); have HG := Lib.hid (HG.out.xt hx6); clear hx6 hw6)
  | (go_at_call 15; refine (gget_any _ _ _ (2, 3) _ HG.out).mono ?_; rintro e w7 ⟨n7, a7, rfl, hA7, hx7⟩; obtain ⟨z, hz1, hz2⟩ : ∃ z : CE, z.1 = copyC ((lkM (2, 3) Mo).getD (zeroC, none)).1 ∧ z.2 = a7 := ⟨(_, _), rfl, rfl⟩; have hzv : copyCV ((lkM (2, 3) Mo).getD (zeroC, none)).1 a7 = ceV z := (by rw [← ceV_copy]; obtain ⟨z1, z2⟩ := z; simp only at hz1 hz2; rw [hz1, hz2]); rw [hzv]; have HZ : Hid (z.1.kind = 2 ∧ z.1.t.ref.a = (1, 3)) := (by unfold Hid; rw [hz1, er_getD, HE.out]; exact ⟨k_at.1, (congrArg RefT.a (copyT_ref _)).trans k_at.2⟩); have HX := Lib.hid (HX.out.trans hx7); have HG := Lib.hid (HG.out.xt hx7); obtain ⟨wZ, wR, hwZ, hwR, hrZ, hrR, hxR, hsR, hxZ, hsZ⟩ := boxR w7 z; have HX := Lib.hid (HX.out.trans hxR); have HG := Lib.hid (HG.out.xt hxR); have HRZ := Lib.hid hrZ; have HRR := Lib.hid hrR; have HWR := Lib.hid hwR; clear hrZ hwR hrR hxR hxZ hA7 hx7 hzv hz1 hz2)
  | (refine wpList_store_row (P := Tryz.prog) rfl 51 _ _ rfl w7.heap.size #[.int .i64 z.1.kind, .int .i64 z.1.v.kind, .float .f64 z.1.v.x, .string z.1.v.s, .bool z.1.v.b, .int .i64 z.1.v.f, .int .i64 z.1.t.kind, .int .i64 z.1.t.op, .float .f64 z.1.t.x, .string z.1.t.s, .bool z.1.t.b, .int .i64 z.1.t.f, .int .i64 z.1.t.ref.a.1, .int .i64 z.1.t.ref.a.2, .bool z.1.t.ref.cf, .bool z.1.t.ref.rf, .int .i64 z.1.t.to.a.1, .int .i64 z.1.t.to.a.2, .bool z.1.t.to.cf, .bool z.1.t.to.rf, .slice z.2 z.1.t.args.length z.1.t.args.length] rfl rfl 51 _ HRZ.out (by kernel_rfl) rfl (by simp [Value.oneCell']) ?_; rw [HWR.out]))
 have HH0 : Hid (wR.drew.cell? ⟨w7.heap.size, 0, none⟩ = some (.int .i64 2) ∧ wR.drew.cell? ⟨w7.heap.size, 12, none⟩ = some (.int .i64 1) ∧ wR.drew.cell? ⟨w7.heap.size, 13, none⟩ = some (.int .i64 3)) := by
  have h : wR.drew.heap[w7.heap.size]? = _ := HRR.out
  have h1 := HZ.out.1
  have h2 := congrArg Prod.fst HZ.out.2
  have h3 := congrArg Prod.snd HZ.out.2
  simp only at h2 h3
  refine ⟨?_, ?_, ?_⟩ <;> simp [World.cell?, h, h1, h2, h3]
 have HX := Lib.hid (HX.out.trans (Xt.refl wR).drew)
 have HG := Lib.hid (HG.out.xt (Xt.refl wR).drew)
 refine wp_region_held_drew (S := fun V => V.cell? ⟨w7.heap.size, 0, none⟩ = some (.int .i64 2) ∧ V.cell? ⟨w7.heap.size, 12, none⟩ = some (.int .i64 1) ∧ V.cell? ⟨w7.heap.size, 13, none⟩ = some (.int .i64 3)) (by kernel_rfl) HH0.out (fun hHeld => ?_)
 refine tkH 0 ?_ ?_ ?_
 rotate_left
 · intro V hSw; (try dsimp only at hSw); obtain ⟨u0, u1, u2⟩ := hSw; go_simp; first | done | with_reducible rfl
 try simp only [Act.put, nm]
 refine tkH 1 ?_ ?_ ?_
 rotate_left
 · intro V hSw; (try dsimp only at hSw); obtain ⟨u0, u1, u2⟩ := hSw; go_simp; first | done | with_reducible rfl
 try simp only [Act.put, nm]
 refine tkH 2 ?_ ?_ ?_
 rotate_left
 · intro V hSw; (try dsimp only at hSw); obtain ⟨u0, u1, u2⟩ := hSw; go_simp; first | done | with_reducible rfl
 try simp only [Act.put, nm]
 refine tkH 3 ?_ ?_ ?_
 rotate_left
 · intro V hSw; (try dsimp only at hSw); obtain ⟨u0, u1, u2⟩ := hSw; go_simp; first | done | with_reducible rfl
 try simp only [Act.put, nm]
 refine tkH 4 ?_ ?_ ?_
 rotate_left
 · intro V hSw; (try dsimp only at hSw); obtain ⟨u0, u1, u2⟩ := hSw; go_simp; first | done | with_reducible rfl
 try simp only [Act.put, nm]
 refine tkH 5 ?_ ?_ ?_
 rotate_left
 · intro V hSw; (try dsimp only at hSw); obtain ⟨u0, u1, u2⟩ := hSw; go_simp; first | done | with_reducible rfl
 try simp only [Act.put, nm]
 refine tkH 6 ?_ ?_ ?_
 rotate_left
 · intro V hSw; (try dsimp only at hSw); obtain ⟨u0, u1, u2⟩ := hSw; go_simp; first | done | with_reducible rfl
 try simp only [Act.put, nm]
 refine tkH 7 ?_ ?_ ?_
 rotate_left
 · intro V hSw; (try dsimp only at hSw); obtain ⟨u0, u1, u2⟩ := hSw; go_simp; first | done | with_reducible rfl
 try simp only [Act.put, nm]
 refine rdH 8 (fun K hK => ?_)
 go_simp
 refine (at_any (_, _) _).mono ?_
 rintro e v1 ⟨rfl, hg⟩
 have HHv1 := Lib.hid (k_keep HH0.out hg.xt)
 have HX := Lib.hid (HX.out.trans hg.xt)
 have HG := Lib.hid (HG.out.xt hg.xt)
 refine hK.out _ _ HHv1.out (fun hHeldv1 => ?_)
 clear hg
 clear hK K
 refine tkH 9 (.bool true) ?_ ?_
 · intro V hSw; (try dsimp only at hSw); obtain ⟨u0, u1, u2⟩ := hSw; go_simp; first | done | with_reducible rfl | (simp [eqAd2])
 try simp only [Act.put, nm]
 refine tkH 10 ?_ ?_ ?_
 rotate_left
 · intro V hSw; (try dsimp only at hSw); obtain ⟨u0, u1, u2⟩ := hSw; go_simp; first | done | with_reducible rfl
 try simp only [Act.put, nm]
 refine tkH 11 ?_ ?_ ?_
 rotate_left
 · intro V hSw; (try dsimp only at hSw); obtain ⟨u0, u1, u2⟩ := hSw; go_simp; first | done | with_reducible rfl
 try simp only [Act.put, nm]
 refine tkH 12 ?_ ?_ ?_
 rotate_left
 · intro V hSw; (try dsimp only at hSw); obtain ⟨u0, u1, u2⟩ := hSw; go_simp; first | done | with_reducible rfl
 try simp only [Act.put, nm]
 refine rdH 13 (fun K hK => ?_)
 go_simp
 refine (at_any (_, _) _).mono ?_
 rintro e v2 ⟨rfl, hg⟩
 have HHv2 := Lib.hid (k_keep HHv1.out hg.xt)
 have HX := Lib.hid (HX.out.trans hg.xt)
 have HG := Lib.hid (HG.out.xt hg.xt)
 refine hK.out _ _ HHv2.out (fun hHeldv2 => ?_)
 clear hg
 clear hK K
 refine rdH 14 (fun K hK => ?_)
 go_simp
 refine (gget_any _ _ _ (1, 3) _ HG.out).mono ?_
 rintro e v3 ⟨n8, a8, rfl, hA8, hx8⟩
 obtain ⟨y, hy⟩ : ∃ y : ContT, copyC ((lkM (1, 3) Mo).getD (zeroC, none)).1 = y := ⟨_, rfl⟩
 have hyx : y.v.x = 4619567317775286272 := by rw [← hy, er_getD, HE.out]; exact k_x
 have HHv3 := Lib.hid (k_keep HHv2.out hx8)
 have HX := Lib.hid (HX.out.trans hx8)
 simp only [copyCV, hy]
 refine hK.out _ _ HHv3.out (fun hHeldv3 => ?_)
 clear hx8 hA8
 clear hK K
 try simp only [Act.put, nm]
 refine tkH 15 ?_ ?_ ?_
 rotate_left
 · intro V hSw; (try dsimp only at hSw); obtain ⟨u0, u1, u2⟩ := hSw; go_simp; first | done | with_reducible rfl
 try simp only [Act.put, nm]
 refine tkH 16 ?_ ?_ ?_
 rotate_left
 · intro V hSw; (try dsimp only at hSw); obtain ⟨u0, u1, u2⟩ := hSw; go_simp; first | done | with_reducible rfl
 try simp only [Act.put, nm]
 refine tkH 17 (.bool true) ?_ ?_
 · intro V hSw; (try dsimp only at hSw); obtain ⟨u0, u1, u2⟩ := hSw; go_simp; first | done | with_reducible rfl | exact float7
 try simp only [Act.put, nm]
 refine tkH 18 ?_ ?_ ?_
 rotate_left
 · intro V hSw; (try dsimp only at hSw); obtain ⟨u0, u1, u2⟩ := hSw; go_simp; first | done | with_reducible rfl
 try simp only [Act.put, nm]
 refine rdH 19 (fun K hK => ?_)
 go_simp
 refine hK.out _ _ HHv3.out (fun hHeld9 => ?_)
 clear hK K
 refine wpAnyH_done (by kernel_rfl) ?_ _
 go_wp2_with fail
 go_ret
 exact ⟨rfl, HX.out⟩
end Go.Proofs.YtdoeejhdenifpaaGreatDoor
/- Small laws for the walks of quadrillelaw22. -/
namespace Go.Proofs.YtdoeejhdenifpaaGreatDoor
open Go.RowKit Go.Sort Go.Maps Go.Shelf Go.MapKept
attribute [local go_sem] Oper.semAt_some
end Go.Proofs.YtdoeejhdenifpaaGreatDoor
/- move.Copy (made by mkt7.py). -/
namespace Go.Proofs.YtdoeejhdenifpaaGreatDoor
open Go.RowKit Go.Sort Go.Maps Go.Shelf Go.MapKept
attribute [local go_sem] Oper.semAt_some
def CopyR (o : Option PG) (w : World) (e : Ending) (w' : World) : Prop :=
 Xt w w' ∧ ((e = .returned (.tuple #[.pointer none, .int .i64 41]) ∧ o = none) ∨ ∃ go mo Mo, e = .returned (.tuple #[.pointer (some ⟨go, 0, none⟩), .int .i64 0]) ∧ GridIs w' go mo Mo ∧ o = some (er Mo) ∧ w.heap.size ≤ mo)
theorem code_41 {P : PG} {y : Ad} {c : ContT} {cc rr : Int} (hv : validB y.1 y.2 = true) (h1 : gvalidB c = true) (h2 : (c.kind == 0) = false) (h : codeP P y (shC cc rr (copyC c)) ≠ 0) : codeP P y (shC cc rr (copyC c)) = 41 := by
 rw [(code_sh cc rr hv h1 h2).1] at h ⊢
 split at h
 · rename_i e; rw [if_pos e]
 · exact absurd rfl h
end Go.Proofs.YtdoeejhdenifpaaGreatDoor
/- A loop over an iterator that writes small rows of its own between its rounds (made by mkl21.py). -/
namespace Go.Proofs.YtdoeejhdenifpaaGreatDoor
open Go.RowKit
structure Near (B : Nat) (W W' : World) : Prop where
 os : W'.os = W.os
 tape : W'.tape = W.tape
 output : W'.output = W.output
 size : W.heap.size ≤ W'.heap.size
 block : ∀ k, k < B → W'.heap[k]? = W.heap[k]?
 small : ∀ k, W'.heap[k]? = W.heap[k]? ∨ ∀ o u, W.cell? ⟨k, o, none⟩ = some u → o ≤ 1
theorem Near.refl (B : Nat) (W : World) : Near B W W := ⟨rfl, rfl, rfl, Nat.le_refl _, fun _ _ => rfl, fun _ => Or.inl rfl⟩
theorem Near.trans {B : Nat} {X Y Z : World} (h : Near B X Y) (k : Near B Y Z) : Near B X Z :=
 ⟨k.os.trans h.os, k.tape.trans h.tape, k.output.trans h.output, Nat.le_trans h.size k.size, fun i hi => (k.block i hi).trans (h.block i hi), fun i => by
  rcases h.small i with e | e
  · rcases k.small i with e2 | e2
    · exact Or.inl (e2.trans e)
    · refine Or.inr fun o u hu => e2 o u ?_
      exact (World.cell?_of_block (w := X) (a := ⟨i, o, none⟩) e).trans hu
  · exact Or.inr e⟩
theorem Near.mono {A B : Nat} {X Y : World} (h : Near B X Y) (hA : A ≤ B) : Near A X Y := ⟨h.os, h.tape, h.output, h.size, fun k hk => h.block k (by omega), h.small⟩
theorem Near.below {B : Nat} {X Y : World} (h : Near B X Y) : Below B X Y := ⟨h.os, h.tape, h.output, h.size, fun k hk => h.block k hk⟩
theorem Near.alloc {B : Nat} {X Y : World} (h : Near B X Y) (hB : B ≤ Y.heap.size) (o : Obj) : Near B X (Y.alloc o) :=
 ⟨h.os, h.tape, h.output, Nat.le_trans h.size (by simp), fun k hk => (Below.heap_alloc Y o _ (by omega)).trans (h.block k hk), fun k => by
  by_cases hk : k < Y.heap.size
  · rcases h.small k with e | e
    · exact Or.inl ((Below.heap_alloc Y o _ hk).trans e)
    · exact Or.inr e
  · refine Or.inr fun o u hu => ?_
    have h1 : k < X.heap.size := World.block_lt_of_cell? X _ hu
    have h2 := h.size
    omega⟩
theorem Near.setCell {B k o : Nat} {X Y : World} (h : Near B X Y) (hk : B ≤ k) (hs : ∀ o u, X.cell? ⟨k, o, none⟩ = some u → o ≤ 1) (v : Value) : Near B X (Y.setCell ⟨k, o, none⟩ v) :=
 ⟨h.os, h.tape, h.output, Nat.le_trans h.size (by simp), fun i hi => (Below.heap_setCell _ _ _ _ (by simp; omega)).trans (h.block i hi), fun i => by
  by_cases e : i = k
  · subst e; exact Or.inr hs
  · rcases h.small i with q | q
    · exact Or.inl ((Below.heap_setCell _ _ _ _ (by simpa using e)).trans q)
    · exact Or.inr q⟩
def NearFrom {β : Type} (B : Nat) (J : β → World → Prop) : Prop := ∀ s W W', J s W → Near B W W' → J s W'
section
variable {α : Type} {n : Nat} {P : Program}
def SeqNear (n : Nat) (P : Program) (g : Nat) (lb : Array Value) (encs : α → Array Value) (Kp : World → World → Prop) (T : World → α → World → Prop) (S Sp : List α → Prop) (N : Nat) (w0 : World) : Prop :=
 ∀ (l : Nat) (J Jx : List α → World → Prop) (W : World), Below w0.heap.size w0 W → NearFrom W.heap.size J → NearFrom W.heap.size Jx →
  (∀ pre x W1, J pre W1 → (∃ V, J pre V ∧ T V x W1) → pre.length < N → YieldAt Fence.wide (n - 1) P l (encs x) W1 fun e W' => (e = .returned (.bool true) ∧ J (pre ++ [x]) W' ∧ Kp W1 W') ∨ (e = .returned (.bool false) ∧ Jx (pre ++ [x]) W')) →
  J [] W →
  CallsIn Fence.wide n P g (#[.func (.yield l) #[] #[]] ++ lb) W fun e W' => (∃ v, e = .returned v) ∧ ((∃ xs, S xs ∧ J xs W') ∨ (∃ pre, Sp pre ∧ Jx pre W'))
theorem NearFrom.alloc {β : Type} {B : Nat} {J : β → World → Prop} (h : NearFrom B J) {s : β} {W : World} (o : Obj) (hs : J s W) (hB : B ≤ W.heap.size) : J s (W.alloc o) := h s W _ hs ((Near.refl _ _).alloc hB o)
theorem NearFrom.putObj {β : Type} {B : Nat} {J : β → World → Prop} (h : NearFrom B J) {s : β} {W : World} {l : Nat} (o' : Obj) (hs : J s W) (hl : B ≤ l) {o : Obj} (ho : W.heap[l]? = some o) (hc : o.isCells = false) : J s (W.putObj l o') :=
 h s W _ hs ⟨(grownBy_putObj' W l o').os, (grownBy_putObj' W l o').tape, (grownBy_putObj' W l o').output, (grownBy_putObj' W l o').size, fun k hk => World.putObj_heap_other (by omega), fun k => by
  by_cases e : k = l
  · subst e
    refine Or.inr fun q u hu => ?_
    rw [World.cell?] at hu
    simp only [ho] at hu
    cases o <;> simp_all [Obj.isCells]
  · exact Or.inl (World.putObj_heap_other e)⟩
theorem Books.near {D : Nat} {L : Loop} {W W' : World} (h : Books D L W) (hb : Near (D + 2) W W') : Books D L W' := ⟨(hb.block _ (by omega)).trans h.loop, (hb.block _ (by omega)).trans h.late⟩
theorem rangeFunc_near {g : Operand} {ps : Array Tmp} {assign body : Code} {Q : Exit → Act → World → Prop} {a : Act} {w : World} (h1 : 1 ≤ n) {gf : Nat} {lb : Array Value} (hg : a.eval g = .func (.func gf) #[] lb) (eg : ∀ args w, (callFunc gf args).run P w = .ok (.enter gf args) w)
    {encs : α → Array Value} {Kp : World → World → Prop} {T : World → α → World → Prop} {S Sp : List α → Prop} {N : Nat} {w0 : World} (hseq : SeqNear (n - 1) P gf lb encs Kp T S Sp N w0)
    (hKt : ∀ {A B C : World}, Kp A B → Kp B C → Kp A C) (hKb : ∀ (W : World) (l : Nat) (o o' : Obj), w.heap.size ≤ l → W.heap[l]? = some o → o.isCells = false → o.isWalk = false → Kp W (W.putObj l o')) (hb0 : Below w0.heap.size w0 w) (hps : ∀ x, (encs x).size = ps.size)
    (I : List α → World → Prop) (Ix : Code → List α → World → Prop) (hI : NearFrom w.heap.size I) (hIx : ∀ c, NearFrom w.heap.size (Ix c)) (h0 : I [] w) (Ax : α → Act → World → Prop) (hAx : ∀ x a', OwnFrom w.heap.size (fun (_ : Unit) W => Ax x a' W))
    (hassign : ∀ (l : Nat) (pre : List α) (x : α) (W : World) (K : Act → World → Prop), I pre W → (∃ V, I pre V ∧ T V x W) → (∀ a' W', KeepsFrom w.heap.size W W' → Kp W W' → I pre W' → Ax x a' W' → K a' W') →
     assign.wpIn (Fence.wide.inRound l) (n - 1 - 1) P (Exit.then K (fun _ _ _ => False)) { tmps := (ps.zip (encs x)).foldl (fun t (p, v) => t.setIfInBounds p v) a.tmps, defers := [] } W)
    (hbody : ∀ (l : Nat) (pre : List α) (x : α) (a' : Act) (W : World), w.heap.size ≤ l → (∃ r, W.heap[l]? = some (.loop r)) → I pre W → Ax x a' W → pre.length < N → body.wpIn (Fence.wide.inRound l) (n - 1 - 1) P (ownPostG w.heap.size Kp I Ix (pre ++ [x]) W) a' W)
    (hdone : ∀ (D : Nat) (xs : List α) (W : World), w.heap.size ≤ D → S xs → I xs W → W.heap[D]? = some (.deferred (some [])) → Q .normal { a with defers := { target := .collected D, args := #[] } :: a.defers } W)
    (hstop : ∀ (D : Nat) (c : Code) (pre : List α) (W : World), w.heap.size ≤ D → Sp pre → Ix c pre W → W.heap[D]? = some (.deferred (some [])) → c.wpIn Fence.wide n P Q { a with defers := { target := .collected D, args := #[] } :: a.defers } W) :
    (Code.rangeFunc g ps assign body).wpIn Fence.wide n P Q a w := by
 refine wpIn_rangeFunc fun fn hfn => ?_
 let L : LoopState → Option Code → Loop := fun st pe => { state := st, pending := pe, fn, tmps := a.tmps, params := ps, assign, body, defers := w.heap.size }
 obtain ⟨V, hV⟩ : ∃ V, (w.alloc (.deferred (some []))).alloc (.loop (L .ready none)) = V := ⟨_, rfl⟩
 have hVB : Books w.heap.size (L .ready none) V := by
  rw [← hV]
  refine ⟨?_, (Below.heap_alloc _ _ _ (by simp)).trans (World.alloc_heap_new w _)⟩
  have := World.alloc_heap_new (w.alloc (.deferred (some []))) (.loop (L .ready none))
  rwa [World.size_alloc] at this
 have hVs : V.heap.size = w.heap.size + 2 := by rw [← hV]; simp
 have hVI : I [] V := by rw [← hV]; exact hI.alloc _ (hI.alloc _ h0 (Nat.le_refl _)) (by simp)
 have hVb : Below w0.heap.size w0 V := by rw [← hV]; exact hb0.trans ((((Below.refl _ w).alloc (Nat.le_refl _) _).alloc (by simp) _).mono hb0.size)
 refine ⟨w.heap.size + 1, [{ target := .collected w.heap.size, args := #[] }], V, { target := .fn (.func gf) lb, args := #[.func (.yield (w.heap.size + 1)) #[] #[]] }, V, gf, #[.func (.yield (w.heap.size + 1)) #[] #[]] ++ lb, V, ?_, ?_, fun _ _ => trivial, by simp [invoke, go_sem, eg], fun _ => h1, ?_⟩
 · rw [← hV]; exact run_enterLoop_outer _ _ _ _ _
 · simp only [resolve, hg]; simp [go_sem]
 refine (hseq (w.heap.size + 1) (fun pre W => I pre W ∧ Books w.heap.size (L .ready none) W) (fun pre W => ∃ c, Ix c pre W ∧ Books w.heap.size (L .done (some c)) W) V hVb
  (fun s A B hs hb => ⟨hI s A B hs.1 (hb.mono (by omega)), hs.2.near (hb.mono (by omega))⟩)
  (fun s A B hs hb => let ⟨c, hc, hk⟩ := hs; ⟨c, hIx c s A B hc (hb.mono (by omega)), hk.near (hb.mono (by omega))⟩) ?_ ⟨hVI, hVB⟩).mono ?_
 · rintro pre x W ⟨hi, hb⟩ ⟨V0, hV0, ht⟩ hlen
   have hy := run_yield (P := P) (args := encs x) hb.loop (hps x)
   refine ⟨fn, _, assign, body, hy, roundIn_of_wpIn hfn (hassign _ pre x W _ hi ⟨V0, hV0.1, ht⟩ ?_)⟩
   intro a' Wa hka hpa hia haa
   have hba := hb.keep hka
   refine ⟨_, run_beginRound hba.loop rfl, ?_⟩
   have hbb : Books w.heap.size { L .ready none with state := .busy } (Wa.putObj (w.heap.size + 1) (.loop { L .ready none with state := .busy })) := hba.turn
   have hpb : Kp Wa (Wa.putObj (w.heap.size + 1) (.loop { L .ready none with state := .busy })) := hKb _ _ _ _ (by omega) hba.loop rfl rfl
   refine wpIn_mono (hbody _ pre x a' _ (by omega) ⟨_, hbb.loop⟩ (hI.putObj _ hia (by omega) hba.loop rfl) ((hAx x a').putObj (s := ()) _ haa (by omega) hba.loop rfl) hlen) ?_
   have out : ∀ (jump : Option Code) (Wz : World), KeepsFrom w.heap.size (Wa.putObj (w.heap.size + 1) (.loop { L .ready none with state := .busy })) Wz →
       (Instr.endRound (w.heap.size + 1) jump).run P Wz = .ok (.bool jump.isNone) (Wz.putObj (w.heap.size + 1) (.loop (L (if jump.isNone then .ready else .done) jump))) ∧ Wz.heap[w.heap.size + 1]? = some (.loop { L .ready none with state := .busy }) ∧ Books w.heap.size (L (if jump.isNone then .ready else .done) jump) (Wz.putObj (w.heap.size + 1) (.loop (L (if jump.isNone then .ready else .done) jump))) := fun jump Wz hkz =>
    have hbz := hbb.keep hkz
    ⟨run_endRound (P := P) jump hbz.loop, hbz.loop, hbz.turn⟩
   have gone : ∀ (c : Code) (Wz : World), KeepsFrom w.heap.size (Wa.putObj (w.heap.size + 1) (.loop { L .ready none with state := .busy })) Wz → Ix c (pre ++ [x]) Wz →
       (Instr.endRound (w.heap.size + 1) (some c)).run P Wz = .ok (.bool false) (Wz.putObj (w.heap.size + 1) (.loop (L .done (some c)))) ∧ ∃ c', Ix c' (pre ++ [x]) (Wz.putObj (w.heap.size + 1) (.loop (L .done (some c)))) ∧ Books w.heap.size (L .done (some c')) (Wz.putObj (w.heap.size + 1) (.loop (L .done (some c)))) := fun c Wz hkz hiz => by
    obtain ⟨q1, q2, q3⟩ := out (some c) Wz hkz
    exact ⟨q1, c, (hIx c).putObj _ hiz (by omega) q2 rfl, q3⟩
   rintro e az Wz hz
   cases e with
   | normal =>
    obtain ⟨hkz, hpz, hiz⟩ := hz
    obtain ⟨q1, q2, q3⟩ := out none Wz hkz
    exact ⟨_, _, q1, .inl ⟨rfl, ⟨hI.putObj _ hiz (by omega) q2 rfl, q3⟩, hKt hpa (hKt (hKt hpb hpz) (hKb _ _ _ _ (by omega) q2 rfl rfl))⟩⟩
   | ret => obtain ⟨q1, q2⟩ := gone .ret Wz hz.1 hz.2; exact ⟨_, _, q1, .inr ⟨rfl, q2⟩⟩
   | exit id => obtain ⟨q1, q2⟩ := gone (.exit id) Wz hz.1 hz.2; exact ⟨_, _, q1, .inr ⟨rfl, q2⟩⟩
   | goto t => obtain ⟨q1, q2⟩ := gone (.goto t) Wz hz.1 hz.2; exact ⟨_, _, q1, .inr ⟨rfl, q2⟩⟩
   | panic ch => exact hz.elim
   | outgrown => exact hz.elim
 · rintro e Wz ⟨⟨v, rfl⟩, (⟨xs, hS, hi, hb⟩ | ⟨pre, hSp, c, hi, hb⟩)⟩
   · exact ⟨none, _, run_endLoop (P := P) hb.loop (by simp [L]), hdone _ xs _ (Nat.le_refl _) hS (hI.putObj _ hi (by omega) hb.loop rfl) ((World.putObj_heap_other (by omega)).trans hb.late)⟩
   · exact ⟨some c, _, run_endLoop (P := P) hb.loop (by simp [L]), hstop _ c pre _ (Nat.le_refl _) hSp ((hIx c).putObj _ hi (by omega) hb.loop rfl) ((World.putObj_heap_other (by omega)).trans hb.late)⟩
end
end Go.Proofs.YtdoeejhdenifpaaGreatDoor
/- addr.Cells' iterator: it writes a small row of its own (made by mkl21.py). -/
namespace Go.Proofs.YtdoeejhdenifpaaGreatDoor
open Go.RowKit Go.Sort Go.Maps Go.Shelf
attribute [local go_sem] Oper.semAt_some
theorem Near.of_xt {B : Nat} {X Y : World} (h : Xt X Y) (hB : B ≤ X.heap.size) : Near B X Y := ⟨h.os, h.tape, h.output, h.size, fun k hk => h.block k (by omega), fun k => by
 by_cases hk : k < X.heap.size
 · exact Or.inl (h.block k hk)
 · refine Or.inr fun o u hu => ?_
   have h1 : k < X.heap.size := World.block_lt_of_cell? X _ hu
   omega⟩
theorem small2 {w : World} {k : Nat} {u v : Value} {T : TypeId} (h : w.heap[k]? = some (.cells #[u, v] T (0, 0))) : ∀ o x, w.cell? ⟨k, o, none⟩ = some x → o ≤ 1 := fun o x hx => by
 have h2 : (#[u, v] : Array Value)[o]? = some x := by simpa [World.cell?, h] using hx
 have := (Array.getElem?_eq_some_iff.1 h2).1
 simp at this; omega
set_option maxRecDepth 100000 in
set_option maxHeartbeats 4000000 in
theorem cells1_near (n b : Nat) (f : ArT) (w0 : World) (hr : w0.heap[b]? = some (.cells #[.int .i64 f.a, .int .i64 f.b, .int .i64 f.c, .int .i64 f.d] 26 (0, 0))) (hv : validA f.a f.b f.c f.d = true) :
    SeqNear n Tryz.prog 79 #[.pointer (some ⟨b, 0, none⟩)] encA KC (fun _ x _ => inA f x = true) (fun xs => xs = cellsL f) (fun pre => pre <+: cellsL f) (leftN f (f.a, f.b)) w0 := fun l J Jx W hB hJ _ hY h0 => by
 have hx : Xt w0 W := hB
 have HR := Lib.hid (rowX hx hr)
 have HV := Lib.hid hv
 have hvb := validA_le hv
 have HY := Lib.hid (fun pre x W1 hj ht hl => yield_any (m' := 9 - 1) (hY pre x W1 hj ⟨W1, hj, ht⟩ hl))
 have HJ := Lib.hid (fun pre X Y (h : J pre X) (hx : Near W.heap.size X Y) => hJ pre X Y h hx)
 have HJ0 := Lib.hid h0
 have HVA := Lib.hid (fun V => validArea_any f.a f.b f.c f.d V)
 rw [hv] at HVA
 clear hY h0 hJ hr hx hB
 refine callsIn_wide.2 ((callsIn_wide (n := 9)).1 ?_)
 have hf : Fence.wide.fn 40 := trivial
 obtain ⟨⟨a0, a1, a2, a3⟩, _⟩ := cells4 HR.out
 refine callsIn_of_wp Tryz.func79 rfl trivial ?_ rfl
 simp only [Tryz.ntmps79, List.size_toArray, List.length_cons, List.length_nil, Nat.reduceAdd, Nat.reduceSub, Array.replicate_succ, Array.replicate_zero, List.push_toArray, List.append_toArray, List.nil_append, List.cons_append]
 gi_wp2_with (first
  | (gi_at_call 40; refine ((callsIn_wide (n := 9 - 1)).2 (HVA.out _)).mono ?_; rintro e w1 ⟨rfl, hg1⟩; have HX1 : Hid (Xt W w1) := hg1.xt; obtain ⟨⟨b0, b1, b2, b3⟩, _⟩ := cells4 (rowX HX1.out HR.out); clear hg1))
 obtain ⟨w2, hw2⟩ : ∃ w2, w1.alloc (.cells #[.int .i64 f.a, .int .i64 f.b] 24) = w2 := ⟨_, rfl⟩
 have HX2 : Hid (Xt W w2) := by unfold Hid; rw [← hw2]; exact HX1.out.alloc _
 have HK2 : Hid (w2.heap[w1.heap.size]? = some (.cells #[.int .i64 f.a, .int .i64 f.b] 24 (0, 0))) := by unfold Hid; rw [← hw2]; exact (MapKept.heap_alloc w1 _).1
 rw [hw2]
 clear hw2
 gi_loopw [3] (fun s3 wr => ∃ (k : Nat) (x y : Int) (pre : List Ad), s3 = .pointer (some ⟨k, 0, none⟩) ∧ Hid (KC W wr) ∧ Hid (J pre wr) ∧ Hid (wr.heap[k]? = some (.cells #[.int .i64 x, .int .i64 y] 24 (0, 0))) ∧ Hid (inA f (x, y) = true) ∧ Hid (pre.length + leftN f (x, y) = leftN f (f.a, f.b)) ∧ Hid (pre ++ restL f (leftN f (x, y)) x y = cellsL f) ∧ W.heap.size ≤ k) (fun s3 wr => leftN f (atOf wr s3))
 case atStart =>
  exact ⟨w1.heap.size, f.a, f.b, [], rfl, KC.of_xt HX2.out, HJ.out _ _ _ HJ0.out (Near.of_xt HX2.out (Nat.le_refl _)), HK2, inA_of HV.out (by simp only; omega), (by unfold Hid; simp), rfl, HX1.out.size⟩
 case round =>
  obtain ⟨k, x, y, pre, rfl, HK, HJp, HRk, HIN, HLF, HRS, hkb⟩ := hrel
  have hin := inA_le HIN.out
  simp only at hin
  obtain ⟨k0, k1, kf0, kf1⟩ := cells2 HRk.out
  obtain ⟨⟨c0, c1, c2, c3⟩, _⟩ := cells4 (HK.out.same _ _ HR.out rfl)
  have hwx : IntKind.i64.wrap (x + 1) = x + 1 := wrap_idz (by omega) (by omega)
  have hwy : IntKind.i64.wrap (y + 1) = y + 1 := wrap_idz (by omega) (by omega)
  have hbk : k ≠ b := by have := (Array.getElem?_eq_some_iff.1 HR.out).1; omega
  have hbk' : b ≠ k := fun e => hbk e.symm
  obtain ⟨fn, tmps, assign, body, hy, hR⟩ := HY.out pre (x, y) wr HJp.out HIN.out (by have := HLF.out; have := left_pos f (x, y); omega)
  dsimp only [encA, adW] at hy
  by_cases hto : x = f.c ∧ y = f.d
  · obtain ⟨rfl, rfl⟩ := hto
    gi_wp2
    refine hR.mono ?_
    rintro e w3 (⟨rfl, hJ3, hk3⟩ | ⟨rfl, hJ3⟩)
    · have HJ3 := Lib.hid hJ3
      have HK3 := Lib.hid hk3
      obtain ⟨e0, e1, ef0, ef1⟩ := cells2 (hk3.same _ _ HRk.out rfl)
      obtain ⟨⟨g0, g1, g2, g3⟩, _⟩ := cells4 ((HK.out.trans hk3).same _ _ HR.out rfl)
      clear hk3 hJ3 hR hy
      gi_wp2
      refine bodyPost_ret (results_none rfl _ _ _) rfl ?_
      exact ⟨⟨_, rfl⟩, Or.inl ⟨_, by have := HRS.out; rw [rest_end] at this; exact this, HJ3.out⟩⟩
    · have HJ3 := Lib.hid hJ3
      clear hJ3 hR hy
      gi_wp2
      refine bodyPost_ret (results_none rfl _ _ _) rfl ?_
      exact ⟨⟨_, rfl⟩, Or.inr ⟨_, by have := HRS.out; rw [rest_end] at this; exact pre_of this, HJ3.out⟩⟩
  · by_cases hx : x = f.c
    · subst hx
      have hy1 : y < f.d := by omega
      have hgt : f.c < f.c + 1 := by omega
      have hne : ¬ y = f.d := by omega
      gi_wp2
      refine hR.mono ?_
      rintro e w3 (⟨rfl, hJ3, hk3⟩ | ⟨rfl, hJ3⟩)
      · have HJ3 := Lib.hid hJ3
        have HK3 := Lib.hid hk3
        obtain ⟨e0, e1, ef0, ef1⟩ := cells2 (hk3.same _ _ HRk.out rfl)
        obtain ⟨⟨g0, g1, g2, g3⟩, _⟩ := cells4 ((HK.out.trans hk3).same _ _ HR.out rfl)
        clear hk3 hJ3 hR hy
        gi_wp2
        have HKW := Lib.hid (HK.out.trans HK3.out)
        have hsm : ∀ o u, w3.cell? ⟨k, o, none⟩ = some u → o ≤ 1 := small2 (HK3.out.same _ _ HRk.out rfl)
        have hb : Near W.heap.size w3 (((w3.setCell ⟨k, 0, none⟩ (Value.int .i64 (f.c + 1))).setCell ⟨k, 0, none⟩ (Value.int .i64 f.a)).setCell ⟨k, 1, none⟩ (Value.int .i64 (y + 1))) := (((Near.refl _ w3).setCell hkb hsm _).setCell hkb hsm _).setCell hkb hsm _
        have hbA := hb.alloc (by have := hb.size; have := HKW.out.size; omega) (Obj.cells #[Value.int .i64 f.a, Value.int .i64 (y + 1)] 24)
        go_roundw
        case rel =>
         refine ⟨_, f.a, y + 1, pre ++ [(f.c, y)], rfl, ⟨Nat.le_trans HKW.out.size hbA.size, fun k o hk ho => ((hbA.block k (Array.getElem?_eq_some_iff.1 hk).1).trans (HKW.out.same k o hk ho))⟩, HJ.out _ _ _ HJ3.out hbA, ?_, inA_of HV.out (by simp only; omega), ?_, ?_, ?_⟩
         · unfold Hid; exact (by simpa using (MapKept.heap_alloc (((w3.setCell ⟨k, 0, none⟩ (Value.int .i64 (f.c + 1))).setCell ⟨k, 0, none⟩ (Value.int .i64 f.a)).setCell ⟨k, 1, none⟩ (Value.int .i64 (y + 1))) (Obj.cells #[Value.int .i64 f.a, Value.int .i64 (y + 1)] 24)).1)
         · have h1 := HLF.out
           have h2 := left_row HIN.out rfl hy1
           unfold Hid
           rw [List.length_append, List.length_singleton]
           omega
         · have h1 := HRS.out
           rw [rest_row HIN.out hy1] at h1
           unfold Hid; rw [← h1]; simp
         · exact HKW.out.size
        case measure =>
         rw [atOf_row HRk.out, atOf_row (x := f.a) (y := y + 1) (T := 24) (by simpa using (MapKept.heap_alloc (((w3.setCell ⟨k, 0, none⟩ (Value.int .i64 (f.c + 1))).setCell ⟨k, 0, none⟩ (Value.int .i64 f.a)).setCell ⟨k, 1, none⟩ (Value.int .i64 (y + 1))) (Obj.cells #[Value.int .i64 f.a, Value.int .i64 (y + 1)] 24)).1)]
         have h2 := left_row HIN.out rfl hy1
         omega
      · have HJ3 := Lib.hid hJ3
        clear hJ3 hR hy
        gi_wp2
        refine bodyPost_ret (results_none rfl _ _ _) rfl ?_
        exact ⟨⟨_, rfl⟩, Or.inr ⟨_, by have := HRS.out; rw [rest_row HIN.out hy1] at this; exact pre_of this, HJ3.out⟩⟩
    · have hx1 : x < f.c := by omega
      have hgt : ¬ f.c < x + 1 := by omega
      gi_wp2
      refine hR.mono ?_
      rintro e w3 (⟨rfl, hJ3, hk3⟩ | ⟨rfl, hJ3⟩)
      · have HJ3 := Lib.hid hJ3
        have HK3 := Lib.hid hk3
        obtain ⟨e0, e1, ef0, ef1⟩ := cells2 (hk3.same _ _ HRk.out rfl)
        obtain ⟨⟨g0, g1, g2, g3⟩, _⟩ := cells4 ((HK.out.trans hk3).same _ _ HR.out rfl)
        clear hk3 hJ3 hR hy
        gi_wp2
        have HKW := Lib.hid (HK.out.trans HK3.out)
        have hsm : ∀ o u, w3.cell? ⟨k, o, none⟩ = some u → o ≤ 1 := small2 (HK3.out.same _ _ HRk.out rfl)
        have hb : Near W.heap.size w3 (w3.setCell ⟨k, 0, none⟩ (Value.int .i64 (x + 1))) := (Near.refl _ w3).setCell hkb hsm _
        have hbA := hb.alloc (by have := hb.size; have := HKW.out.size; omega) (Obj.cells #[Value.int .i64 (x + 1), Value.int .i64 y] 24)
        go_roundw
        case rel =>
         refine ⟨_, x + 1, y, pre ++ [(x, y)], rfl, ⟨Nat.le_trans HKW.out.size hbA.size, fun k o hk ho => ((hbA.block k (Array.getElem?_eq_some_iff.1 hk).1).trans (HKW.out.same k o hk ho))⟩, HJ.out _ _ _ HJ3.out hbA, ?_, inA_of HV.out (by simp only; omega), ?_, ?_, ?_⟩
         · unfold Hid; exact (by simpa using (MapKept.heap_alloc (w3.setCell ⟨k, 0, none⟩ (Value.int .i64 (x + 1))) (Obj.cells #[Value.int .i64 (x + 1), Value.int .i64 y] 24)).1)
         · have h1 := HLF.out
           have h2 := left_one HIN.out hx1
           unfold Hid
           rw [List.length_append, List.length_singleton]
           omega
         · have h1 := HRS.out
           rw [rest_one HIN.out hx1] at h1
           unfold Hid; rw [← h1]; simp
         · exact HKW.out.size
        case measure =>
         rw [atOf_row HRk.out, atOf_row (x := x + 1) (y := y) (T := 24) (by simpa using (MapKept.heap_alloc (w3.setCell ⟨k, 0, none⟩ (Value.int .i64 (x + 1))) (Obj.cells #[Value.int .i64 (x + 1), Value.int .i64 y] 24)).1)]
         have h2 := left_one HIN.out hx1
         omega
      · have HJ3 := Lib.hid hJ3
        clear hJ3 hR hy
        gi_wp2
        refine bodyPost_ret (results_none rfl _ _ _) rfl ?_
        exact ⟨⟨_, rfl⟩, Or.inr ⟨_, by have := HRS.out; rw [rest_one HIN.out hx1] at this; exact pre_of this, HJ3.out⟩⟩
end Go.Proofs.YtdoeejhdenifpaaGreatDoor
