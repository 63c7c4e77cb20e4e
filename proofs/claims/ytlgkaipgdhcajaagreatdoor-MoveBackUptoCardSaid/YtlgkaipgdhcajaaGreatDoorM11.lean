/- quadrillelaw22.known: a formula goes along with a row (made by mkm11.py). -/
import Derived.Test.YtlgkaipgdhcajaaGreatDoorM10
namespace Go.Proofs.YtlgkaipgdhcajaaGreatDoor
open Go.RowKit Go.Sort

def kPlain : ContT := ⟨1, ⟨1, 4619567317775286272, ⟨#[]⟩, false, 0⟩, zeroC.t⟩
def kForm : ContT := ⟨2, zeroC.v, refT (1, 1)⟩
def kGrid : PG := putP (putP [] (1, 1) kPlain) (2, 1) kForm
def kOut : PG := goAll (cellF false ⟨1, 2, 4096⟩) (areaF false ⟨1, 2, 4096⟩) kGrid
theorem kPlain_ok : kPlain.ok := by simp [ContT.ok, kPlain, zeroC, NodeT.ok, okL, ByteArray.size]
theorem kForm_ok : kForm.ok := by simp [ContT.ok, kForm, refT, zeroC, NodeT.ok, okL, ByteArray.size]
theorem k_code1 : codeP [] (1, 1) kPlain = 0 := by kernel_rfl
theorem k_code2 : codeP (putP [] (1, 1) kPlain) (2, 1) kForm = 0 := by kernel_rfl
theorem k_stop : goStop (cellF false ⟨1, 2, 4096⟩) 2 kGrid = false := by kernel_rfl
theorem k_made : (madeL (manyL false) 1 2).2 = true := by kernel_rfl
theorem k_len : kOut.length = 2 := by kernel_rfl
theorem k_at : ((lkM (2, 3) kOut).getD zeroC).kind = 2 ∧ ((lkM (2, 3) kOut).getD zeroC).t.ref.a = (1, 3) := ⟨by kernel_rfl, by kernel_rfl⟩
theorem k_x : oneX ((lkM (1, 3) kOut).getD zeroC).v.x = 4619567317775286272 := by kernel_rfl
theorem er_getD (a : Ad) (M : GM) : ((lkM a M).getD (zeroC, none)).1 = (lkM a (er M)).getD zeroC := by rw [er_lk]; cases lkM a M <;> rfl
theorem k_keep {w w' : World} {b : Nat} {u v x : Value} (h : w.cell? ⟨b, 0, none⟩ = some u ∧ w.cell? ⟨b, 12, none⟩ = some v ∧ w.cell? ⟨b, 13, none⟩ = some x) (hx : Xt w w') : w'.cell? ⟨b, 0, none⟩ = some u ∧ w'.cell? ⟨b, 12, none⟩ = some v ∧ w'.cell? ⟨b, 13, none⟩ = some x := ⟨hx.cellsIn _ _ _ h.1, hx.cellsIn _ _ _ h.2.1, hx.cellsIn _ _ _ h.2.2⟩
@[go_sem] theorem run_field_cv (y : ContT) (a : Option Addr) (n m : Nat) (w : World) : (Instr.field 50 (contV y a n m) 1).run Tryz.prog w = .ok (.agg #[.int .i64 y.v.kind, .float .f64 y.v.x, .string y.v.s, .bool y.v.b, .int .i64 y.v.f]) w := by
  have u := run_underlying Tryz.underlying50
  have u2 := run_underlying Tryz.underlying48
  simp [Instr.field, u, part, asAgg]
theorem float7 : FloatKind.f64.format.order 4619567317775286272 4619567317775286272 = some Ordering.eq := by decide +kernel
theorem kPlain_small : smallT kPlain.t := by simp [kPlain, zeroC, smallT, smallL]
theorem kForm_small : smallT kForm.t := by simp [kForm, refT, smallT, smallL]
theorem args_nil {w : World} : ArgsIn w 0 (.slice none 0 0) [] := ⟨rfl, none, 0, rfl, by omega⟩
theorem k_alloc2 {w w' : World} {a b : Obj} (h : w' = (w.alloc a).alloc b) : Xt w w' := by rw [h]; exact ((Xt.refl _).alloc _).alloc _
theorem k_alloc1 {w w' : World} {a : Obj} (h : w' = w.alloc a) : Xt w w' := by rw [h]; exact (Xt.refl _).alloc _
theorem kGrid_ok : GOk kGrid := (GOk.nil.put _ kPlain_ok).put _ kForm_ok
theorem k_rows (gb mb : Nat) (M : GM) (hM : er M = kGrid) (w : World) (hG : GridIs w gb mb M) (hT : Tabs w) :
    Calls Tryz.prog 46 #[.pointer (some ⟨gb, 0, none⟩), .int .i64 1, .int .i64 2] w fun e w' => ∃ go mo Mo, e = .returned (.tuple #[.pointer (some ⟨go, 0, none⟩), .int .i64 0]) ∧ GridIs w' go mo Mo ∧ er Mo = kOut ∧ Xt w w' :=
  (rows_any 1 2 gb mb M w hG hT (hM ▸ kGrid_ok)).mono fun e w' h => by
    obtain ⟨hx, (⟨h1, _⟩ | ⟨_, (⟨h2, _⟩ | ⟨_, go, mo, Mo, rfl, h3, h4, _⟩)⟩)⟩ := h
    · rw [k_made] at h1; cases h1
    · rw [hM] at h2; exact absurd (k_stop.symm.trans h2) (by decide)
    · rw [hM] at h4; exact ⟨go, mo, Mo, rfl, h3, h4, hx⟩
set_option maxRecDepth 100000 in
set_option maxHeartbeats 4000000 in
theorem known_any (w : World) (hT : Tabs w) : Calls Tryz.prog 11 #[] w fun e w' => e = .returned (.bool true) ∧ Xt w w' := by
  have HT := Lib.hid hT
  have hq2 := fun w f lb => run_eql_func_nil (P := Tryz.prog) w 45 _ _ _ (.func f) #[] lb Tryz.underlying45
  have hqn := fun w f lb => run_eql_func_nil (P := Tryz.prog) w 99 _ _ _ (.func f) #[] lb Tryz.underlying99
  have hqa := fun w f lb => run_eql_func_nil (P := Tryz.prog) w 70 _ _ _ (.func f) #[] lb Tryz.underlying70
  clear hT
  go_enter Tryz.func11, Tryz.ntmps11
  have hm1 : True := trivial
  have hm2 : True := trivial
  go_wp2_with (first
    | (go_at_call 43; refine (gnew_any _).mono ?_; rintro e w1 ⟨rfl, hG1, hg1⟩; have HX := Lib.hid hg1.xt; have HG := Lib.hid hG1; clear hg1 hG1)
    | (go_at_call 17; refine (at_any (_, _) _).mono ?_; rintro e w2 ⟨rfl, hg2⟩; have HX := Lib.hid (HX.out.trans hg2.xt); have HG := Lib.hid (HG.out.xt hg2.xt); clear hg2)
    | (go_at_call 45; refine (ref_any (_, _) _).mono ?_; rintro e w2 ⟨rfl, hg2⟩; have HX := Lib.hid (HX.out.trans hg2); have HG := Lib.hid (HG.out.xt hg2); clear hg2)
    | (go_at_call 44; have hm0 := hm1; clear hm1 hm0; refine (gput_any 0 _ _ [] (1, 1) kPlain none 0 _ HG.out kPlain_ok (HT.out.xt HX.out) kPlain_small args_nil).mono ?_; rintro e w3 ⟨zp, rfl, hG3, hg3⟩; rw [show putCode ([] : GM) (1, 1) kPlain = 0 from (er_code _ _ _).trans k_code1]; have HX := Lib.hid (HX.out.grownB hg3 (fun q hq => by cases hq; exact Nat.le_refl _)); have HG := Lib.hid hG3; clear hG3 hg3)
    | (go_at_call 44; have hm0 := hm2; clear hm2 hm0; refine (gput_any 0 _ _ (putTo [] (1, 1) kPlain zp) (2, 1) kForm none 0 _ HG.out kForm_ok (HT.out.xt HX.out) kForm_small args_nil).mono ?_; rintro e w4 ⟨zq, rfl, hG3, hg3⟩; rw [show putCode (putTo ([] : GM) (1, 1) kPlain zp) (2, 1) kForm = 0 from (er_code _ _ _).trans (by rw [er_put]; exact k_code2)]; have HX := Lib.hid (HX.out.grownB hg3 (fun q hq => by cases hq; exact Nat.le_refl _)); have HG := Lib.hid hG3; clear hG3 hg3)
    | (go_at_call 46; refine (k_rows _ _ _ (by rw [er_put, er_put]; rfl) _ HG.out (HT.out.xt HX.out)).mono ?_; rintro e w5 ⟨go, mo, Mo, rfl, hG5, hE5, hx5⟩; have HX := Lib.hid (HX.out.trans hx5); have HG := Lib.hid hG5; have HE := Lib.hid hE5; have hlen : (Mo.length : Int) = 2 := (by rw [← er_len, hE5, k_len]; rfl); clear hG5 hE5 hx5)
    | (go_at_call 21; refine (glen_any _ _ _ _ HG.out).mono ?_; rintro e w6 ⟨rfl, rfl⟩; rw [hlen])
    | (go_at_call 47; refine ((callsIn_wide (n := 20)).1 (all_in 20 (by omega) _ _)).mono ?_; rintro e w6 ⟨rfl, hw6⟩; have hx6 := k_alloc2 hw6; have HX := Lib.hid (HX.out.trans hx6); have HG := Lib.hid (HG.out.xt hx6); clear hx6 hw6)
    | (go_at_call 48; refine (nodes_any 0 (refT (1, 1)) none 0 _ kForm_small args_nil).mono ?_; rintro e w6 ⟨bn, an, nn, rfl, _, _, _, hx6⟩; have HX := Lib.hid (HX.out.trans hx6); have HG := Lib.hid (HG.out.xt hx6); clear hx6)
    | (go_at_call 49; refine (cells_any ⟨_, _, _, _⟩ _).mono ?_; rintro e w6 ⟨rfl, hw6⟩; have hx6 := k_alloc1 hw6; have HX := Lib.hid (HX.out.trans hx6); have HG := Lib.hid (HG.out.xt hx6); clear hx6 hw6)
    | (go_at_call 18; refine (gget_any _ _ _ (2, 3) _ HG.out).mono ?_; rintro e w7 ⟨n7, a7, rfl, hA7, hx7⟩; obtain ⟨z, hz1, hz2⟩ : ∃ z : CE, z.1 = copyC ((lkM (2, 3) Mo).getD (zeroC, none)).1 ∧ z.2 = a7 := ⟨(_, _), rfl, rfl⟩; have hzv : copyCV ((lkM (2, 3) Mo).getD (zeroC, none)).1 a7 = ceV z := (by rw [← ceV_copy]; obtain ⟨z1, z2⟩ := z; simp only at hz1 hz2; rw [hz1, hz2]); rw [hzv]; have HZ : Hid (z.1.kind = 2 ∧ z.1.t.ref.a = (1, 3)) := (by unfold Hid; rw [hz1, er_getD, HE.out]; exact ⟨k_at.1, (congrArg RefT.a (copyT_ref _)).trans k_at.2⟩); have HX := Lib.hid (HX.out.trans hx7); have HG := Lib.hid (HG.out.xt hx7); obtain ⟨wZ, wR, hwZ, hwR, hrZ, hrR, hxR, hsR, hxZ, hsZ⟩ := boxR w7 z; have HX := Lib.hid (HX.out.trans hxR); have HG := Lib.hid (HG.out.xt hxR); have HRZ := Lib.hid hrZ; have HRR := Lib.hid hrR; have HWR := Lib.hid hwR; clear hrZ hwR hrR hxR hxZ hA7 hx7 hzv hz1 hz2)
    | (refine wpList_store_row (P := Tryz.prog) rfl 50 _ _ rfl w7.heap.size #[.int .i64 z.1.kind, .int .i64 z.1.v.kind, .float .f64 z.1.v.x, .string z.1.v.s, .bool z.1.v.b, .int .i64 z.1.v.f, .int .i64 z.1.t.kind, .int .i64 z.1.t.op, .float .f64 z.1.t.x, .string z.1.t.s, .bool z.1.t.b, .int .i64 z.1.t.f, .int .i64 z.1.t.ref.a.1, .int .i64 z.1.t.ref.a.2, .bool z.1.t.ref.cf, .bool z.1.t.ref.rf, .int .i64 z.1.t.to.a.1, .int .i64 z.1.t.to.a.2, .bool z.1.t.to.cf, .bool z.1.t.to.rf, .slice z.2 z.1.t.args.length z.1.t.args.length] rfl rfl 50 _ HRZ.out (by kernel_rfl) rfl (by simp [Value.oneCell']) ?_; rw [HWR.out]))
  have HH0 : Hid (wR.drew.cell? ⟨w7.heap.size, 0, none⟩ = some (.int .i64 2) ∧ wR.drew.cell? ⟨w7.heap.size, 12, none⟩ = some (.int .i64 1) ∧ wR.drew.cell? ⟨w7.heap.size, 13, none⟩ = some (.int .i64 3)) := by
    have h : wR.drew.heap[w7.heap.size]? = _ := HRR.out
    have h1 := HZ.out.1
    have h2 := congrArg Prod.fst HZ.out.2
    have h3 := congrArg Prod.snd HZ.out.2
    simp only at h2 h3
    refine ⟨?_, ?_, ?_⟩ <;> simp [World.cell?, h, h1, h2, h3]
  have HX := Lib.hid (HX.out.trans (Xt.refl wR).drew)
  have HG := Lib.hid (HG.out.xt (Xt.refl wR).drew)
  refine wp_region_held_drew (S := fun V => V.cell? ⟨w7.heap.size, 0, none⟩ = some (.int .i64 2) ∧ V.cell? ⟨w7.heap.size, 12, none⟩ = some (.int .i64 1) ∧ V.cell? ⟨w7.heap.size, 13, none⟩ = some (.int .i64 3)) (by kernel_rfl) HH0.out (fun hHeld => ?_)
  refine wpAnyH_take (i := 0) (oi := _) (v := ?_) rfl (by kernel_rfl) (by kernel_rfl) (by kernel_rfl) (fun _ _ _ h => h) (Or.inl ⟨by rfl, ?_⟩) (by assumption) ?_
  rotate_left
  · intro V hSw; (try dsimp only at hSw); obtain ⟨u0, u1, u2⟩ := hSw; go_simp; first | done | with_reducible rfl
  try simp only [Act.put, List.getElem_toArray, List.getElem_cons_zero, List.setIfInBounds_toArray, List.set_cons_zero, List.set_cons_succ]
  refine wpAnyH_take (i := 1) (oi := _) (v := ?_) rfl (by kernel_rfl) (by kernel_rfl) (by kernel_rfl) (fun _ _ _ h => h) (Or.inl ⟨by rfl, ?_⟩) (by assumption) ?_
  rotate_left
  · intro V hSw; (try dsimp only at hSw); obtain ⟨u0, u1, u2⟩ := hSw; go_simp; first | done | with_reducible rfl
  try simp only [Act.put, List.getElem_toArray, List.getElem_cons_zero, List.getElem_cons_succ, List.setIfInBounds_toArray, List.set_cons_zero, List.set_cons_succ]
  refine wpAnyH_take (i := 2) (oi := _) (v := ?_) rfl (by kernel_rfl) (by kernel_rfl) (by kernel_rfl) (fun _ _ _ h => h) (Or.inl ⟨by rfl, ?_⟩) (by assumption) ?_
  rotate_left
  · intro V hSw; (try dsimp only at hSw); obtain ⟨u0, u1, u2⟩ := hSw; go_simp; first | done | with_reducible rfl
  try simp only [Act.put, List.getElem_toArray, List.getElem_cons_zero, List.getElem_cons_succ, List.setIfInBounds_toArray, List.set_cons_zero, List.set_cons_succ]
  refine wpAnyH_take (i := 3) (oi := _) (v := ?_) rfl (by kernel_rfl) (by kernel_rfl) (by kernel_rfl) (fun _ _ _ h => h) (Or.inl ⟨by rfl, ?_⟩) (by assumption) ?_
  rotate_left
  · intro V hSw; (try dsimp only at hSw); obtain ⟨u0, u1, u2⟩ := hSw; go_simp; first | done | with_reducible rfl
  try simp only [Act.put, List.getElem_toArray, List.getElem_cons_zero, List.getElem_cons_succ, List.setIfInBounds_toArray, List.set_cons_zero, List.set_cons_succ]
  refine wpAnyH_take (i := 4) (oi := _) (v := ?_) rfl (by kernel_rfl) (by kernel_rfl) (by kernel_rfl) (fun _ _ _ h => h) (Or.inl ⟨by rfl, ?_⟩) (by assumption) ?_
  rotate_left
  · intro V hSw; (try dsimp only at hSw); obtain ⟨u0, u1, u2⟩ := hSw; go_simp; first | done | with_reducible rfl
  try simp only [Act.put, List.getElem_toArray, List.getElem_cons_zero, List.getElem_cons_succ, List.setIfInBounds_toArray, List.set_cons_zero, List.set_cons_succ]
  refine wpAnyH_take (i := 5) (oi := _) (v := ?_) rfl (by kernel_rfl) (by kernel_rfl) (by kernel_rfl) (fun _ _ _ h => h) (Or.inl ⟨by rfl, ?_⟩) (by assumption) ?_
  rotate_left
  · intro V hSw; (try dsimp only at hSw); obtain ⟨u0, u1, u2⟩ := hSw; go_simp; first | done | with_reducible rfl
  try simp only [Act.put, List.getElem_toArray, List.getElem_cons_zero, List.getElem_cons_succ, List.setIfInBounds_toArray, List.set_cons_zero, List.set_cons_succ]
  refine wpAnyH_take (i := 6) (oi := _) (v := ?_) rfl (by kernel_rfl) (by kernel_rfl) (by kernel_rfl) (fun _ _ _ h => h) (Or.inl ⟨by rfl, ?_⟩) (by assumption) ?_
  rotate_left
  · intro V hSw; (try dsimp only at hSw); obtain ⟨u0, u1, u2⟩ := hSw; go_simp; first | done | with_reducible rfl
  try simp only [Act.put, List.getElem_toArray, List.getElem_cons_zero, List.getElem_cons_succ, List.setIfInBounds_toArray, List.set_cons_zero, List.set_cons_succ]
  refine wpAnyH_take (i := 7) (oi := _) (v := ?_) rfl (by kernel_rfl) (by kernel_rfl) (by kernel_rfl) (fun _ _ _ h => h) (Or.inl ⟨by rfl, ?_⟩) (by assumption) ?_
  rotate_left
  · intro V hSw; (try dsimp only at hSw); obtain ⟨u0, u1, u2⟩ := hSw; go_simp; first | done | with_reducible rfl
  try simp only [Act.put, List.getElem_toArray, List.getElem_cons_zero, List.getElem_cons_succ, List.setIfInBounds_toArray, List.set_cons_zero, List.set_cons_succ]
  refine wpAnyH_ready (rs := [8]) (by kernel_rfl) (by simp) ?_
  refine AllReadyH.cons (o := _) rfl (fun K hK => ?_) AllReadyH.nil
  go_simp
  refine (at_any (_, _) _).mono ?_
  rintro e v1 ⟨rfl, hg⟩
  have HHv1 := Lib.hid (k_keep HH0.out hg.xt)
  have HX := Lib.hid (HX.out.trans hg.xt)
  have HG := Lib.hid (HG.out.xt hg.xt)
  refine hK.out _ _ HHv1.out (fun hHeldv1 => ?_)
  clear hg
  clear hK K
  refine wpAnyH_take (i := 9) (oi := _) (v := .bool true) rfl (by kernel_rfl) (by kernel_rfl) (by kernel_rfl) (fun _ _ _ h => h) (Or.inl ⟨by rfl, ?_⟩) (by assumption) ?_
  · intro V hSw; (try dsimp only at hSw); obtain ⟨u0, u1, u2⟩ := hSw; go_simp; first | done | with_reducible rfl | (simp [eqAd2])
  try simp only [Act.put, List.getElem_toArray, List.getElem_cons_zero, List.getElem_cons_succ, List.setIfInBounds_toArray, List.set_cons_zero, List.set_cons_succ]
  refine wpAnyH_take (i := 10) (oi := _) (v := ?_) rfl (by kernel_rfl) (by kernel_rfl) (by kernel_rfl) (fun _ _ _ h => h) (Or.inl ⟨by rfl, ?_⟩) (by assumption) ?_
  rotate_left
  · intro V hSw; (try dsimp only at hSw); obtain ⟨u0, u1, u2⟩ := hSw; go_simp; first | done | with_reducible rfl
  try simp only [Act.put, List.getElem_toArray, List.getElem_cons_zero, List.getElem_cons_succ, List.setIfInBounds_toArray, List.set_cons_zero, List.set_cons_succ]
  refine wpAnyH_take (i := 11) (oi := _) (v := ?_) rfl (by kernel_rfl) (by kernel_rfl) (by kernel_rfl) (fun _ _ _ h => h) (Or.inl ⟨by rfl, ?_⟩) (by assumption) ?_
  rotate_left
  · intro V hSw; (try dsimp only at hSw); obtain ⟨u0, u1, u2⟩ := hSw; go_simp; first | done | with_reducible rfl
  try simp only [Act.put, List.getElem_toArray, List.getElem_cons_zero, List.getElem_cons_succ, List.setIfInBounds_toArray, List.set_cons_zero, List.set_cons_succ]
  refine wpAnyH_take (i := 12) (oi := _) (v := ?_) rfl (by kernel_rfl) (by kernel_rfl) (by kernel_rfl) (fun _ _ _ h => h) (Or.inl ⟨by rfl, ?_⟩) (by assumption) ?_
  rotate_left
  · intro V hSw; (try dsimp only at hSw); obtain ⟨u0, u1, u2⟩ := hSw; go_simp; first | done | with_reducible rfl
  try simp only [Act.put, List.getElem_toArray, List.getElem_cons_zero, List.getElem_cons_succ, List.setIfInBounds_toArray, List.set_cons_zero, List.set_cons_succ]
  refine wpAnyH_ready (rs := [13]) (by kernel_rfl) (by simp) ?_
  refine AllReadyH.cons (o := _) rfl (fun K hK => ?_) AllReadyH.nil
  go_simp
  refine (at_any (_, _) _).mono ?_
  rintro e v2 ⟨rfl, hg⟩
  have HHv2 := Lib.hid (k_keep HHv1.out hg.xt)
  have HX := Lib.hid (HX.out.trans hg.xt)
  have HG := Lib.hid (HG.out.xt hg.xt)
  refine hK.out _ _ HHv2.out (fun hHeldv2 => ?_)
  clear hg
  clear hK K
  refine wpAnyH_ready (rs := [14]) (by kernel_rfl) (by simp) ?_
  refine AllReadyH.cons (o := _) rfl (fun K hK => ?_) AllReadyH.nil
  go_simp
  refine (gget_any _ _ _ (1, 3) _ HG.out).mono ?_
  rintro e v3 ⟨n8, a8, rfl, hA8, hx8⟩
  obtain ⟨y, hy⟩ : ∃ y : ContT, copyC ((lkM (1, 3) Mo).getD (zeroC, none)).1 = y := ⟨_, rfl⟩
  have hyx : y.v.x = 4619567317775286272 := by rw [← hy, er_getD, HE.out]; exact k_x
  have HHv3 := Lib.hid (k_keep HHv2.out hx8)
  have HX := Lib.hid (HX.out.trans hx8)
  simp only [copyCV, hy]
  refine hK.out _ _ HHv3.out (fun hHeldv3 => ?_)
  clear hx8 hA8
  clear hK K
  try simp only [Act.put, List.getElem_toArray, List.getElem_cons_zero, List.getElem_cons_succ, List.setIfInBounds_toArray, List.set_cons_zero, List.set_cons_succ]
  refine wpAnyH_take (i := 15) (oi := _) (v := ?_) rfl (by kernel_rfl) (by kernel_rfl) (by kernel_rfl) (fun _ _ _ h => h) (Or.inl ⟨by rfl, ?_⟩) (by assumption) ?_
  rotate_left
  · intro V hSw; (try dsimp only at hSw); obtain ⟨u0, u1, u2⟩ := hSw; go_simp; first | done | with_reducible rfl
  try simp only [Act.put, List.getElem_toArray, List.getElem_cons_zero, List.getElem_cons_succ, List.setIfInBounds_toArray, List.set_cons_zero, List.set_cons_succ]
  refine wpAnyH_take (i := 16) (oi := _) (v := ?_) rfl (by kernel_rfl) (by kernel_rfl) (by kernel_rfl) (fun _ _ _ h => h) (Or.inl ⟨by rfl, ?_⟩) (by assumption) ?_
  rotate_left
  · intro V hSw; (try dsimp only at hSw); obtain ⟨u0, u1, u2⟩ := hSw; go_simp; first | done | with_reducible rfl
  try simp only [Act.put, List.getElem_toArray, List.getElem_cons_zero, List.getElem_cons_succ, List.setIfInBounds_toArray, List.set_cons_zero, List.set_cons_succ]
  refine wpAnyH_take (i := 17) (oi := _) (v := .bool true) rfl (by kernel_rfl) (by kernel_rfl) (by kernel_rfl) (fun _ _ _ h => h) (Or.inl ⟨by rfl, ?_⟩) (by assumption) ?_
  · intro V hSw; (try dsimp only at hSw); obtain ⟨u0, u1, u2⟩ := hSw; go_simp; first | done | with_reducible rfl | exact float7
  try simp only [Act.put, List.getElem_toArray, List.getElem_cons_zero, List.getElem_cons_succ, List.setIfInBounds_toArray, List.set_cons_zero, List.set_cons_succ]
  refine wpAnyH_take (i := 18) (oi := _) (v := ?_) rfl (by kernel_rfl) (by kernel_rfl) (by kernel_rfl) (fun _ _ _ h => h) (Or.inl ⟨by rfl, ?_⟩) (by assumption) ?_
  rotate_left
  · intro V hSw; (try dsimp only at hSw); obtain ⟨u0, u1, u2⟩ := hSw; go_simp; first | done | with_reducible rfl
  try simp only [Act.put, List.getElem_toArray, List.getElem_cons_zero, List.getElem_cons_succ, List.setIfInBounds_toArray, List.set_cons_zero, List.set_cons_succ]
  refine wpAnyH_ready (rs := [19]) (by kernel_rfl) (by simp) ?_
  refine AllReadyH.cons (o := _) rfl (fun K hK => ?_) AllReadyH.nil
  go_simp
  refine hK.out _ _ HHv3.out (fun hHeld9 => ?_)
  clear hK K
  refine wpAnyH_done (by kernel_rfl) ?_ _
  go_wp2_with fail
  go_ret
  exact ⟨rfl, HX.out⟩
end Go.Proofs.YtlgkaipgdhcajaaGreatDoor
