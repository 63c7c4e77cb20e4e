import Derived.Test.YtakcadkffmfneaaDoorM9
/- quadrillelaw22's small functions; Rows; the iterators of Nodes and Cells. -/
namespace Go.Proofs.YtakcadkffmfneaaDoor
open Go.RowKit Go.Sort

set_option maxRecDepth 100000 in
theorem at_any (a : Ad) (w : World) : Calls Tryd.prog 7 #[.int .i64 a.1, .int .i64 a.2] w fun e w' => e = .returned (.agg #[.int .i64 a.1, .int .i64 a.2]) ∧ Gr w w' := by
  go_enter Tryd.func7, Tryd.ntmps7
  go_wp2
  (try simp only [Exit.inBlock, Exit.then])
  refine bodyPost_ret (results_cell_row rfl _ _ w.heap.size _ _ _ _ rfl (heap_alloc_new _ _) Tryd.underlying28 rfl (by kernel_rfl)) rfl ?_
  exact ⟨rfl, (Gr.refl _).alloc _⟩
def refT (a : Ad) : NodeT := .mk 5 0 0 ⟨#[]⟩ false 0 ⟨a, false, false⟩ zR []
set_option maxRecDepth 100000 in
set_option maxHeartbeats 2000000 in
theorem ref_any (a : Ad) (w : World) : Calls Tryd.prog 8 #[.agg #[.int .i64 a.1, .int .i64 a.2]] w fun e w' => e = .returned (nodeV (refT a) none 0 0) ∧ Xt w w' := by
  go_enter Tryd.func8, Tryd.ntmps8
  go_wp2
  (try simp only [Exit.inBlock, Exit.then])
  refine bodyPost_ret (results_cell_row rfl _ _ (w.heap.size + 1) _ _ _ _ rfl (by
    have := heap_alloc_new (w.alloc (.cells #[.int .i64 a.1, .int .i64 a.2] 28))
    simpa using this _) Tryd.underlying37 rfl (by kernel_rfl)) rfl ?_
  exact ⟨rfl, ((Xt.refl _).alloc _).alloc _⟩
theorem rows_any (at_ n : Int) (gb mb : Nat) (M : GM) (w : World) (hG : GridIs w gb mb M) (hT : Tabs w) (hO : GOk (er M)) :
    Calls Tryd.prog 9 #[.pointer (some ⟨gb, 0, none⟩), .int .i64 at_, .int .i64 n] w (BrR false at_ n M w) := by
  have HB := Lib.hid (brought_any false at_ n gb mb M w hG hT hO)
  go_enter Tryd.func9, Tryd.ntmps9
  go_wp2_with (first | (go_at_call 18; refine (HB.out).mono ?_; rintro e w1 ⟨hx, (⟨h1, rfl⟩ | ⟨h1, (⟨h2, rfl⟩ | ⟨h2, go, mo, Mo, rfl, h3⟩)⟩)⟩))
  · go_ret2
    exact ⟨hx, Or.inl ⟨h1, rfl⟩⟩
  · go_ret2
    exact ⟨hx, Or.inr ⟨h1, Or.inl ⟨h2, rfl⟩⟩⟩
  · go_ret2
    exact ⟨hx, Or.inr ⟨h1, Or.inr ⟨h2, go, mo, Mo, rfl, h3⟩⟩⟩
/-- What goes over a formula's nodes: a closure over a copy. -/
def NodesR (t : NodeT) (w : World) (e : Ending) (w' : World) : Prop :=
  ∃ b a' n, e = .returned (.func (.func 22) #[] #[.pointer (some ⟨b, 0, none⟩)]) ∧ w.heap.size ≤ b ∧ w'.heap[b]? = some (.cells (nodeC (copyT t) (.slice a' t.args.length t.args.length)).toArray 37 (0, 0)) ∧
    ArgsIn w' n (.slice a' t.args.length t.args.length) (copyL t.args) ∧ Xt w w'
set_option maxRecDepth 100000 in
set_option maxHeartbeats 2000000 in
theorem nodes_any (n : Nat) (t : NodeT) (a : Option Addr) (cap : Nat) (w : World) (hsm : smallT t) (hin : ArgsIn w n (.slice a t.args.length cap) t.args) :
    Calls Tryd.prog 12 #[nodeV t a t.args.length cap] w (NodesR t w) := by
  obtain ⟨w0, hw0, hg0, hs0, hN⟩ := boxN w t a t.args.length cap 37
  obtain ⟨c0, c1, c2, c3, c4, c5, c6, c7, c8, c9, c10, c11, c12, c13, c14⟩ := hN
  simp only [Nat.zero_add] at c0 c1 c2 c3 c4 c5 c6 c7 c8 c9 c10 c11 c12 c13 c14
  have HC := Lib.hid (fcopyS_any n t a cap w0 hsm (hin.xt hg0.xt))
  have HG0 := Lib.hid hg0
  clear hg0 hsm hin
  go_enter Tryd.func12, Tryd.ntmps12
  go_wp2_with (first | (go_at_call 21; refine (HC.out).mono ?_; rintro e w1 ⟨a', rfl, hS, hx⟩; have HS := Lib.hid hS; have HX := Lib.hid hx; clear hS hx))
  go_ret
  have hx2 : Xt w w1 := HG0.out.xt.trans HX.out
  refine ⟨w1.heap.size, a', n, rfl, hx2.size, ?_, (HS.out.own.args).xt ((Xt.refl _).alloc _), hx2.alloc _⟩
  obtain ⟨k, o, x, s, bb, f, r, q, l⟩ := t
  exact (MapKept.heap_alloc w1 _).1
set_option maxRecDepth 100000 in
theorem cells_any (x : ArT) (w : World) : Calls Tryd.prog 13 #[arT x] w fun e w' => e = .returned (.func (.func 24) #[] #[.pointer (some ⟨w.heap.size, 0, none⟩)]) ∧ w' = w.alloc (.cells #[.int .i64 x.a, .int .i64 x.b, .int .i64 x.c, .int .i64 x.d] 54) := by
  go_enter Tryd.func13, Tryd.ntmps13
  go_wp2
  go_ret
  exact ⟨rfl, rfl⟩
end Go.Proofs.YtakcadkffmfneaaDoor
/- quadrillelaw22.known: a formula goes along with a row (made by mkm11.py). -/
namespace Go.Proofs.YtakcadkffmfneaaDoor
open Go.RowKit Go.Sort

def kPlain : ContT := ⟨1, ⟨1, 4619567317775286272, ⟨#[]⟩, false, 0⟩, zeroC.t⟩
def kForm : ContT := ⟨2, zeroC.v, refT (1, 1)⟩
def kGrid : PG := putP (putP [] (1, 1) kPlain) (2, 1) kForm
def kOut : PG := goAll (cellF false ⟨1, 2, 4096⟩) (areaF false ⟨1, 2, 4096⟩) kGrid
theorem kPlain_ok : kPlain.ok := by simp [ContT.ok, kPlain, zeroC, NodeT.ok, okL, ByteArray.size]
theorem kForm_ok : kForm.ok := by simp [ContT.ok, kForm, refT, zeroC, NodeT.ok, okL, ByteArray.size]
theorem k_code1 : codeP [] (1, 1) kPlain = 0 := by kernel_rfl
theorem k_code2 : codeP (putP [] (1, 1) kPlain) (2, 1) kForm = 0 := by kernel_rfl
theorem k_stop : goStop (cellF false ⟨1, 2, 4096⟩) 2 kGrid = false := by kernel_rfl
theorem k_made : (madeL (manyL false) 1 2).2 = true := by kernel_rfl
theorem k_len : kOut.length = 2 := by kernel_rfl
theorem k_at : ((lkM (2, 3) kOut).getD zeroC).kind = 2 ∧ ((lkM (2, 3) kOut).getD zeroC).t.ref.a = (1, 3) := ⟨by kernel_rfl, by kernel_rfl⟩
theorem k_x : oneX ((lkM (1, 3) kOut).getD zeroC).v.x = 4619567317775286272 := by kernel_rfl
theorem er_getD (a : Ad) (M : GM) : ((lkM a M).getD (zeroC, none)).1 = (lkM a (er M)).getD zeroC := by rw [er_lk]; cases lkM a M <;> rfl
theorem k_keep {w w' : World} {b : Nat} {u v x : Value} (h : w.cell? ⟨b, 0, none⟩ = some u ∧ w.cell? ⟨b, 12, none⟩ = some v ∧ w.cell? ⟨b, 13, none⟩ = some x) (hx : Xt w w') : w'.cell? ⟨b, 0, none⟩ = some u ∧ w'.cell? ⟨b, 12, none⟩ = some v ∧ w'.cell? ⟨b, 13, none⟩ = some x := ⟨hx.cellsIn _ _ _ h.1, hx.cellsIn _ _ _ h.2.1, hx.cellsIn _ _ _ h.2.2⟩
@[go_sem] theorem run_field_cv (y : ContT) (a : Option Addr) (n m : Nat) (w : World) : (Instr.field 39 (contV y a n m) 1).run Tryd.prog w = .ok (.agg #[.int .i64 y.v.kind, .float .f64 y.v.x, .string y.v.s, .bool y.v.b, .int .i64 y.v.f]) w := by
  have u := run_underlying Tryd.underlying39
  have u2 := run_underlying Tryd.underlying32
  simp [Instr.field, u, part, asAgg]
theorem float7 : FloatKind.f64.format.order 4619567317775286272 4619567317775286272 = some Ordering.eq := by decide +kernel
theorem kPlain_small : smallT kPlain.t := by simp [kPlain, zeroC, smallT, smallL]
theorem kForm_small : smallT kForm.t := by simp [kForm, refT, smallT, smallL]
theorem args_nil {w : World} : ArgsIn w 0 (.slice none 0 0) [] := ⟨rfl, none, 0, rfl, by omega⟩
theorem k_alloc2 {w w' : World} {a b : Obj} (h : w' = (w.alloc a).alloc b) : Xt w w' := by rw [h]; exact ((Xt.refl _).alloc _).alloc _
theorem k_alloc1 {w w' : World} {a : Obj} (h : w' = w.alloc a) : Xt w w' := by rw [h]; exact (Xt.refl _).alloc _
theorem kGrid_ok : GOk kGrid := (GOk.nil.put _ kPlain_ok).put _ kForm_ok
theorem k_rows (gb mb : Nat) (M : GM) (hM : er M = kGrid) (w : World) (hG : GridIs w gb mb M) (hT : Tabs w) :
    Calls Tryd.prog 9 #[.pointer (some ⟨gb, 0, none⟩), .int .i64 1, .int .i64 2] w fun e w' => ∃ go mo Mo, e = .returned (.tuple #[.pointer (some ⟨go, 0, none⟩), .int .i64 0]) ∧ GridIs w' go mo Mo ∧ er Mo = kOut ∧ Xt w w' :=
  (rows_any 1 2 gb mb M w hG hT (hM ▸ kGrid_ok)).mono fun e w' h => by
    obtain ⟨hx, (⟨h1, _⟩ | ⟨_, (⟨h2, _⟩ | ⟨_, go, mo, Mo, rfl, h3, h4, _⟩)⟩)⟩ := h
    · rw [k_made] at h1; cases h1
    · rw [hM] at h2; exact absurd (k_stop.symm.trans h2) (by decide)
    · rw [hM] at h4; exact ⟨go, mo, Mo, rfl, h3, h4, hx⟩
set_option maxRecDepth 100000 in
set_option maxHeartbeats 4000000 in
theorem known_any (w : World) (hT : Tabs w) : Calls Tryd.prog 4 #[] w fun e w' => e = .returned (.bool true) ∧ Xt w w' := by
  have HT := Lib.hid hT
  have hq2 := fun w f lb => run_eql_func_nil (P := Tryd.prog) w 45 _ _ _ (.func f) #[] lb Tryd.underlying45
  have hqn := fun w f lb => run_eql_func_nil (P := Tryd.prog) w 48 _ _ _ (.func f) #[] lb Tryd.underlying48
  have hqa := fun w f lb => run_eql_func_nil (P := Tryd.prog) w 51 _ _ _ (.func f) #[] lb Tryd.underlying51
  clear hT
  go_enter Tryd.func4, Tryd.ntmps4
  have hm1 : True := trivial
  have hm2 : True := trivial
  go_wp2_with (first
    | (go_at_call 5; refine (gnew_any _).mono ?_; rintro e w1 ⟨rfl, hG1, hg1⟩; have HX := Lib.hid hg1.xt; have HG := Lib.hid hG1; clear hg1 hG1)
    | (go_at_call 7; refine (at_any (_, _) _).mono ?_; rintro e w2 ⟨rfl, hg2⟩; have HX := Lib.hid (HX.out.trans hg2.xt); have HG := Lib.hid (HG.out.xt hg2.xt); clear hg2)
    | (go_at_call 8; refine (ref_any (_, _) _).mono ?_; rintro e w2 ⟨rfl, hg2⟩; have HX := Lib.hid (HX.out.trans hg2); have HG := Lib.hid (HG.out.xt hg2); clear hg2)
    | (go_at_call 6; have hm0 := hm1; clear hm1 hm0; refine (gput_any 0 _ _ [] (1, 1) kPlain none 0 _ HG.out kPlain_ok (HT.out.xt HX.out) kPlain_small args_nil).mono ?_; rintro e w3 ⟨zp, rfl, hG3, hg3⟩; rw [show putCode ([] : GM) (1, 1) kPlain = 0 from (er_code _ _ _).trans k_code1]; have HX := Lib.hid (HX.out.grownB hg3 (fun q hq => by cases hq; exact Nat.le_refl _)); have HG := Lib.hid hG3; clear hG3 hg3)
    | (go_at_call 6; have hm0 := hm2; clear hm2 hm0; refine (gput_any 0 _ _ (putTo [] (1, 1) kPlain zp) (2, 1) kForm none 0 _ HG.out kForm_ok (HT.out.xt HX.out) kForm_small args_nil).mono ?_; rintro e w4 ⟨zq, rfl, hG3, hg3⟩; rw [show putCode (putTo ([] : GM) (1, 1) kPlain zp) (2, 1) kForm = 0 from (er_code _ _ _).trans (by rw [er_put]; exact k_code2)]; have HX := Lib.hid (HX.out.grownB hg3 (fun q hq => by cases hq; exact Nat.le_refl _)); have HG := Lib.hid hG3; clear hG3 hg3)
    | (go_at_call 9; refine (k_rows _ _ _ (by rw [er_put, er_put]; rfl) _ HG.out (HT.out.xt HX.out)).mono ?_; rintro e w5 ⟨go, mo, Mo, rfl, hG5, hE5, hx5⟩; have HX := Lib.hid (HX.out.trans hx5); have HG := Lib.hid hG5; have HE := Lib.hid hE5; have hlen : (Mo.length : Int) = 2 := (by rw [← er_len, hE5, k_len]; rfl); clear hG5 hE5 hx5)
    | (go_at_call 10; refine (glen_any _ _ _ _ HG.out).mono ?_; rintro e w6 ⟨rfl, rfl⟩; rw [hlen])
    | (go_at_call 11; refine ((callsIn_wide (n := 20)).1 (all_in 20 (by omega) _ _)).mono ?_; rintro e w6 ⟨rfl, hw6⟩; have hx6 := k_alloc2 hw6; have HX := Lib.hid (HX.out.trans hx6); have HG := Lib.hid (HG.out.xt hx6); clear hx6 hw6)
    | (go_at_call 12; refine (nodes_any 0 (refT (1, 1)) none 0 _ kForm_small args_nil).mono ?_; rintro e w6 ⟨bn, an, nn, rfl, _, _, _, hx6⟩; have HX := Lib.hid (HX.out.trans hx6); have HG := Lib.hid (HG.out.xt hx6); clear hx6)
    | (go_at_call 13; refine (cells_any ⟨_, _, _, _⟩ _).mono ?_; rintro e w6 ⟨rfl, hw6⟩; have hx6 := k_alloc1 hw6; have HX := Lib.hid (HX.out.trans hx6); have HG := Lib.hid (HG.out.xt hx6); clear hx6 hw6)
    | (go_at_call 14; refine (gget_any _ _ _ (2, 3) _ HG.out).mono ?_; rintro e w7 ⟨n7, a7, rfl, hA7, hx7⟩; obtain ⟨z, hz1, hz2⟩ : ∃ z : CE, z.1 = copyC ((lkM (2, 3) Mo).getD (zeroC, none)).1 ∧ z.2 = a7 := ⟨(_, _), rfl, rfl⟩; have hzv : copyCV ((lkM (2, 3) Mo).getD (zeroC, none)).1 a7 = ceV z := (by rw [← ceV_copy]; obtain ⟨z1, z2⟩ := z; simp only at hz1 hz2; rw [hz1, hz2]); rw [hzv]; have HZ : Hid (z.1.kind = 2 ∧ z.1.t.ref.a = (1, 3)) := (by unfold Hid; rw [hz1, er_getD, HE.out]; exact ⟨k_at.1, (congrArg RefT.a (copyT_ref _)).trans k_at.2⟩); have HX := Lib.hid (HX.out.trans hx7); have HG := Lib.hid (HG.out.xt hx7); obtain ⟨wZ, wR, hwZ, hwR, hrZ, hrR, hxR, hsR, hxZ, hsZ⟩ := boxR w7 z; have HX := Lib.hid (HX.out.trans hxR); have HG := Lib.hid (HG.out.xt hxR); have HRZ := Lib.hid hrZ; have HRR := Lib.hid hrR; have HWR := Lib.hid hwR; clear hrZ hwR hrR hxR hxZ hA7 hx7 hzv hz1 hz2)
    | (refine wpList_store_row (P := Tryd.prog) rfl 39 _ _ rfl w7.heap.size #[.int .i64 z.1.kind, .int .i64 z.1.v.kind, .float .f64 z.1.v.x, .string z.1.v.s, .bool z.1.v.b, .int .i64 z.1.v.f, .int .i64 z.1.t.kind, .int .i64 z.1.t.op, .float .f64 z.1.t.x, .string z.1.t.s, .bool z.1.t.b, .int .i64 z.1.t.f, .int .i64 z.1.t.ref.a.1, .int .i64 z.1.t.ref.a.2, .bool z.1.t.ref.cf, .bool z.1.t.ref.rf, .int .i64 z.1.t.to.a.1, .int .i64 z.1.t.to.a.2, .bool z.1.t.to.cf, .bool z.1.t.to.rf, .slice z.2 z.1.t.args.length z.1.t.args.length] rfl rfl 39 _ HRZ.out (by kernel_rfl) rfl (by simp [Value.oneCell']) ?_; rw [HWR.out]))
  have HH0 : Hid (wR.drew.cell? ⟨w7.heap.size, 0, none⟩ = some (.int .i64 2) ∧ wR.drew.cell? ⟨w7.heap.size, 12, none⟩ = some (.int .i64 1) ∧ wR.drew.cell? ⟨w7.heap.size, 13, none⟩ = some (.int .i64 3)) := by
    have h : wR.drew.heap[w7.heap.size]? = _ := HRR.out
    have h1 := HZ.out.1
    have h2 := congrArg Prod.fst HZ.out.2
    have h3 := congrArg Prod.snd HZ.out.2
    simp only at h2 h3
    refine ⟨?_, ?_, ?_⟩ <;> simp [World.cell?, h, h1, h2, h3]
  have HX := Lib.hid (HX.out.trans (Xt.refl wR).drew)
  have HG := Lib.hid (HG.out.xt (Xt.refl wR).drew)
  refine wp_region_held_drew (S := fun V => V.cell? ⟨w7.heap.size, 0, none⟩ = some (.int .i64 2) ∧ V.cell? ⟨w7.heap.size, 12, none⟩ = some (.int .i64 1) ∧ V.cell? ⟨w7.heap.size, 13, none⟩ = some (.int .i64 3)) (by kernel_rfl) HH0.out (fun hHeld => ?_)
  refine wpAnyH_take (i := 0) (oi := _) (v := ?_) rfl (by kernel_rfl) (by kernel_rfl) (by kernel_rfl) (fun _ _ _ h => h) (Or.inl ⟨by rfl, ?_⟩) (by assumption) ?_
  rotate_left
  · intro V hSw; (try dsimp only at hSw); obtain ⟨u0, u1, u2⟩ := hSw; go_simp; first | done | with_reducible rfl
  try simp only [Act.put, List.getElem_toArray, List.getElem_cons_zero, List.setIfInBounds_toArray, List.set_cons_zero, List.set_cons_succ]
  refine wpAnyH_take (i := 1) (oi := _) (v := ?_) rfl (by kernel_rfl) (by kernel_rfl) (by kernel_rfl) (fun _ _ _ h => h) (Or.inl ⟨by rfl, ?_⟩) (by assumption) ?_
  rotate_left
  · intro V hSw; (try dsimp only at hSw); obtain ⟨u0, u1, u2⟩ := hSw; go_simp; first | done | with_reducible rfl
  try simp only [Act.put, List.getElem_toArray, List.getElem_cons_zero, List.getElem_cons_succ, List.setIfInBounds_toArray, List.set_cons_zero, List.set_cons_succ]
  refine wpAnyH_take (i := 2) (oi := _) (v := ?_) rfl (by kernel_rfl) (by kernel_rfl) (by kernel_rfl) (fun _ _ _ h => h) (Or.inl ⟨by rfl, ?_⟩) (by assumption) ?_
  rotate_left
  · intro V hSw; (try dsimp only at hSw); obtain ⟨u0, u1, u2⟩ := hSw; go_simp; first | done | with_reducible rfl
  try simp only [Act.put, List.getElem_toArray, List.getElem_cons_zero, List.getElem_cons_succ, List.setIfInBounds_toArray, List.set_cons_zero, List.set_cons_succ]
  refine wpAnyH_take (i := 3) (oi := _) (v := ?_) rfl (by kernel_rfl) (by kernel_rfl) (by kernel_rfl) (fun _ _ _ h => h) (Or.inl ⟨by rfl, ?_⟩) (by assumption) ?_
  rotate_left
  · intro V hSw; (try dsimp only at hSw); obtain ⟨u0, u1, u2⟩ := hSw; go_simp; first | done | with_reducible rfl
  try simp only [Act.put, List.getElem_toArray, List.getElem_cons_zero, List.getElem_cons_succ, List.setIfInBounds_toArray, List.set_cons_zero, List.set_cons_succ]
  refine wpAnyH_take (i := 4) (oi := _) (v := ?_) rfl (by kernel_rfl) (by kernel_rfl) (by kernel_rfl) (fun _ _ _ h => h) (Or.inl ⟨by rfl, ?_⟩) (by assumption) ?_
  rotate_left
  · intro V hSw; (try dsimp only at hSw); obtain ⟨u0, u1, u2⟩ := hSw; go_simp; first | done | with_reducible rfl
  try simp only [Act.put, List.getElem_toArray, List.getElem_cons_zero, List.getElem_cons_succ, List.setIfInBounds_toArray, List.set_cons_zero, List.set_cons_succ]
  refine wpAnyH_take (i := 5) (oi := _) (v := ?_) rfl (by kernel_rfl) (by kernel_rfl) (by kernel_rfl) (fun _ _ _ h => h) (Or.inl ⟨by rfl, ?_⟩) (by assumption) ?_
  rotate_left
  · intro V hSw; (try dsimp only at hSw); obtain ⟨u0, u1, u2⟩ := hSw; go_simp; first | done | with_reducible rfl
  try simp only [Act.put, List.getElem_toArray, List.getElem_cons_zero, List.getElem_cons_succ, List.setIfInBounds_toArray, List.set_cons_zero, List.set_cons_succ]
  refine wpAnyH_take (i := 6) (oi := _) (v := ?_) rfl (by kernel_rfl) (by kernel_rfl) (by kernel_rfl) (fun _ _ _ h => h) (Or.inl ⟨by rfl, ?_⟩) (by assumption) ?_
  rotate_left
  · intro V hSw; (try dsimp only at hSw); obtain ⟨u0, u1, u2⟩ := hSw; go_simp; first | done | with_reducible rfl
  try simp only [Act.put, List.getElem_toArray, List.getElem_cons_zero, List.getElem_cons_succ, List.setIfInBounds_toArray, List.set_cons_zero, List.set_cons_succ]
  refine wpAnyH_take (i := 7) (oi := _) (v := ?_) rfl (by kernel_rfl) (by kernel_rfl) (by kernel_rfl) (fun _ _ _ h => h) (Or.inl ⟨by rfl, ?_⟩) (by assumption) ?_
  rotate_left
  · intro V hSw; (try dsimp only at hSw); obtain ⟨u0, u1, u2⟩ := hSw; go_simp; first | done | with_reducible rfl
  try simp only [Act.put, List.getElem_toArray, List.getElem_cons_zero, List.getElem_cons_succ, List.setIfInBounds_toArray, List.set_cons_zero, List.set_cons_succ]
  refine wpAnyH_ready (rs := [8]) (by kernel_rfl) (by simp) ?_
  refine AllReadyH.cons (o := _) rfl (fun K hK => ?_) AllReadyH.nil
  go_simp
  refine (at_any (_, _) _).mono ?_
  rintro e v1 ⟨rfl, hg⟩
  have HHv1 := Lib.hid (k_keep HH0.out hg.xt)
  have HX := Lib.hid (HX.out.trans hg.xt)
  have HG := Lib.hid (HG.out.xt hg.xt)
  refine hK.out _ _ HHv1.out (fun hHeldv1 => ?_)
  clear hg
  clear hK K
  refine wpAnyH_take (i := 9) (oi := _) (v := .bool true) rfl (by kernel_rfl) (by kernel_rfl) (by kernel_rfl) (fun _ _ _ h => h) (Or.inl ⟨by rfl, ?_⟩) (by assumption) ?_
  · intro V hSw; (try dsimp only at hSw); obtain ⟨u0, u1, u2⟩ := hSw; go_simp; first | done | with_reducible rfl | (simp [eqAd2])
  try simp only [Act.put, List.getElem_toArray, List.getElem_cons_zero, List.getElem_cons_succ, List.setIfInBounds_toArray, List.set_cons_zero, List.set_cons_succ]
  refine wpAnyH_take (i := 10) (oi := _) (v := ?_) rfl (by kernel_rfl) (by kernel_rfl) (by kernel_rfl) (fun _ _ _ h => h) (Or.inl ⟨by rfl, ?_⟩) (by assumption) ?_
  rotate_left
  · intro V hSw; (try dsimp only at hSw); obtain ⟨u0, u1, u2⟩ := hSw; go_simp; first | done | with_reducible rfl
  try simp only [Act.put, List.getElem_toArray, List.getElem_cons_zero, List.getElem_cons_succ, List.setIfInBounds_toArray, List.set_cons_zero, List.set_cons_succ]
  refine wpAnyH_take (i := 11) (oi := _) (v := ?_) rfl (by kernel_rfl) (by kernel_rfl) (by kernel_rfl) (fun _ _ _ h => h) (Or.inl ⟨by rfl, ?_⟩) (by assumption) ?_
  rotate_left
  · intro V hSw; (try dsimp only at hSw); obtain ⟨u0, u1, u2⟩ := hSw; go_simp; first | done | with_reducible rfl
  try simp only [Act.put, List.getElem_toArray, List.getElem_cons_zero, List.getElem_cons_succ, List.setIfInBounds_toArray, List.set_cons_zero, List.set_cons_succ]
  refine wpAnyH_take (i := 12) (oi := _) (v := ?_) rfl (by kernel_rfl) (by kernel_rfl) (by kernel_rfl) (fun _ _ _ h => h) (Or.inl ⟨by rfl, ?_⟩) (by assumption) ?_
  rotate_left
  · intro V hSw; (try dsimp only at hSw); obtain ⟨u0, u1, u2⟩ := hSw; go_simp; first | done | with_reducible rfl
  try simp only [Act.put, List.getElem_toArray, List.getElem_cons_zero, List.getElem_cons_succ, List.setIfInBounds_toArray, List.set_cons_zero, List.set_cons_succ]
  refine wpAnyH_ready (rs := [13]) (by kernel_rfl) (by simp) ?_
  refine AllReadyH.cons (o := _) rfl (fun K hK => ?_) AllReadyH.nil
  go_simp
  refine (at_any (_, _) _).mono ?_
  rintro e v2 ⟨rfl, hg⟩
  have HHv2 := Lib.hid (k_keep HHv1.out hg.xt)
  have HX := Lib.hid (HX.out.trans hg.xt)
  have HG := Lib.hid (HG.out.xt hg.xt)
  refine hK.out _ _ HHv2.out (fun hHeldv2 => ?_)
  clear hg
  clear hK K
  refine wpAnyH_ready (rs := [14]) (by kernel_rfl) (by simp) ?_
  refine AllReadyH.cons (o := _) rfl (fun K hK => ?_) AllReadyH.nil
  go_simp
  refine (gget_any _ _ _ (1, 3) _ HG.out).mono ?_
  rintro e v3 ⟨n8, a8, rfl, hA8, hx8⟩
  obtain ⟨y, hy⟩ : ∃ y : ContT, copyC ((lkM (1, 3) Mo).getD (zeroC, none)).1 = y := ⟨_, rfl⟩
  have hyx : y.v.x = 4619567317775286272 := by rw [← hy, er_getD, HE.out]; exact k_x
  have HHv3 := Lib.hid (k_keep HHv2.out hx8)
  have HX := Lib.hid (HX.out.trans hx8)
  simp only [copyCV, hy]
  refine hK.out _ _ HHv3.out (fun hHeldv3 => ?_)
  clear hx8 hA8
  clear hK K
  try simp only [Act.put, List.getElem_toArray, List.getElem_cons_zero, List.getElem_cons_succ, List.setIfInBounds_toArray, List.set_cons_zero, List.set_cons_succ]
  refine wpAnyH_take (i := 15) (oi := _) (v := ?_) rfl (by kernel_rfl) (by kernel_rfl) (by kernel_rfl) (fun _ _ _ h => h) (Or.inl ⟨by rfl, ?_⟩) (by assumption) ?_
  rotate_left
  · intro V hSw; (try dsimp only at hSw); obtain ⟨u0, u1, u2⟩ := hSw; go_simp; first | done | with_reducible rfl
  try simp only [Act.put, List.getElem_toArray, List.getElem_cons_zero, List.getElem_cons_succ, List.setIfInBounds_toArray, List.set_cons_zero, List.set_cons_succ]
  refine wpAnyH_take (i := 16) (oi := _) (v := ?_) rfl (by kernel_rfl) (by kernel_rfl) (by kernel_rfl) (fun _ _ _ h => h) (Or.inl ⟨by rfl, ?_⟩) (by assumption) ?_
  rotate_left
  · intro V hSw; (try dsimp only at hSw); obtain ⟨u0, u1, u2⟩ := hSw; go_simp; first | done | with_reducible rfl
  try simp only [Act.put, List.getElem_toArray, List.getElem_cons_zero, List.getElem_cons_succ, List.setIfInBounds_toArray, List.set_cons_zero, List.set_cons_succ]
  refine wpAnyH_take (i := 17) (oi := _) (v := .bool true) rfl (by kernel_rfl) (by kernel_rfl) (by kernel_rfl) (fun _ _ _ h => h) (Or.inl ⟨by rfl, ?_⟩) (by assumption) ?_
  · intro V hSw; (try dsimp only at hSw); obtain ⟨u0, u1, u2⟩ := hSw; go_simp; first | done | with_reducible rfl | exact float7
  try simp only [Act.put, List.getElem_toArray, List.getElem_cons_zero, List.getElem_cons_succ, List.setIfInBounds_toArray, List.set_cons_zero, List.set_cons_succ]
  refine wpAnyH_take (i := 18) (oi := _) (v := ?_) rfl (by kernel_rfl) (by kernel_rfl) (by kernel_rfl) (fun _ _ _ h => h) (Or.inl ⟨by rfl, ?_⟩) (by assumption) ?_
  rotate_left
  · intro V hSw; (try dsimp only at hSw); obtain ⟨u0, u1, u2⟩ := hSw; go_simp; first | done | with_reducible rfl
  try simp only [Act.put, List.getElem_toArray, List.getElem_cons_zero, List.getElem_cons_succ, List.setIfInBounds_toArray, List.set_cons_zero, List.set_cons_succ]
  refine wpAnyH_ready (rs := [19]) (by kernel_rfl) (by simp) ?_
  refine AllReadyH.cons (o := _) rfl (fun K hK => ?_) AllReadyH.nil
  go_simp
  refine hK.out _ _ HHv3.out (fun hHeld9 => ?_)
  clear hK K
  refine wpAnyH_done (by kernel_rfl) ?_ _
  go_wp2_with fail
  go_ret
  exact ⟨rfl, HX.out⟩
end Go.Proofs.YtakcadkffmfneaaDoor
/- quadrillelaw22.MoveNames's walk. -/
namespace Go.Proofs.YtakcadkffmfneaaDoor
open Go.RowKit Go.Sort

theorem moveNames_any (w : World) (hT : Tabs w) : Calls Tryd.prog 3 #[] w fun e w' => e = .returned (.bool true) ∧ Xt w w' := by
  have HK := Lib.hid (known_any w hT)
  clear hT
  go_enter Tryd.func3, Tryd.ntmps3
  go_wp2_with (first | (go_at_call 4; refine (HK.out).mono ?_; rintro e w1 ⟨rfl, hx⟩))
  go_ret
  exact ⟨rfl, hx⟩
end Go.Proofs.YtakcadkffmfneaaDoor
