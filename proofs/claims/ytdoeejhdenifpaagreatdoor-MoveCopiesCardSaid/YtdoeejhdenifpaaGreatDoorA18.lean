import Derived.Test.YtdoeejhdenifpaaGreatDoorZ1
import Derived.Test.YtdoeejhdenifpaaGreatDoorW46
import Derived.StillTailTactics
import Derived.Test.YtdoeejhdenifpaaGreatDoorA17
import Derived.Test.YtdoeejhdenifpaaGreatDoorA14
import Derived.Deep.CutBlock
import Derived.Deep.DeepCutAuto
import Derived.Test.YtdoeejhdenifpaaGreatDoorT8
import Derived.Test.YtdoeejhdenifpaaGreatDoorA7
import Derived.Test.YtdoeejhdenifpaaGreatDoorR5
import Derived.Test.YtdoeejhdenifpaaGreatDoorA16
/- Equal of two grids. -/
namespace Go.Proofs.YtdoeejhdenifpaaGreatDoor
open Go.RowKit Go.Sort Go.Maps
set_option maxRecDepth 100000 in
set_option maxHeartbeats 4000000 in
theorem gequal_any (g1 g2 b1 b2 : Nat) (M1 M2 : GM) (w : World) (h1 : GridIs w g1 b1 M1) (h2 : GridIs w g2 b2 M2) :
    Calls Tryz.prog 21 #[.pointer (some ⟨g1, 0, none⟩), .pointer (some ⟨g2, 0, none⟩)] w fun e w' => e = .returned (.bool (eqMB M1 M2)) ∧ Xt w w' := by
 have c1 := h1.cell
 have c2 := h2.cell
 have HM := Lib.hid (meq_any b1 b2 M1 M2 w.drew (h1.mapG.xt (Xt.refl w).drew) (h2.mapG.xt (Xt.refl w).drew))
 clear h1 h2
 go_enter Tryz.func21, Tryz.ntmps21
 go_wp2_with fail
 refine wp_region_still_tail 15 (by kernel_rfl) (by kernel_rfl) ?_
 change wpStill _ _ (World.drew _) _ _ _
 simp only [List.take_succ_cons, List.take_zero, List.drop_succ_cons, List.drop_zero]
 still_step
 still_step
 still_step
 still_step
 still_step
 still_step
 still_step
 still_step
 still_step
 still_step
 still_step
 still_step
 still_step
 still_step
 still_step
 refine wpStill_nil ?_
 change wpList _ _ _ _ _ (World.drew _)
 refine wpList_step (fun K hK => ?_)
 go_simp
 refine HM.out.mono ?_
 rintro e w5 ⟨rfl, hx⟩
 refine hK _ _ ?_
 clear hK K
 have HX := Lib.hid hx
 clear hx
 go_wp2_with fail
 go_ret
 exact ⟨rfl, (Xt.refl w).drew.trans HX.out⟩
end Go.Proofs.YtdoeejhdenifpaaGreatDoor
/- Grids that are equal; their lengths; their bulk. -/
namespace Go.Proofs.YtdoeejhdenifpaaGreatDoor
open Go.RowKit Go.Sort Go.Maps Go.Shelf Go.MapKept
attribute [local go_sem] Oper.semAt_some
theorem eqM_er {M1 M2 : GM} (h : er M1 = er M2) : eqMB M1 M2 = true := by
 refine eqMB_yes (by rw [← er_len M1, ← er_len M2, h]) (fun a ha => ?_)
 obtain ⟨x, hx⟩ := Option.isSome_iff_exists.1 (lkM_mem_iff.2 ha)
 have h1 := er_lk a M1
 rw [h, er_lk, hx] at h1
 cases hy : lkM a M2 with
 | none => rw [hy] at h1; cases h1
 | some y =>
  rw [hy] at h1
  have e : y.1 = x.1 := Option.some.inj h1
  unfold okAt
  rw [hx, hy]
  simp only
  rw [e]; exact sameCB_refl _
theorem equal_er (g1 g2 b1 b2 : Nat) (M1 M2 : GM) (w : World) (h1 : GridIs w g1 b1 M1) (h2 : GridIs w g2 b2 M2) (he : er M1 = er M2) :
    Calls Tryz.prog 21 #[.pointer (some ⟨g1, 0, none⟩), .pointer (some ⟨g2, 0, none⟩)] w fun e w' => e = .returned (.bool true) ∧ Xt w w' := by
 have h := gequal_any g1 g2 b1 b2 M1 M2 w h1 h2
 rw [eqM_er he] at h
 exact h
theorem len_n (gb mb : Nat) (M : GM) (n : Int) (w : World) (h : GridIs w gb mb M) (hn : (M.length : Int) = n) : Calls Tryz.prog 19 #[.pointer (some ⟨gb, 0, none⟩)] w fun e w' => e = .returned (.int .i64 n) ∧ w = w' := by
 rw [← hn]; exact glen_any gb mb M w h
end Go.Proofs.YtdoeejhdenifpaaGreatDoor
/- What MoveCopies' walk needs of plain facts. -/
namespace Go.Proofs.YtdoeejhdenifpaaGreatDoor
open Go.RowKit Go.Sort Go.Maps Go.Shelf Go.MapKept
theorem CopyR.no {w : World} {e : Ending} {w' : World} (h : CopyR none w e w') : Xt w w' ∧ e = .returned (.tuple #[.pointer none, .int .i64 41]) := by
 obtain ⟨hx, ⟨h1, _⟩ | ⟨_, _, _, _, _, h2, _⟩⟩ := h
 · exact ⟨hx, h1⟩
 · cases h2
theorem CopyR.yes {A : PG} {w : World} {e : Ending} {w' : World} (h : CopyR (some A) w e w') : Xt w w' ∧ ∃ go mo Mo, e = .returned (.tuple #[.pointer (some ⟨go, 0, none⟩), .int .i64 0]) ∧ GridIs w' go mo Mo ∧ er Mo = A := by
 obtain ⟨hx, ⟨_, h1⟩ | ⟨go, mo, Mo, he, hG, h2, _⟩⟩ := h
 · cases h1
 · exact ⟨hx, go, mo, Mo, he, hG, (Option.some.inj h2).symm⟩
def EitherR (o : Option PG) (pv : Value) (fv : Int) (w : World) : Prop := (pv = .pointer none ∧ fv = 41 ∧ o = none) ∨ ∃ go mo Mo, pv = .pointer (some ⟨go, 0, none⟩) ∧ fv = 0 ∧ GridIs w go mo Mo ∧ o = some (er Mo)
theorem CopyR.either {o : Option PG} {w : World} {e : Ending} {w' : World} (h : CopyR o w e w') : Xt w w' ∧ ∃ pv fv, e = .returned (.tuple #[pv, .int .i64 fv]) ∧ EitherR o pv fv w' := by
 obtain ⟨hx, ⟨h1, h2⟩ | ⟨go, mo, Mo, he, hG, h2, _⟩⟩ := h
 · exact ⟨hx, _, _, h1, .inl ⟨rfl, rfl, h2⟩⟩
 · exact ⟨hx, _, _, he, .inr ⟨go, mo, Mo, rfl, rfl, hG, h2⟩⟩
theorem small_mv9 (x : ArT) (y : Ad) : Mv (smallA x) ⟨(smallC y).1, (smallC y).2, (smallA x).c + ((smallC y).1 - (smallA x).a), (smallA x).d + ((smallC y).2 - (smallA x).b)⟩ ((smallC y).1 - (smallA x).a) ((smallC y).2 - (smallA x).b) := by
 have b1 := pickZ_lt (c := x.a) (n := 6) (by omega)
 have b2 := pickZ_lt (c := x.b) (n := 6) (by omega)
 have b3 := pickZ_lt (c := x.c) (n := 3) (by omega)
 have b4 := pickZ_lt (c := x.d) (n := 3) (by omega)
 have b5 := pickZ_lt (c := y.1) (n := 7) (by omega)
 have b6 := pickZ_lt (c := y.2) (n := 7) (by omega)
 unfold smallA smallC
 refine ⟨by simp only; omega, by simp only; omega, by simp only; omega, by simp only; omega, by simp only; omega, by simp only; omega, ?_, by simp only; omega, by simp only; omega, by simp only; omega, by simp only; omega⟩
 simp only [ArT.mk.injEq, true_and]
 refine ⟨?_, ?_, trivial⟩ <;> omega
theorem sh_law (cc rr : Int) (o : Option ContT) : ((o.map (shC cc rr)).getD zeroC).kind = (o.getD zeroC).kind ∧ ((o.getD zeroC).kind = 1 → (o.map (shC cc rr)).getD zeroC = o.getD zeroC) := by
 cases o with
 | none => exact ⟨rfl, fun _ => rfl⟩
 | some c => exact ⟨shC_kind cc rr c, fun h => shC_1 cc rr (fun e => by have h' : c.kind = 1 := h; omega)⟩
theorem plain_args9 {g : PG} (hg : GOk g) (a : Ad) (hk : ((lkM a g).getD zeroC).kind = 1) : ((lkM a g).getD zeroC).t.args = [] := by
 cases e : lkM a g with
 | none => rfl
 | some c =>
  rw [e] at hk
  have hc := okCt_of hg _ (lkM_mem e)
  have h1 := (hc.plain (by show c.kind ≠ 2; have : c.kind = 1 := hk; omega)).1
  show c.t.args = []
  rw [flatT_eq] at h1
  have h2 : flatL c.t.args = [] := by simpa using h1
  cases ea : c.t.args with
  | nil => rfl
  | cons t l =>
   rw [ea, flatL] at h2
   have := flat_pos t
   rw [List.append_eq_nil_iff] at h2
   rw [h2.1] at this; simp at this
theorem argsIn_nil9 (w : World) (a : Option Addr) (l : List NodeT) (h : l = []) : ArgsIn w 1 (.slice a l.length l.length) l := by
 subst h
 exact ⟨a, 0, rfl, by simp, by simp, fun hne => absurd rfl hne⟩
theorem copy_args9 {c : ContT} (h : c.t.args = []) : (copyC c).t.args = [] := by
 show (copyT c.t).args = []
 rw [copyT_args, h]; rfl
theorem argsIn_copy {w : World} {n : Nat} {u : ContT} {a : Option Addr} {z : CE} (h1 : z.1 = copyC u) (h2 : z.2 = a) {S : Nat → Prop} (h : ArgsS S w n (.slice a u.t.args.length u.t.args.length) (copyL u.t.args)) : ArgsIn w n (.slice z.2 z.1.t.args.length z.1.t.args.length) z.1.t.args := by
 rw [h1, h2]
 show ArgsIn _ _ (.slice a (copyT u.t).args.length (copyT u.t).args.length) (copyT u.t).args
 rw [copyT_len, copyT_args]
 exact h.args
theorem clear_snoc (f : ArT) (l : PG) (x : Ad × ContT) : (clearP f (l ++ [x])).length = (clearP f l).length + (if inA f x.1 = true then 0 else 1) := by
 unfold clearP
 rw [List.filter_append, List.length_append, List.filter_cons]
 cases inA f x.1 <;> simp
theorem clear_le (f : ArT) (l : PG) : (clearP f l).length ≤ l.length := List.length_filter_le ..
theorem round_end2 {W0 W wz w' : World} {R l0 n0 : Nat} {f : List TE → Int} {pre' : List TE} {cnt cnt' : Int} (hg : W0.grownBy W (some R)) (hr : W.heap[R]? = some (.cells #[.int .i64 cnt] 3 (0, 0))) (hz : Xt W wz) (hf : f pre' = cnt')
    (hx : Xt (wz.setCell ⟨R, 0, none⟩ (.int .i64 cnt')) w') (hl : R < l0) (hn : n0 ≤ R) :
    KeepsFrom l0 W w' ∧ (Below n0 W w' ∧ KeepsT (fun _ => false) W w') ∧ LJ W0 R f pre' w' := by
 obtain ⟨h1, ⟨h2, h3⟩, h4⟩ := round_endT (l0 := l0) (n0 := n0) (f := f) (pre' := pre') hg hr (rowX hz hr) hf ((Wr.of_xt hz).trans (Wr.cell _ rfl)) hl hn
 have hR : R < W.heap.size := (Array.getElem?_eq_some_iff.1 hr).1
 have hs : R < (wz.setCell ⟨R, 0, none⟩ (.int .i64 cnt')).heap.size := Nat.lt_of_lt_of_le hR (Nat.le_trans hz.size (setCell_grown _ _ _ _).size)
 refine ⟨h1.trans (keepsFrom_xt hx _), ⟨h2.trans (hx.mono (by omega)), h3.trans (KeepsT.of_xt hx)⟩, grownBy_far h4.grown hx.grownN (fun r e => by cases e), rowX hx h4.cnt⟩
section
variable {f gl : ArT} {cc rr : Int} {g : Ad}
theorem Mv.movV (h : Mv f gl cc rr) {a : Ad} (ha : inA f a = true) : validB (movG cc rr a).1 (movG cc rr a).2 = true := by
 obtain ⟨e1, e2⟩ := h.mov_in ha
 rw [e1]
 have := (h.ing _).1 e2
 simp only at this
 have := h.u0
 have := h.u1
 have := h.v0
 have := h.v1
 exact validB_o2 (by simp only; omega)
theorem Mv.copy_any (h : Mv f gl cc rr) (hg1 : f.a + cc = g.1) (hg2 : f.b + rr = g.2) (gb mb : Nat) (M : GM) (w : World) (hG : GridIs w gb mb M) (hT : Tabs w) (hO : GOk (er M)) :
    Calls Tryz.prog 27 #[.pointer (some ⟨gb, 0, none⟩), arT f, .agg #[.int .i64 g.1, .int .i64 g.2]] w fun e w' => CopyR (cpAll (movG cc rr) cc rr (clearP gl (er M)) (inP f (er M))) w e w' := by
 obtain ⟨x0, x1, x2, y0, y1, y2, e, u0, u1, v0, v1⟩ := id h
 have hlast : lastOf f g = (gl.c, gl.d) := by
  unfold lastOf
  rw [e, ← hg1, ← hg2]
  refine Prod.ext ?_ ?_
  · simp only
    rw [w64 (x := f.a + cc + f.c) (by omega) (by omega), w64 (by omega) (by omega)]; omega
  · simp only
    rw [w64 (x := f.b + rr + f.d) (by omega) (by omega), w64 (by omega) (by omega)]; omega
 refine mcopy_any f g gl cc rr gb mb M w hG hT hO h.vf (by rw [← hg1, ← hg2]; exact validB_of (by omega)) ?_ ?_ ?_ ?_ (fun a ha => h.movV ha)
 · rw [hlast, e]; exact validB_of (by simp only; omega)
 · unfold thereA; rw [hlast, e, ← hg1, ← hg2]
 · unfold farC; rw [← hg1, w64 (by omega) (by omega)]; omega
 · unfold farR; rw [← hg2, w64 (by omega) (by omega)]; omega
theorem Mv.self_any (h : Mv f gl cc rr) (gb mb : Nat) (M : GM) (w : World) (hG : GridIs w gb mb M) (hT : Tabs w) (hO : GOk (er M)) :
    Calls Tryz.prog 27 #[.pointer (some ⟨gb, 0, none⟩), arT f, .agg #[.int .i64 f.a, .int .i64 f.b]] w fun e w' => CopyR (some (er M)) w e w' := by
 obtain ⟨x0, x1, x2, y0, y1, y2, e, u0, u1, v0, v1⟩ := id h
 have hm : Mv f f 0 0 := ⟨x0, x1, x2, y0, y1, y2, by simp, by omega, by omega, by omega, by omega⟩
 have := hm.copy_any (g := (f.a, f.b)) (by simp) (by simp) gb mb M w hG hT hO
 rw [copy_self hO] at this
 exact this
theorem Mv.one_any (h : Mv f gl cc rr) (hg1 : f.a + cc = g.1) (hg2 : f.b + rr = g.2) (gb mb : Nat) (M : GM) (w : World) (hG : GridIs w gb mb M) (hT : Tabs w) (hO : GOk (er M)) :
    Calls Tryz.prog 27 #[.pointer (some ⟨gb, 0, none⟩), arT ⟨f.a, f.b, f.a, f.b⟩, .agg #[.int .i64 g.1, .int .i64 g.2]] w fun e w' => CopyR (fillP (f.a, f.b) ⟨g.1, g.2, g.1, g.2⟩ (er M)) w e w' := by
 obtain ⟨x0, x1, x2, y0, y1, y2, e, u0, u1, v0, v1⟩ := id h
 have hm : Mv ⟨f.a, f.b, f.a, f.b⟩ ⟨g.1, g.2, g.1, g.2⟩ cc rr := ⟨by simp only; omega, by simp only; omega, by simp only; omega, by simp only; omega, by simp only; omega, by simp only; omega, by simp only [← hg1, ← hg2], by simp only; omega, by simp only; omega, by simp only; omega, by simp only; omega⟩
 have := hm.copy_any (g := g) hg1 hg2 gb mb M w hG hT hO
 have hf := fill_one (fr := (f.a, f.b)) (tg := g) hO (validB_of (by simp only; omega)) (by rw [← hg1, ← hg2]; exact validB_of (by omega))
 simp only [show wrap64 (g.1 - f.a) = cc by rw [← hg1, w64 (by omega) (by omega)]; omega, show wrap64 (g.2 - f.b) = rr by rw [← hg2, w64 (by omega) (by omega)]; omega] at hf
 rw [hf] at this
 exact this
theorem Mv.fill_any (h : Mv f gl cc rr) (hg1 : f.a + cc = g.1) (hg2 : f.b + rr = g.2) (gb mb : Nat) (M : GM) (w : World) (hG : GridIs w gb mb M) (hT : Tabs w) (hO : GOk (er M)) :
    Calls Tryz.prog 28 #[.pointer (some ⟨gb, 0, none⟩), .agg #[.int .i64 f.a, .int .i64 f.b], arT ⟨g.1, g.2, g.1, g.2⟩] w fun e w' => CopyR (fillP (f.a, f.b) ⟨g.1, g.2, g.1, g.2⟩ (er M)) w e w' := by
 obtain ⟨x0, x1, x2, y0, y1, y2, e, u0, u1, v0, v1⟩ := id h
 have hv : vA ⟨g.1, g.2, g.1, g.2⟩ = true := vA_o2 (by simp only; omega)
 exact mfill_any (f.a, f.b) ⟨g.1, g.2, g.1, g.2⟩ gb mb M w hG hT hO hv (validB_of (by simp only; omega))
end
end Go.Proofs.YtdoeejhdenifpaaGreatDoor
/- MoveCopies' walk (made by mkt9.py). -/
namespace Go.Proofs.YtdoeejhdenifpaaGreatDoor
open Go.RowKit Go.Sort Go.Maps Go.Shelf Go.MapKept
attribute [local go_sem] Oper.semAt_some
set_option maxRecDepth 100000 in
set_option maxHeartbeats 4000000 in
theorem moveCopies_any (l : List PI) (lv : Value) (kk aa nn : Int) (x : ArT) (y : Ad) (w : World) (hT : Tabs w) (hl : PutsIn w lv l) (hs : ∀ x ∈ l, smallT x.c.t) (hb : I64 x.a ∧ I64 x.b ∧ I64 x.c ∧ I64 x.d ∧ I64 y.1 ∧ I64 y.2) :
    Calls Tryz.prog 6 #[lv, .agg #[.int .i64 kk, .int .i64 aa, .int .i64 nn, .int .i64 x.a, .int .i64 x.b, .int .i64 x.c, .int .i64 x.d, .int .i64 y.1, .int .i64 y.2]] w fun e w' => e = .returned (.bool true) ∧ Xt w w' := by
 obtain ⟨la, lc, rfl, hlc, hlc2⟩ := hl.shape
 have HOK0 := Lib.hid (fun M (hE : er M = allP [] (pis l)) => (show GOk (er M) by rw [hE]; exact allP_ok GOk.nil (pis_ok hl)))
 have HT := Lib.hid hT
 have HL := Lib.hid hl
 have HS := Lib.hid hs
 have HSM := Lib.hid (fun V => small_any kk aa nn x y V hb)
 have hmv := small_mv9 x y
 obtain ⟨f, hf⟩ : ∃ f, smallA x = f := ⟨_, rfl⟩
 obtain ⟨g, hg⟩ : ∃ g, smallC y = g := ⟨_, rfl⟩
 rw [hf, hg] at HSM hmv
 obtain ⟨cc, hcc⟩ : ∃ c, g.1 - f.a = c := ⟨_, rfl⟩
 obtain ⟨rr, hrr⟩ : ∃ c, g.2 - f.b = c := ⟨_, rfl⟩
 rw [hcc, hrr] at hmv
 have hfar := hmv.far
 obtain ⟨x0, x1, x2, y0, y1, y2, _, u0, u1, v0, v1⟩ := id hmv
 obtain ⟨gl, hgl⟩ : ∃ gl : ArT, ⟨g.1, g.2, f.c + cc, f.d + rr⟩ = gl := ⟨_, rfl⟩
 rw [hgl] at hmv
 have HMV := Lib.hid hmv
 have g1 : gl.a = g.1 := by rw [← hgl]
 have g2 : gl.b = g.2 := by rw [← hgl]
 have g3 : gl.c = f.c + cc := by rw [← hgl]
 have g4 : gl.d = f.d + rr := by rw [← hgl]
 have wc1 : IntKind.i64.wrap (g.1 - f.a) = cc := by rw [wrap_idz (by omega) (by omega)]; exact hcc
 have wc2 : IntKind.i64.wrap (g.2 - f.b) = rr := by rw [wrap_idz (by omega) (by omega)]; exact hrr
 have wd1 : wrap64 (g.1 - f.a) = cc := by rw [w64 (by omega) (by omega)]; exact hcc
 have wd2 : wrap64 (g.2 - f.b) = rr := by rw [w64 (by omega) (by omega)]; exact hrr
 have wl1 : wrap64 (f.c + cc) = gl.c := by rw [w64 (by omega) (by omega), ← hgl]
 have wl2 : wrap64 (f.d + rr) = gl.d := by rw [w64 (by omega) (by omega), ← hgl]
 have HSH := Lib.hid (fun V => shifted_any (f.c, f.d) cc rr V)
 simp only [wl1, wl2] at HSH
 have e1 : f.a + cc = g.1 := by omega
 have e2 : f.b + rr = g.2 := by omega
 have HCP := Lib.hid (hmv.copy_any (g := g) e1 e2)
 have HSELF := Lib.hid (hmv.self_any)
 have HONE := Lib.hid (hmv.one_any (g := g) e1 e2)
 have HFILL := Lib.hid (hmv.fill_any (g := g) e1 e2)
 clear e1 e2
 have hglb : vA gl = true := hmv.back.vf
 have HB := Lib.hid (show 1 ≤ f.a ∧ f.a ≤ f.c ∧ f.c ≤ 12 ∧ 1 ≤ f.b ∧ f.b ≤ f.d ∧ f.d ≤ 12 ∧ f.a + cc = g.1 ∧ f.b + rr = g.2 ∧ gl.a = g.1 ∧ gl.b = g.2 ∧ gl.c = f.c + cc ∧ gl.d = f.d + rr from ⟨x0, x1, x2, y0, y1, y2, by omega, by omega, g1, g2, g3, g4⟩)
 obtain ⟨B, hB⟩ : ∃ B, w.heap.size = B := ⟨_, rfl⟩
 obtain ⟨w0, hw0⟩ : ∃ w0, w.alloc (.cells #[.int .i64 kk, .int .i64 aa, .int .i64 nn, .int .i64 x.a, .int .i64 x.b, .int .i64 x.c, .int .i64 x.d, .int .i64 y.1, .int .i64 y.2] 28) = w0 := ⟨_, rfl⟩
 have hs0 : w0.heap.size = B + 1 := by rw [← hw0, ← hB]; simp
 obtain ⟨w1, hw1⟩ : ∃ w1, w0.alloc (.cells #[.bool false] 4) = w1 := ⟨_, rfl⟩
 have hs1 : w1.heap.size = B + 1 + 1 := by rw [← hw1]; simp [hs0]
 have HX1 : Hid (Xt w w1) := by unfold Hid; rw [← hw1, ← hw0]; exact ((Xt.refl _).alloc _).alloc _
 have HR0 : Hid (w1.heap[B]? = some (.cells #[.int .i64 kk, .int .i64 aa, .int .i64 nn, .int .i64 x.a, .int .i64 x.b, .int .i64 x.c, .int .i64 x.d, .int .i64 y.1, .int .i64 y.2] 28 (0, 0))) := rowX (w := w0) (by rw [← hw1]; exact (Xt.refl _).alloc _) (by rw [← hw0, ← hB]; exact (MapKept.heap_alloc w _).1)
 have HR1 : Hid (w1.heap[B + 1]? = some (.cells #[.bool false] 4 (0, 0))) := by unfold Hid; rw [← hw1, ← hs0]; exact (MapKept.heap_alloc w0 _).1
 clear hT hl hs hb hf hg hcc hrr hmv hfar x0 x1 x2 y0 y1 y2 u0 u1 v0 v1 hgl wd1 wd2
 clear wl1 wl2 g1 g2 g3 g4
 refine (callsIn_wide (n := 25)).1 ?_
 refine callsIn_of_wp_marks Tryz.func6 rfl trivial ?_ rfl
 simp only [Tryz.ntmps6, List.size_toArray, List.length_cons, List.length_nil, Nat.reduceAdd, Nat.reduceSub, Array.replicate_succ, Array.replicate_zero, List.push_toArray, List.append_toArray, List.nil_append, List.cons_append]
 refine wpIn_wide.2 ?_
 refine wp_mono (Q := noPanic (bodyPostM Fence.wide 25 Tryz.prog Tryz.f6 (fun e w' => e = .returned (.bool true) ∧ Xt w w'))) ?_ noPanic_le
 go_upto_region 7 with (first
  | (go_at_call 8; refine (made22_any l (.slice la l.length lc) w1 (HT.out.xt HX1.out) (HL.out.xt HX1.out) HS.out).mono ?_; rintro e w2 ⟨gb, mb, M, rfl, hG, hE, hx2⟩; obtain ⟨K5, hK5⟩ : ∃ K, w2.heap.size = K := ⟨_, rfl⟩; obtain ⟨w3, hw3⟩ : ∃ w3, w2.alloc (.cells #[.pointer (some ⟨gb, 0, none⟩)] 29) = w3 := ⟨_, rfl⟩; have HX3 : Hid (Xt w1 w3) := (by unfold Hid; rw [← hw3]; exact hx2.alloc _); have HR5 : Hid (w3.heap[K5]? = some (.cells #[.pointer (some ⟨gb, 0, none⟩)] 29 (0, 0))) := (by unfold Hid; rw [← hw3, ← hK5]; exact (MapKept.heap_alloc w2 _).1); have HG3 : Hid (GridIs w3 gb mb M) := (by unfold Hid; rw [← hw3]; exact hG.xt ((Xt.refl _).alloc _)); have HE := Lib.hid hE; obtain ⟨e5, _⟩ := one_row HR5.out; have hK1 : B + 1 < K5 := (by have := hx2.size; omega); clear hG hE hx2)
  | (go_at_call 9; refine (known_any _ (HT.out.xt (HX1.out.trans HX3.out))).mono ?_; rintro e w4 ⟨rfl, hx4⟩; have HX34 : Hid (Xt w3 w4) := hx4; have HX14 : Hid (Xt w1 w4) := HX3.out.trans hx4; obtain ⟨z0, z1, z2, z3, z4, z5, z6, z7, z8⟩ := cells9 (rowX HX14.out HR0.out); clear hx4)
  | (go_at_call 10; refine (HSM.out _).mono ?_; rintro e w5 ⟨rfl, hx5⟩; have HX35 : Hid (Xt w3 w5) := HX34.out.trans hx5; obtain ⟨K6, hK6⟩ : ∃ K, w5.heap.size = K := ⟨_, rfl⟩; have hK56 : K5 < K6 := (by have h1 := HX35.out.size; have h2 := (Array.getElem?_eq_some_iff.1 HR5.out).1; omega); clear hx5))
 obtain ⟨w6, hw6⟩ : ∃ w6, (((w5.alloc (.cells #[.int .i64 f.a, .int .i64 f.b, .int .i64 f.c, .int .i64 f.d] 26)).alloc (.cells #[.int .i64 g.1, .int .i64 g.2] 24)).alloc (.cells #[.int .i64 cc] 3)).alloc (.cells #[.int .i64 rr] 3) = w6 := ⟨_, rfl⟩
 have hs6 : w6.heap.size = K6 + 1 + 1 + 1 + 1 := by rw [← hw6]; simp [hK6]
 have HX36 : Hid (Xt w3 w6) := by unfold Hid; rw [← hw6]; exact ((((HX35.out).alloc _).alloc _).alloc _).alloc _
 have HRF : Hid (w6.heap[K6]? = some (.cells #[.int .i64 f.a, .int .i64 f.b, .int .i64 f.c, .int .i64 f.d] 26 (0, 0))) := rowX (w := w5.alloc (.cells #[.int .i64 f.a, .int .i64 f.b, .int .i64 f.c, .int .i64 f.d] 26)) (by rw [← hw6]; exact (((Xt.refl _).alloc _).alloc _).alloc _) (by rw [← hK6]; exact (MapKept.heap_alloc w5 _).1)
 have HRG : Hid (w6.heap[K6 + 1]? = some (.cells #[.int .i64 g.1, .int .i64 g.2] 24 (0, 0))) := rowX (w := (w5.alloc (.cells #[.int .i64 f.a, .int .i64 f.b, .int .i64 f.c, .int .i64 f.d] 26)).alloc (.cells #[.int .i64 g.1, .int .i64 g.2] 24)) (by rw [← hw6]; exact ((Xt.refl _).alloc _).alloc _) (by have := (MapKept.heap_alloc (w5.alloc (.cells #[.int .i64 f.a, .int .i64 f.b, .int .i64 f.c, .int .i64 f.d] 26)) (.cells #[.int .i64 g.1, .int .i64 g.2] 24)).1; simpa [hK6] using this)
 have HRC : Hid (w6.heap[K6 + 1 + 1]? = some (.cells #[.int .i64 cc] 3 (0, 0))) := rowX (w := ((w5.alloc (.cells #[.int .i64 f.a, .int .i64 f.b, .int .i64 f.c, .int .i64 f.d] 26)).alloc (.cells #[.int .i64 g.1, .int .i64 g.2] 24)).alloc (.cells #[.int .i64 cc] 3)) (by rw [← hw6]; exact (Xt.refl _).alloc _) (by have := (MapKept.heap_alloc ((w5.alloc (.cells #[.int .i64 f.a, .int .i64 f.b, .int .i64 f.c, .int .i64 f.d] 26)).alloc (.cells #[.int .i64 g.1, .int .i64 g.2] 24)) (.cells #[.int .i64 cc] 3)).1; simpa [hK6] using this)
 have HRR : Hid (w6.heap[K6 + 1 + 1 + 1]? = some (.cells #[.int .i64 rr] 3 (0, 0))) := by
  unfold Hid; rw [← hw6]
  have := (MapKept.heap_alloc (((w5.alloc (.cells #[.int .i64 f.a, .int .i64 f.b, .int .i64 f.c, .int .i64 f.d] 26)).alloc (.cells #[.int .i64 g.1, .int .i64 g.2] 24)).alloc (.cells #[.int .i64 cc] 3)) (.cells #[.int .i64 rr] 3)).1
  simpa [hK6] using this
 simp only [hw6]
 clear hw6 e5 z0 z1 z2 z3 z4 z5 z6 z7 z8
 have HFA : Hid (∀ V, Xt w6 V → V.cell? ⟨K6, 0, none⟩ = some (.int .i64 f.a) ∧ V.cell? ⟨K6, 1, none⟩ = some (.int .i64 f.b) ∧ V.cell? ⟨K6, 2, none⟩ = some (.int .i64 f.c) ∧ V.cell? ⟨K6, 3, none⟩ = some (.int .i64 f.d) ∧ V.cell? ⟨K6 + 1, 0, none⟩ = some (.int .i64 g.1) ∧ V.cell? ⟨K6 + 1, 1, none⟩ = some (.int .i64 g.2) ∧ V.cell? ⟨K6 + 1 + 1, 0, none⟩ = some (.int .i64 cc) ∧ V.cell? ⟨K6 + 1 + 1 + 1, 0, none⟩ = some (.int .i64 rr)) := Lib.hid fun V hV => by
  obtain ⟨⟨a0, a1, a2, a3⟩, _⟩ := cells4 (rowX hV HRF.out)
  obtain ⟨b0, b1, _, _⟩ := cells2 (rowX hV HRG.out)
  exact ⟨a0, a1, a2, a3, b0, b1, (one_row (rowX hV HRC.out)).1, (one_row (rowX hV HRR.out)).1⟩
 go_cut [10] from 53 to 59 (fun s10 wr => ∃ k, s10 = .pointer (some ⟨k, 0, none⟩) ∧ K6 + 1 + 1 + 1 < k ∧ Hid (Xt w6 wr) ∧ Hid (wr.heap[k]? = some (.cells #[.int .i64 g.1, .int .i64 g.2, .int .i64 gl.c, .int .i64 gl.d] 26 (0, 0))))
 case first =>
  have HXC := Lib.hid ((Xt.refl w6).drew)
  have HSB := Lib.hid hs6
  refine wp_region_held_drew (S := fun V => Xt w6 V) (by kernel_rfl) HXC.out (fun hHeld => ?_)
  refine tkH 0 ?_ ?_ ?_
  rotate_left
  · intro V hSw; obtain ⟨u0, u1, u2, u3, u4, u5, u6, u7⟩ := HFA.out V hSw; go_simp; first | done | with_reducible rfl
  try simp only [Act.put, nm]
  refine tkH 1 ?_ ?_ ?_
  rotate_left
  · intro V hSw; obtain ⟨u0, u1, u2, u3, u4, u5, u6, u7⟩ := HFA.out V hSw; go_simp; first | done | with_reducible rfl
  try simp only [Act.put, nm]
  refine tkH 2 ?_ ?_ ?_
  rotate_left
  · intro V hSw; obtain ⟨u0, u1, u2, u3, u4, u5, u6, u7⟩ := HFA.out V hSw; go_simp; first | done | with_reducible rfl
  try simp only [Act.put, nm]
  refine tkH 3 ?_ ?_ ?_
  rotate_left
  · intro V hSw; obtain ⟨u0, u1, u2, u3, u4, u5, u6, u7⟩ := HFA.out V hSw; go_simp; first | done | with_reducible rfl
  try simp only [Act.put, nm]
  refine tkH 4 ?_ ?_ ?_
  rotate_left
  · intro V hSw; obtain ⟨u0, u1, u2, u3, u4, u5, u6, u7⟩ := HFA.out V hSw; go_simp; first | done | with_reducible rfl
  try simp only [Act.put, nm]
  refine wpAnyH_ready (rs := [5, 7]) (by kernel_rfl) (by simp) ?_
  refine AllReadyH.cons (o := _) rfl (fun K hK => ?_) (AllReadyH.cons (o := _) rfl (fun K hK => ?_) AllReadyH.nil)
  · go_simp
    refine (HSH.out _).mono ?_
    rintro e wn ⟨rfl, hgn⟩
    replace HXC := Lib.hid (HXC.out.trans hgn)
    refine hK.out _ _ (HXC.out) (fun hHe => ?_)
    clear hK K hgn
    try simp only [Act.put, nm]
    refine tkH 6 ?_ ?_ ?_
    rotate_left
    · intro V hSw; obtain ⟨u0, u1, u2, u3, u4, u5, u6, u7⟩ := HFA.out V hSw; go_simp; first | done | with_reducible rfl
    try simp only [Act.put, nm]
    refine rdH 7 (fun K hK => ?_)
    go_simp
    have HXG := HXC
    replace HXC := Lib.hid (HXC.out.alloc (.cells #[.int .i64 0, .int .i64 0, .int .i64 0, .int .i64 0] 26))
    refine hK.out _ _ (HXC.out) (fun hHe => ?_)
    clear hK K
    try simp only [Act.put, nm]
    refine rdH 8 (fun K hK => ?_)
    go_simp
    have HXE : Hid (Xt w6 (wn.alloc (.cells #[.int .i64 g.1, .int .i64 g.2, .int .i64 gl.c, .int .i64 gl.d] 26))) := Lib.hid (HXG.out.alloc _)
    have HRE : Hid ((wn.alloc (.cells #[.int .i64 g.1, .int .i64 g.2, .int .i64 gl.c, .int .i64 gl.d] 26)).heap[wn.heap.size]? = some (.cells #[.int .i64 g.1, .int .i64 g.2, .int .i64 gl.c, .int .i64 gl.d] 26 (0, 0))) := Lib.hid (MapKept.heap_alloc wn _).1
    refine hK.out _ _ (HXE.out) (fun hHe => ?_)
    clear hK K
    have hsz := HXG.out.size
    refine wpAnyH_done (by kernel_rfl) ?_ _
    go_wp2_with fail
    go_meet
    case rel => exact ⟨wn.heap.size, rfl, (by have := HSB.out; omega), HXE, HRE⟩
  · go_simp
    have HAR : Hid ((World.alloc w6.drew (.cells #[.int .i64 0, .int .i64 0, .int .i64 0, .int .i64 0] 26)).heap[K6 + 1 + 1 + 1 + 1]? = some (.cells #[.int .i64 0, .int .i64 0, .int .i64 0, .int .i64 0] 26 (0, 0))) := (by unfold Hid; have := (MapKept.heap_alloc w6.drew (.cells #[.int .i64 0, .int .i64 0, .int .i64 0, .int .i64 0] 26)).1; rw [show w6.drew.heap.size = K6 + 1 + 1 + 1 + 1 from HSB.out] at this; exact this)
    replace HXC := Lib.hid (HXC.out.alloc (.cells #[.int .i64 0, .int .i64 0, .int .i64 0, .int .i64 0] 26))
    refine hK.out _ _ (HXC.out) (fun hHe => ?_)
    clear hK K
    try simp only [Act.put, nm]
    refine rdH 5 (fun K hK => ?_)
    go_simp
    refine (HSH.out _).mono ?_
    rintro e wn ⟨rfl, hgn⟩
    replace HXC := Lib.hid (HXC.out.trans hgn)
    replace HAR := Lib.hid (rowX hgn HAR.out)
    refine hK.out _ _ (HXC.out) (fun hHe => ?_)
    clear hK K hgn
    try simp only [Act.put, nm]
    refine tkH 6 ?_ ?_ ?_
    rotate_left
    · intro V hSw; obtain ⟨u0, u1, u2, u3, u4, u5, u6, u7⟩ := HFA.out V hSw; go_simp; first | done | with_reducible rfl
    try simp only [Act.put, nm]
    obtain ⟨⟨z0, z1, z2, z3⟩, ⟨y0, y1, y2, y3⟩⟩ := cells4 HAR.out
    refine rdH 8 (fun K hK => ?_)
    go_simp
    have hone : ∀ (A : World) (o : Nat) (u : Value), Xt w6 A → Xt w6 (A.setCell ⟨K6 + 1 + 1 + 1 + 1, o, none⟩ u) := fun A o u h => h.grownB (setCell_grown _ _ _ _) (fun q hq => by cases hq; have := HSB.out; omega)
    have HXE : Hid (Xt w6 ((((wn.setCell ⟨K6 + 1 + 1 + 1 + 1, 0, none⟩ (.int .i64 g.1)).setCell ⟨K6 + 1 + 1 + 1 + 1, 1, none⟩ (.int .i64 g.2)).setCell ⟨K6 + 1 + 1 + 1 + 1, 2, none⟩ (.int .i64 gl.c)).setCell ⟨K6 + 1 + 1 + 1 + 1, 3, none⟩ (.int .i64 gl.d))) := Lib.hid (hone _ _ _ (hone _ _ _ (hone _ _ _ (hone _ _ _ HXC.out))))
    have HRE : Hid (((((wn.setCell ⟨K6 + 1 + 1 + 1 + 1, 0, none⟩ (.int .i64 g.1)).setCell ⟨K6 + 1 + 1 + 1 + 1, 1, none⟩ (.int .i64 g.2)).setCell ⟨K6 + 1 + 1 + 1 + 1, 2, none⟩ (.int .i64 gl.c)).setCell ⟨K6 + 1 + 1 + 1 + 1, 3, none⟩ (.int .i64 gl.d)).heap[K6 + 1 + 1 + 1 + 1]? = some (.cells #[.int .i64 g.1, .int .i64 g.2, .int .i64 gl.c, .int .i64 gl.d] 26 (0, 0))) := Lib.hid (setCell_row (setCell_row (setCell_row (setCell_row HAR.out 0 _) 1 _) 2 _) 3 _)
    refine hK.out _ _ (HXE.out) (fun hHe => ?_)
    clear hK K
    refine wpAnyH_done (by kernel_rfl) ?_ _
    go_wp2_with fail
    go_meet
    case rel => exact ⟨K6 + 1 + 1 + 1 + 1, rfl, (by omega), HXE, HRE⟩
 case rest =>
  obtain ⟨K10, rfl, hK10, HX6a, HRL⟩ := hcut
  replace HRL : Hid (wc.heap[K10]? = some (.cells #[.int .i64 gl.a, .int .i64 gl.b, .int .i64 gl.c, .int .i64 gl.d] 26 (0, 0))) := by unfold Hid; rw [HB.out.2.2.2.2.2.2.2.2.1, HB.out.2.2.2.2.2.2.2.2.2.1]; exact HRL.out
  obtain ⟨w7, hw7⟩ : ∃ w7, w7 = wc := ⟨_, rfl⟩
  subst hw7
  obtain ⟨e5, _⟩ := one_row (rowX (HX36.out.trans HX6a.out) HR5.out)
  obtain ⟨a0, a1, a2, a3, b0, b1, c0, d0⟩ := HFA.out _ HX6a.out
  have hat1 := Lib.hid (fun V => at_any (1, 1) V)
  have hat2 := Lib.hid (fun V => at_any (12, 12) V)
  have HCE := Lib.hid (fun V => cells22_any ⟨1, 1, 12, 12⟩ V)
  have hm1 : True := trivial
  have HX17 : Hid (Xt w1 w7) := (HX3.out.trans HX36.out).trans HX6a.out
  have HXw7 : Hid (Xt w w7) := HX1.out.trans HX17.out
  have HG7 : Hid (GridIs w7 gb mb M) := HG3.out.xt (HX36.out.trans HX6a.out)
  have HOG := Lib.hid (HOK0.out M HE.out)
  obtain ⟨o1, ho1⟩ : ∃ o, cpAll (movG cc rr) cc rr (clearP gl (er M)) (inP f (er M)) = o := ⟨_, rfl⟩
  cases o1 with
  | none =>
   have hcp := ho1
   have HCN := Lib.hid (fun V (hV : Xt w7 V) => (HCP.out gb mb M V (HG7.out.xt hV) (HT.out.xt (HXw7.out.trans hV)) HOG.out).mono fun e w' h => by rw [hcp] at h; exact h.no)
   clear hcp ho1
   go_wp2_with (first
    | (go_at_call 27; refine (HCN.out w7 (Xt.refl _)).mono ?_; rintro e w8 ⟨hx8, rfl⟩; obtain ⟨w9, hw9⟩ : ∃ w9, w8.alloc (.cells #[.pointer none] 29) = w9 := ⟨_, rfl⟩; have HX79 : Hid (Xt w7 w9) := (by unfold Hid; rw [← hw9]; exact hx8.alloc _); obtain ⟨e11, _⟩ := one_row (show w9.heap[w8.heap.size]? = some (.cells #[.pointer none] 29 (0, 0)) by rw [← hw9]; exact (MapKept.heap_alloc w8 _).1); obtain ⟨k8, f8⟩ := one_row (rowX (HX17.out.trans HX79.out) HR1.out); have hs8 : B + 1 < w8.heap.size := (by have h1 := HX17.out.size; have h2 := hx8.size; omega); clear hx8))
   have hc : ((w9.setCell ⟨w8.heap.size, 0, none⟩ (.pointer none)).setCell ⟨B + 1, 0, none⟩ (.bool true)).cell? ⟨B + 1, 0, none⟩ = some (.bool true) := World.cell?_setCell_same _ _ _ ((World.cell?_setCell_other _ _ _ _ (by simp <;> omega)).trans k8)
   exact ⟨_, results_one6 rfl _ _ (B + 1) (.bool true) rfl (load_bool6 _ _ _ hc), rfl, ((HXw7.out.trans HX79.out).grownB (setCell_grown _ _ _ _) (fun q hq => by cases hq; omega)).grownB (setCell_grown _ _ _ _) (fun q hq => by cases hq; omega)⟩
  | some A1 =>
   have hcp := ho1
   have HO1 := Lib.hid ho1
   clear ho1
   go_wp2_with (first
    | (go_at_call 27; refine ((HCP.out gb mb M w7 HG7.out (HT.out.xt HXw7.out) HOG.out).mono fun e w' h => by rw [hcp] at h; exact h.yes).mono ?_; rintro e w8 ⟨hx8, ga, ma, Ma, rfl, hGa, hEa⟩; obtain ⟨K11, hK11⟩ : ∃ K, w8.heap.size = K := ⟨_, rfl⟩; obtain ⟨w9, hw9⟩ : ∃ w9, w8.alloc (.cells #[.pointer (some ⟨ga, 0, none⟩)] 29) = w9 := ⟨_, rfl⟩; have HX79 : Hid (Xt w7 w9) := (by unfold Hid; rw [← hw9]; exact hx8.alloc _); have HR11 : Hid (w9.heap[K11]? = some (.cells #[.pointer (some ⟨ga, 0, none⟩)] 29 (0, 0))) := (by unfold Hid; rw [← hw9, ← hK11]; exact (MapKept.heap_alloc w8 _).1); have HGa9 : Hid (GridIs w9 ga ma Ma) := (by unfold Hid; rw [← hw9]; exact hGa.xt ((Xt.refl _).alloc _)); have HEa := Lib.hid hEa; obtain ⟨e11, _⟩ := one_row HR11.out; have hK1011 : K10 < K11 := (by have h1 := hx8.size; have h2 := (Array.getElem?_eq_some_iff.1 HRL.out).1; omega); clear hGa hEa hx8)
    | (go_at_call 14; have hm0 := hm1; clear hm1 hm0; refine (hat1.out _).mono ?_; rintro e v1 ⟨rfl, hv1⟩; have HV1 : Hid (Xt w9 v1) := hv1.xt; clear hv1)
    | (go_at_call 14; refine (hat2.out _).mono ?_; rintro e v2 ⟨rfl, hv2⟩; have HV2 : Hid (Xt w9 v2) := HV1.out.trans hv2.xt; clear hv2)
    | (go_at_call 13; refine (HCE.out _).mono ?_; rintro e W0 ⟨b12, rfl, hb12, hv3⟩; have HX9W : Hid (Xt w9 W0) := HV2.out.trans hv3; have HB12 := Lib.hid hb12; clear hv3 hb12))
   clear hcp
   have HX7W : Hid (Xt w7 W0) := HX79.out.trans HX9W.out
   have HX1W : Hid (Xt w1 W0) := HX17.out.trans HX7W.out
   have HXwW : Hid (Xt w W0) := HX1.out.trans HX1W.out
   have HGW : Hid (GridIs W0 gb mb M) := HG7.out.xt HX7W.out
   have HGaW : Hid (GridIs W0 ga ma Ma) := HGa9.out.xt HX9W.out
   have HF0 : Hid (∀ V, Xt W0 V → V.cell? ⟨K5, 0, none⟩ = some (.pointer (some ⟨gb, 0, none⟩)) ∧ V.cell? ⟨K11, 0, none⟩ = some (.pointer (some ⟨ga, 0, none⟩)) ∧ V.cell? ⟨K6, 0, none⟩ = some (.int .i64 f.a) ∧ V.cell? ⟨K6, 1, none⟩ = some (.int .i64 f.b) ∧ V.cell? ⟨K6, 2, none⟩ = some (.int .i64 f.c) ∧ V.cell? ⟨K6, 3, none⟩ = some (.int .i64 f.d) ∧ V.cell? ⟨K6 + 1 + 1, 0, none⟩ = some (.int .i64 cc) ∧ V.cell? ⟨K6 + 1 + 1 + 1, 0, none⟩ = some (.int .i64 rr) ∧ V.cell? ⟨K10, 0, none⟩ = some (.int .i64 gl.a) ∧ V.cell? ⟨K10, 1, none⟩ = some (.int .i64 gl.b) ∧ V.cell? ⟨K10, 2, none⟩ = some (.int .i64 gl.c) ∧ V.cell? ⟨K10, 3, none⟩ = some (.int .i64 gl.d) ∧ V.cell? ⟨K6 + 1, 0, none⟩ = some (.int .i64 g.1) ∧ V.cell? ⟨K6 + 1, 1, none⟩ = some (.int .i64 g.2)) := Lib.hid fun V hV => by
    obtain ⟨q5, _⟩ := one_row (rowX (((HX36.out.trans HX6a.out).trans HX7W.out).trans hV) HR5.out)
    obtain ⟨q11, _⟩ := one_row (rowX (HX9W.out.trans hV) HR11.out)
    obtain ⟨a0, a1, a2, a3, m0, m1, c0, d0⟩ := HFA.out _ ((HX6a.out.trans HX7W.out).trans hV)
    obtain ⟨⟨b0, b1, b2, b3⟩, _⟩ := cells4 (rowX (HX7W.out.trans hV) HRL.out)
    exact ⟨q5, q11, a0, a1, a2, a3, c0, d0, b0, b1, b2, b3, m0, m1⟩
   have HR1W : Hid (W0.heap[B + 1]? = some (.cells #[.bool false] 4 (0, 0))) := rowX HX1W.out HR1.out
   have hBK : B + 1 < W0.heap.size := (Array.getElem?_eq_some_iff.1 HR1W.out).1
   obtain ⟨Q0, hQ0⟩ : ∃ Q, W0.heap.size = Q := ⟨_, rfl⟩
   clear e5 e11 a0 a1 a2 a3 b0 b1 c0 d0 hat1 hat2 HCE
   generalize hA0 : Act.mk _ _ = a0
   refine (wpIn_wide (n := 25)).1 ?_
   refine rangeFunc_far (n := 25) (by omega) (gf := 79) (lb := #[.pointer (some ⟨b12, 0, none⟩)]) (by subst hA0; rfl) (enters_of Tryz.func79 (by kernel_rfl) rfl)
    (cells1_told (25 - 1) b12 ⟨1, 1, 12, 12⟩ W0 HB12.out (by decide)) (fun h k => h.trans k) (fun W l o o' hl ho hc hw => KC.putObj o' ho hc) (Below.refl _ _) (fun _ => rfl)
    (fun pre W => Xt W0 W) (fun c pre W => False) (fun s A B h hb => Below.trans h hb) (fun c s A B h hb => h) (Xt.refl _)
    (fun x a' W => ∃ Bx, W.heap[Bx]? = some (.cells #[.int .i64 x.1, .int .i64 x.2] 24 (0, 0)) ∧ inA ⟨1, 1, 12, 12⟩ x = true ∧ a' = { tmps := (a0.tmps.setIfInBounds 81 (adW x)).setIfInBounds 13 (.pointer (some ⟨Bx, 0, none⟩)), defers := [] })
    (fun x a' _ X Y row hs hg hr => by
     obtain ⟨Bx, h1, h2, h3⟩ := hs
     exact ⟨Bx, rowCells_own h1 hg (fun r e => (hr r e).2), h2, h3⟩)
    ?assign ?body ?done ?stop
   case stop =>
    rintro D c pre W hD hS hF hK
    exact hF.elim
   case assign =>
    rintro l0 pre x W K hI ⟨V, hIV, ht⟩ hK
    subst hA0
    obtain ⟨c, d⟩ := x
    have HI := Lib.hid hI
    have HTT := Lib.hid ht
    obtain ⟨wA, hwA, hbA, hsA, kA0, kA1⟩ := box1 W c d 24
    have hrA : wA.heap[W.heap.size]? = some (.cells #[.int .i64 c, .int .i64 d] 24 (0, 0)) := by rw [← hwA]; exact World.alloc_heap_new W _
    have HXA : Hid (Xt W wA) := hbA
    have HRA := Lib.hid hrA
    clear hrA hbA kA0 kA1 hI ht hIV
    gi_wp2_with fail
    refine hK _ _ (keepsFrom_xt HXA.out _) (KC.of_xt HXA.out) (HI.out.trans HXA.out) ⟨W.heap.size, HRA.out, HTT.out, ?_⟩
    simp only [List.setIfInBounds_toArray, List.set_cons_zero, List.set_cons_succ]
   case done =>
       rintro D xs W hD hS hI hK
       subst hA0
       have HI := Lib.hid hI
       have HXZ : Hid (Xt w W) := HXwW.out.trans hI
       have HKD := Lib.hid hK
       have hDB : B + 1 < D := by omega
       have hBw : w.heap.size ≤ B + 1 := by omega
       have hDW : D < W.heap.size := (Array.getElem?_eq_some_iff.1 hK).1
       have HF1 : Hid (∀ V, Xt W V → V.cell? ⟨K5, 0, none⟩ = some (.pointer (some ⟨gb, 0, none⟩)) ∧ V.cell? ⟨K11, 0, none⟩ = some (.pointer (some ⟨ga, 0, none⟩)) ∧ V.cell? ⟨K6, 0, none⟩ = some (.int .i64 f.a) ∧ V.cell? ⟨K6, 1, none⟩ = some (.int .i64 f.b) ∧ V.cell? ⟨K6, 2, none⟩ = some (.int .i64 f.c) ∧ V.cell? ⟨K6, 3, none⟩ = some (.int .i64 f.d) ∧ V.cell? ⟨K6 + 1 + 1, 0, none⟩ = some (.int .i64 cc) ∧ V.cell? ⟨K6 + 1 + 1 + 1, 0, none⟩ = some (.int .i64 rr) ∧ V.cell? ⟨K10, 0, none⟩ = some (.int .i64 gl.a) ∧ V.cell? ⟨K10, 1, none⟩ = some (.int .i64 gl.b) ∧ V.cell? ⟨K10, 2, none⟩ = some (.int .i64 gl.c) ∧ V.cell? ⟨K10, 3, none⟩ = some (.int .i64 gl.d) ∧ V.cell? ⟨K6 + 1, 0, none⟩ = some (.int .i64 g.1) ∧ V.cell? ⟨K6 + 1, 1, none⟩ = some (.int .i64 g.2)) := Lib.hid fun V hV => HF0.out V (HI.out.trans hV)
       have hm1 : True := trivial
       have hm2 : True := trivial
       clear hI hS hK
       obtain ⟨q5, q11, a0, a1, a2, a3, c0, d0, b0, b1, b2, b3, m0, m1⟩ := HF1.out W (Xt.refl _)
       go_upto_region 27 with (first
        | (go_at_call 27; have hm0 := hm1; clear hm1 hm0; refine ((HSELF.out gb mb M W (HGW.out.xt HI.out) (HT.out.xt HXZ.out) HOG.out).mono fun e w' h => h.yes).mono ?_; rintro e v1 ⟨hx1, s1, sm, SM, rfl, hGs, hEs⟩; have HV1 : Hid (Xt W v1) := hx1; have HGs := Lib.hid hGs; have HEs := Lib.hid hEs; obtain ⟨K17, hK17⟩ : ∃ K, v1.heap.size = K := ⟨_, rfl⟩; obtain ⟨v2, hv2⟩ : ∃ v2, v1.alloc (.cells #[.int .i64 f.a, .int .i64 f.b, .int .i64 f.a, .int .i64 f.b] 26) = v2 := ⟨_, rfl⟩; have HV12 : Hid (Xt v1 v2) := (by unfold Hid; rw [← hv2]; exact (Xt.refl _).alloc _); have HV2 : Hid (Xt W v2) := HV1.out.trans HV12.out; have HR17 : Hid (v2.heap[K17]? = some (.cells #[.int .i64 f.a, .int .i64 f.b, .int .i64 f.a, .int .i64 f.b] 26 (0, 0))) := (by unfold Hid; rw [← hv2, ← hK17]; exact (MapKept.heap_alloc v1 _).1); obtain ⟨q5, q11, a0, a1, a2, a3, c0, d0, b0, b1, b2, b3, m0, m1⟩ := HF1.out v1 HV1.out; obtain ⟨q5', _, _, _, _, _, _, _, _, _, _, _, m0', m1'⟩ := HF1.out v2 HV2.out; obtain ⟨⟨o0, o1, o2, o3⟩, _⟩ := cells4 HR17.out; clear hx1 hGs hEs)
        | (go_at_call 27; refine ((HONE.out gb mb M v2 (HGW.out.xt (HI.out.trans HV2.out)) (HT.out.xt (HXZ.out.trans HV2.out)) HOG.out).mono fun e w' h => h.either).mono ?_; rintro e v3 ⟨hx3, pv, fv, rfl, hp⟩; have HV23 : Hid (Xt v2 v3) := hx3; have HV3 : Hid (Xt W v3) := HV2.out.trans hx3; have HP := Lib.hid hp; obtain ⟨q5, q11, a0, a1, a2, a3, c0, d0, b0, b1, b2, b3, m0, m1⟩ := HF1.out v3 HV3.out; clear hx3 hp o0 o1 o2 o3)
        | (go_at_call 28; refine ((HFILL.out gb mb M v3 (HGW.out.xt (HI.out.trans HV3.out)) (HT.out.xt (HXZ.out.trans HV3.out)) HOG.out).mono fun e w' h => h.either).mono ?_; rintro e v4 ⟨hx4, qv, hv, rfl, hq⟩; have HV34 : Hid (Xt v3 v4) := hx4; have HV4 : Hid (Xt W v4) := HV3.out.trans hx4; have HQ := Lib.hid hq; obtain ⟨q5, q11, a0, a1, a2, a3, c0, d0, b0, b1, b2, b3, m0, m1⟩ := HF1.out v4 HV4.out; clear hx4 hq)
        | (go_at_call 29; have hm0 := hm2; clear hm2 hm0; refine (mclear_any gl gb mb M v4 (HGW.out.xt (HI.out.trans HV4.out)) (HT.out.xt (HXZ.out.trans HV4.out)) HOG.out HMV.out.back.vf).mono ?_; rintro e v5 ⟨hx5, cu, mu, Mu, rfl, hGu, hEu, _⟩; obtain ⟨K22, hK22⟩ : ∃ K, v5.heap.size = K := ⟨_, rfl⟩; obtain ⟨v6, hv6⟩ : ∃ v6, v5.alloc (.cells #[.pointer (some ⟨cu, 0, none⟩)] 29) = v6 := ⟨_, rfl⟩; have HV46 : Hid (Xt v4 v6) := (by unfold Hid; rw [← hv6]; exact hx5.alloc _); have HV6 : Hid (Xt W v6) := HV4.out.trans HV46.out; have HR22 : Hid (v6.heap[K22]? = some (.cells #[.pointer (some ⟨cu, 0, none⟩)] 29 (0, 0))) := (by unfold Hid; rw [← hv6, ← hK22]; exact (MapKept.heap_alloc v5 _).1); have HGu : Hid (GridIs v6 cu mu Mu) := (by unfold Hid; rw [← hv6]; exact hGu.xt ((Xt.refl _).alloc _)); have HEu := Lib.hid hEu; have HOU : Hid (GOk (er Mu)) := (by unfold Hid; rw [hEu]; exact HOG.out.clear gl); obtain ⟨e22, _⟩ := one_row HR22.out; obtain ⟨q5, q11, a0, a1, a2, a3, c0, d0, b0, b1, b2, b3, m0, m1⟩ := HF1.out v6 HV6.out; clear hx5 hGu hEu)
        | (go_at_call 29; refine (mclear_any gl cu mu Mu v6 HGu.out (HT.out.xt (HXZ.out.trans HV6.out)) HOU.out HMV.out.back.vf).mono ?_; rintro e v7 ⟨hx7, cv, mv, MV, rfl, hGv, hEv, _⟩; have HV67 : Hid (Xt v6 v7) := hx7; have HV7 : Hid (Xt W v7) := HV6.out.trans hx7; have HGv := Lib.hid hGv; have HEv := Lib.hid hEv; obtain ⟨e22, _⟩ := one_row (rowX hx7 HR22.out); obtain ⟨q5, q11, a0, a1, a2, a3, c0, d0, b0, b1, b2, b3, m0, m1⟩ := HF1.out v7 HV7.out; clear hx7 hGv hEv))
       clear q5 q11 a0 a1 a2 a3 c0 d0 b0 b1 b2 b3 m0 m1
       go_cut [190] from 169 to 190 (fun s190 wr => s190 = .bool false ∧ Hid (Xt v7 wr))
       case first =>
        rcases HP.out with ⟨rfl, rfl, hp⟩ | ⟨p1, pm, PM, rfl, rfl, _, hp⟩
        · rcases HQ.out with ⟨rfl, rfl, _⟩ | ⟨q1, qm, QM, rfl, rfl, _, hq⟩
          · go_wp2_with fail
            go_meet
            case rel => exact ⟨rfl, Xt.refl _⟩
          · rw [hq] at hp; cases hp
        · rcases HQ.out with ⟨rfl, rfl, hq⟩ | ⟨q1, qm, QM, rfl, rfl, _, _⟩
          · rw [hq] at hp; cases hp
          · go_wp2_with fail
            go_meet
            case rel => exact ⟨rfl, Xt.refl _⟩
       case rest =>
        obtain ⟨rfl, HX8⟩ := hcut
        obtain ⟨v8, hv8⟩ : ∃ v8, v8 = wc := ⟨_, rfl⟩
        subst hv8
        go_upto_region 29 with fail
        have HV8 : Hid (Xt W v8) := HV7.out.trans HX8.out
        have HV4v8 : Hid (Xt v4 v8) := (HV46.out.trans HV67.out).trans HX8.out
        have HV3v8 : Hid (Xt v3 v8) := HV34.out.trans HV4v8.out
        have HV1v8 : Hid (Xt v1 v8) := (HV12.out.trans HV23.out).trans HV3v8.out
        have hn1 : True := trivial
        have hn2 : True := trivial
        have HY : Hid (Xt v8 v8) := Xt.refl _
        obtain ⟨q5, _⟩ := HF1.out _ HV8.out
        obtain ⟨e22, _⟩ := one_row (rowX (HV67.out.trans HX8.out) HR22.out)
        go_cut [227] from 191 to 227 (fun s227 wr => s227 = .bool false ∧ Hid (Xt v8 wr))
        case first =>
         rcases HP.out with ⟨rfl, rfl, hp⟩ | ⟨p1, pm, PM, rfl, rfl, hp1, hp2⟩
         · rcases HQ.out with ⟨rfl, rfl, _⟩ | ⟨q1, qm, QM, rfl, rfl, _, hq⟩
           · go_wp2_with (first
              | (go_at_call 21; have hm0 := hn1; clear hn1 hm0; refine (equal_er s1 gb sm mb SM M _ (HGs.out.xt ((HV1v8.out).trans HY.out)) (HGW.out.xt ((HI.out.trans HV8.out).trans HY.out)) HEs.out).mono ?_; rintro e y1 ⟨rfl, hy1⟩; replace HY := Lib.hid (HY.out.trans hy1); obtain ⟨q5, _⟩ := HF1.out _ (HV8.out.trans HY.out); obtain ⟨e22, _⟩ := one_row (rowX ((HV67.out.trans HX8.out).trans HY.out) HR22.out); clear hy1)
              | (go_at_call 21; refine (equal_er cu cv mu mv Mu MV _ (HGu.out.xt ((HV67.out.trans HX8.out).trans HY.out)) (HGv.out.xt (HX8.out.trans HY.out)) (HEu.out.trans (by rw [HEv.out, HEu.out, clear_idem]))).mono ?_; rintro e y3 ⟨rfl, hy3⟩; replace HY := Lib.hid (HY.out.trans hy3); obtain ⟨q5, _⟩ := HF1.out _ (HV8.out.trans HY.out); obtain ⟨e22, _⟩ := one_row (rowX ((HV67.out.trans HX8.out).trans HY.out) HR22.out); clear hy3))
             go_meet
             case rel => exact ⟨rfl, HY⟩
           · rw [hq] at hp; cases hp
         · rcases HQ.out with ⟨rfl, rfl, hq⟩ | ⟨q1, qm, QM, rfl, rfl, hq1, hq2⟩
           · rw [hq] at hp2; cases hp2
           · have HGp := Lib.hid hp1
             have HEp := Lib.hid hp2
             have HGq := Lib.hid hq1
             have HEq := Lib.hid hq2
             clear hp1 hp2 hq1 hq2
             go_wp2_with (first
              | (go_at_call 21; have hm0 := hn1; clear hn1 hm0; refine (equal_er s1 gb sm mb SM M _ (HGs.out.xt ((HV1v8.out).trans HY.out)) (HGW.out.xt ((HI.out.trans HV8.out).trans HY.out)) HEs.out).mono ?_; rintro e y1 ⟨rfl, hy1⟩; replace HY := Lib.hid (HY.out.trans hy1); obtain ⟨q5, _⟩ := HF1.out _ (HV8.out.trans HY.out); obtain ⟨e22, _⟩ := one_row (rowX ((HV67.out.trans HX8.out).trans HY.out) HR22.out); clear hy1)
              | (go_at_call 21; have hm0 := hn2; clear hn2 hm0; refine (equal_er p1 q1 pm qm PM QM _ (HGp.out.xt (HV3v8.out.trans HY.out)) (HGq.out.xt (HV4v8.out.trans HY.out)) (Option.some.inj (HEp.out.symm.trans HEq.out))).mono ?_; rintro e y2 ⟨rfl, hy2⟩; replace HY := Lib.hid (HY.out.trans hy2); obtain ⟨q5, _⟩ := HF1.out _ (HV8.out.trans HY.out); obtain ⟨e22, _⟩ := one_row (rowX ((HV67.out.trans HX8.out).trans HY.out) HR22.out); clear hy2)
              | (go_at_call 21; refine (equal_er cu cv mu mv Mu MV _ (HGu.out.xt ((HV67.out.trans HX8.out).trans HY.out)) (HGv.out.xt (HX8.out.trans HY.out)) (HEu.out.trans (by rw [HEv.out, HEu.out, clear_idem]))).mono ?_; rintro e y3 ⟨rfl, hy3⟩; replace HY := Lib.hid (HY.out.trans hy3); obtain ⟨q5, _⟩ := HF1.out _ (HV8.out.trans HY.out); obtain ⟨e22, _⟩ := one_row (rowX ((HV67.out.trans HX8.out).trans HY.out) HR22.out); clear hy3))
             go_meet
             case rel => exact ⟨rfl, HY⟩
        case rest =>
         obtain ⟨rfl, HX9⟩ := hcut
         obtain ⟨v9, hv9⟩ : ∃ v9, v9 = wc := ⟨_, rfl⟩
         subst hv9
         have HV9 : Hid (Xt W v9) := HV8.out.trans HX9.out
         have HXw9 : Hid (Xt w v9) := HXZ.out.trans HV9.out
         have HGu9 : Hid (GridIs v9 cu mu Mu) := HGu.out.xt ((HV67.out.trans HX8.out).trans HX9.out)
         have HG9 : Hid (GridIs v9 gb mb M) := HGW.out.xt (HI.out.trans HV9.out)
         have HR229 : Hid (v9.heap[K22]? = some (.cells #[.pointer (some ⟨cu, 0, none⟩)] 29 (0, 0))) := rowX ((HV67.out.trans HX8.out).trans HX9.out) HR22.out
         have HR19 : Hid (v9.heap[B + 1]? = some (.cells #[.bool false] 4 (0, 0))) := rowX (HI.out.trans HV9.out) HR1W.out
         have HKD9 : Hid (v9.heap[D]? = some (.deferred (some []))) := (HV9.out.block D hDW).trans HKD.out
         have hD9 : D < v9.heap.size := by have := HV9.out.size; omega
         clear hn1 hn2 q5 e22 HY HX8 HX9 HV8 HV7 HV67 HV46 HV34 HV23 HV12 HV6 HV4 HV3 HV2 HV1 HV4v8 HV3v8 HV1v8 HP HQ HGs HEs HGv HEv HR17 HR22 HGu
         have HF9 : Hid (∀ V, Xt v9 V → V.cell? ⟨K5, 0, none⟩ = some (.pointer (some ⟨gb, 0, none⟩)) ∧ V.cell? ⟨K22, 0, none⟩ = some (.pointer (some ⟨cu, 0, none⟩)) ∧ V.cell? ⟨K10, 0, none⟩ = some (.int .i64 gl.a) ∧ V.cell? ⟨K10, 1, none⟩ = some (.int .i64 gl.b) ∧ V.cell? ⟨K10, 2, none⟩ = some (.int .i64 gl.c) ∧ V.cell? ⟨K10, 3, none⟩ = some (.int .i64 gl.d)) := Lib.hid fun V hV => by
          obtain ⟨q5, _, _, _, _, _, _, _, b0, b1, b2, b3, _, _⟩ := HF1.out V (HV9.out.trans hV)
          exact ⟨q5, (one_row (rowX hV HR229.out)).1, b0, b1, b2, b3⟩
         obtain ⟨R, hR⟩ : ∃ R, v9.heap.size = R := ⟨_, rfl⟩
         obtain ⟨v10, hv10⟩ : ∃ v10, v9.alloc (.cells #[.int .i64 0] 3) = v10 := ⟨_, rfl⟩
         have hs10 : v10.heap.size = R + 1 := by rw [← hv10, ← hR]; simp
         have HR10 : Hid (v10.heap[R]? = some (.cells #[.int .i64 0] 3 (0, 0))) := by unfold Hid; rw [← hv10, ← hR]; exact (MapKept.heap_alloc v9 _).1
         have HX10 : Hid (Xt v9 v10) := by unfold Hid; rw [← hv10]; exact (Xt.refl _).alloc _
         obtain ⟨e26, f26⟩ := one_row HR10.out
         obtain ⟨v11, hv11⟩ : ∃ v11, v10.setCell ⟨R, 0, none⟩ (.int .i64 0) = v11 := ⟨_, rfl⟩
         have HR11' : Hid (v11.heap[R]? = some (.cells #[.int .i64 0] 3 (0, 0))) := by unfold Hid; rw [← hv11]; exact setCell_row HR10.out 0 _
         have HX11 : Hid (Xt v9 v11) := by unfold Hid; rw [← hv11]; exact HX10.out.grownB (setCell_grown _ _ _ _) (fun q hq => by cases hq; omega)
         have hs11 : v11.heap.size = R + 1 := by rw [← hv11]; exact (World.size_setCell _ _ _).trans hs10
         obtain ⟨q5, _⟩ := HF9.out v11 HX11.out
         go_wp2_with (first | (go_at_call 30; refine (all22_any gb _).mono ?_; rintro e w' ⟨rfl, rfl⟩))
         obtain ⟨WW, hWW⟩ : ∃ WW, (v11.alloc (.cells #[.pointer (some ⟨gb, 0, none⟩)] 29)).alloc (.cells #[.func (.func 75) #[] #[]] 99) = WW := ⟨_, rfl⟩
         have hsW2 : WW.heap.size = R + 3 := by rw [← hWW]; simp [hs11]
         have HXWW : Hid (Xt v11 WW) := by unfold Hid; rw [← hWW]; exact ((Xt.refl _).alloc _).alloc _
         have HcgW : WW.cell? ⟨R + 1, 0, none⟩ = some (.pointer (some ⟨gb, 0, none⟩)) := by
          have := rowX (w := v11.alloc (.cells #[.pointer (some ⟨gb, 0, none⟩)] 29)) (w' := WW) (by rw [← hWW]; exact (Xt.refl _).alloc _) (MapKept.heap_alloc v11 _).1
          rw [hs11] at this
          exact (one_row this).1
         have rBw : WW.heap[R + 2]? = some (.cells #[.func (.func 75) #[] #[]] 99 (0, 0)) := by
          rw [← hWW]
          have := (MapKept.heap_alloc (v11.alloc (.cells #[.pointer (some ⟨gb, 0, none⟩)] 29)) (.cells #[.func (.func 75) #[] #[]] 99)).1
          simpa [hs11] using this
         have HX9W2 : Hid (Xt v9 WW) := HX11.out.trans HXWW.out
         have HRW2 := Lib.hid (rowX HXWW.out HR11'.out)
         try simp only [hs11, hs10, hR]
         try simp only [hWW]
         clear hWW hv11 hv10 e26 f26 q5
         generalize hA0 : Act.mk _ _ = a0
         refine (wpIn_wide (n := 25)).1 ?_
         refine rangeFunc_told (n := 25) (by omega) (gf := 116) (lb := #[.pointer (some ⟨R + 1, 0, none⟩), .pointer (some ⟨R + 2, 0, none⟩)]) (by subst hA0; rfl) (enters_of Tryz.func116 (by kernel_rfl) rfl)
          (some1_told (fun _ => false) 75 #[] (enters_of Tryz.func75 (by kernel_rfl) rfl) (fun _ => true) R v9 hR.symm (fun _ => True) (fun _ _ _ _ _ => trivial) (fun a W _ => all1_any a W) (25 - 1) (by omega) (R + 1) (R + 2) gb mb M HG9.out WW (HX9W2.out.mono (by omega)) trivial (by omega) HcgW rBw)
          (fun h k => ⟨h.1.trans k.1, h.2.trans k.2⟩) (fun W l o o' hl ho hc hw => ⟨belowK_b (w := WW) (by omega) W l o o' hl ho hc hw, KeepsT.of_grown (grownBy_putObj' W l o') (fun j o2 e h2 => by cases e; rw [ho] at h2; cases h2; cases o <;> simp_all [keptO, Obj.isCells, Obj.isWalk])⟩) (Below.refl _ _) (fun _ => rfl)
          (fun pre W => LJ WW R (fun pre => ((clearP gl (pre.map tpT)).length : Int)) pre W ∧ pre.length ≤ M.length)
          (fun c pre W => False) (fun s X Y row hs hg hr => ⟨LJ.own s X Y row hs.1 hg hr, hs.2⟩) (fun c s X Y row hs hg hr => hs.elim)
          ⟨⟨⟨rfl, rfl, rfl, Nat.le_refl _, fun _ _ _ => rfl⟩, HRW2.out⟩, by simp⟩
          (fun x a' W => ∃ (z : CE) (By : Nat), R < By ∧ W.heap[By]? = some (.cells #[.int .i64 x.1.1, .int .i64 x.1.2] 24 (0, 0)) ∧
           a' = { tmps := ((a0.tmps.setIfInBounds 230 (adW x.1)).setIfInBounds 231 (ceV z)).setIfInBounds 27 (.pointer (some ⟨By, 0, none⟩)), defers := [] })
          (fun x a' _ X Y row hs hg hr => by
           obtain ⟨z, By, n2, h2, h5⟩ := hs
           exact ⟨z, By, n2, rowCells_own h2 hg (fun r e => (hr r e).2), h5⟩)
          ?assign2 ?body2 ?done2 ?stop2
         case stop2 =>
          rintro D c pre W hD hS hF hK
          exact hF.elim
         case assign2 =>
          rintro l0 pre x W K hI ⟨V, hIV, ⟨hxV, hsm, nT, hA⟩, hmem⟩ hK
          subst hA0
          obtain ⟨⟨c, d⟩, tc, tp⟩ := x
          obtain ⟨z, hz1, hz2⟩ : ∃ z : CE, z.1 = copyC tc ∧ z.2 = tp := ⟨(copyC tc, tp), rfl, rfl⟩
          have hzv : copyCV tc tp = ceV z := by rw [← ceV_copy]; obtain ⟨z1, z2⟩ := z; simp only at hz1 hz2; rw [hz1, hz2]
          simp only [teV, hzv]
          clear hz1 hz2 hzv hA hsm hIV hxV
          have hWs : R + 3 ≤ W.heap.size := by have := hI.1.grown.size; omega
          obtain ⟨wA, hwA, hbA, hsA, kA0, kA1⟩ := box1 W c d 24
          have hrA : wA.heap[W.heap.size]? = some (.cells #[.int .i64 c, .int .i64 d] 24 (0, 0)) := by rw [← hwA]; exact World.alloc_heap_new W _
          have HXA : Hid (Xt W wA) := hbA
          have HRA := Lib.hid hrA
          have HWs := Lib.hid hWs
          have HI2 := Lib.hid hI
          clear hrA hbA kA0 kA1 hI hWs
          gi_wp2_with fail
          have hx := HXA.out
          have hWs := HWs.out
          have hI := HI2.out
          refine hK _ _ (keepsFrom_xt hx _) ⟨hx.mono (by omega), KeepsT.of_xt hx⟩ ⟨⟨grownBy_far hI.1.grown hx.grownN (fun r e => by cases e), rowX hx hI.1.cnt⟩, hI.2⟩ ?_
          refine ⟨z, W.heap.size, by omega, HRA.out, ?_⟩
          simp only [List.setIfInBounds_toArray, List.set_cons_zero, List.set_cons_succ]
         case body2 =>
          rintro l0 pre x a' W2 hl0 ⟨r, hr⟩ hI ⟨z, By, nBy, hBy, rfl⟩ hlt
          subst hA0
          obtain ⟨⟨c, d⟩, tc, tp⟩ := x
          try simp only at hBy
          obtain ⟨⟨hgr, hcn⟩, hI2⟩ := hI
          have hXB : Xt v9 W2 := HX9W2.out.grownB hgr (fun q hq => by cases hq; omega)
          have HXB := Lib.hid hXB
          obtain ⟨cnt, hcnt⟩ : ∃ cnt : Int, (((clearP gl (pre.map tpT)).length : Nat) : Int) = cnt := ⟨_, rfl⟩
          have hcb : 0 ≤ cnt ∧ cnt ≤ 4096 := by
           have h1 := clear_le gl (pre.map tpT)
           have h2 := HG9.out.many
           rw [List.length_map] at h1
           omega
          have hcn' := hcn
          try simp only at hcn'
          rw [hcnt] at hcn'
          have hcw : IntKind.i64.wrap (cnt + 1) = cnt + 1 := by rw [IntKind.wrap_i64]; omega
          have HCN := Lib.hid hcnt
          have HGR := Lib.hid hgr
          have HCR := Lib.hid hcn'
          have HBY := Lib.hid hBy
          have HL2 : Hid ((pre ++ [((c, d), tc, tp)]).length ≤ M.length) := by unfold Hid; simp; omega
          obtain ⟨vg, hvg⟩ : ∃ v, inA gl (c, d) = v := ⟨_, rfl⟩
          have HCG := Lib.hid (fun V => in_any gl.a gl.b gl.c gl.d c d V)
          rw [show inB gl.a gl.b gl.c gl.d c d = vg from hvg] at HCG
          have hsn : ((((clearP gl ((pre ++ [((c, d), tc, tp)]).map tpT)).length : Nat) : Int)) = cnt + (if vg = true then 0 else 1) := by
           rw [List.map_append, List.map_cons, List.map_nil, clear_snoc]
           show (((clearP gl (pre.map tpT)).length + (if inA gl (c, d) = true then 0 else 1) : Nat) : Int) = _
           rw [hvg, ← hcnt]
           cases vg <;> simp
          have HVG := Lib.hid hvg
          have HSN := Lib.hid hsn
          have hRW : R < W2.heap.size := by have := hgr.size; omega
          have hByW : By < W2.heap.size := (Array.getElem?_eq_some_iff.1 hBy).1
          have hfb : Fence.wide.fn 15 := trivial
          have hfd : Fence.wide.fn 17 := trivial
          have hfi : Fence.wide.fn 16 := trivial
          obtain ⟨q5, e22, b0, b1, b2, b3⟩ := HF9.out W2 hXB
          obtain ⟨x0, x1, _, _⟩ := cells2 hBy
          have HLT := Lib.hid hlt
          clear hr hgr hcn hcn' hBy hcnt hvg hsn hI2 hXB hlt
          simp only [List.setIfInBounds_toArray, List.set_cons_zero, List.set_cons_succ]
          cases vg
          · gi_wp2_with (first
             | (gi_at_call 16; refine (callsIn_round (HCG.out _)).mono ?_; rintro e w9' ⟨rfl, hg9⟩; have HX9' : Hid (Xt W2 w9') := hg9.xt; obtain ⟨c3, f3⟩ := one_row (rowX hg9.xt HCR.out); clear hg9))
            obtain ⟨wS, hwS⟩ : ∃ wS, w9'.setCell ⟨R, 0, none⟩ (.int .i64 (cnt + 1)) = wS := ⟨_, rfl⟩
            have HXS : Hid (Xt v9 wS) := by unfold Hid; rw [← hwS]; exact (HXB.out.trans HX9'.out).grownB (setCell_grown _ _ _ _) (fun q hq => by cases hq; omega)
            have HYS : Hid (wS.heap[By]? = some (.cells #[.int .i64 c, .int .i64 d] 24 (0, 0))) := by unfold Hid; rw [← hwS]; exact (Below.heap_setCell _ _ _ _ (fun e => by simp at e; omega)).trans (rowX HX9'.out HBY.out)
            have HFS : Hid (∀ V, Xt wS V → V.cell? ⟨K5, 0, none⟩ = some (.pointer (some ⟨gb, 0, none⟩)) ∧ V.cell? ⟨K22, 0, none⟩ = some (.pointer (some ⟨cu, 0, none⟩)) ∧ V.cell? ⟨By, 0, none⟩ = some (.int .i64 c) ∧ V.cell? ⟨By, 1, none⟩ = some (.int .i64 d)) := Lib.hid fun V hV => by
             obtain ⟨q5, e22, _⟩ := HF9.out V (HXS.out.trans hV)
             obtain ⟨x0, x1, _, _⟩ := cells2 (rowX hV HYS.out)
             exact ⟨q5, e22, x0, x1⟩
            obtain ⟨u, hu⟩ : ∃ u, ((lkM (c, d) M).getD (zeroC, none)).1 = u := ⟨_, rfl⟩
            have hu1 : ((lkM (c, d) Mu).getD (zeroC, none)).1 = u := (er_getD (c, d) Mu).trans (by rw [HEu.out, lk_clear, if_neg (by rw [HVG.out]; simp)]; exact (er_getD (c, d) M).symm.trans hu)
            have HU := Lib.hid hu
            have HU1 := Lib.hid hu1
            try simp only [hwS]
            have HWS := Lib.hid hwS
            clear hu hu1 hwS q5 e22 b0 b1 b2 b3 x0 x1 c3 f3
            have HXD : Hid (Xt wS wS.drew) := (Xt.refl wS).drew
            refine region_round (S := fun V => Xt wS V) (by kernel_rfl) (by kernel_rfl) (fun _ _ h => h) HXD.out (fun hHeld => ?_)
            refine tkH 0 ?_ ?_ ?_
            rotate_left
            · intro V hSw; obtain ⟨u0, u1, u2, u3⟩ := HFS.out V hSw; go_simp; first | done | with_reducible rfl
            try simp only [Act.put, nm]
            refine tkH 1 ?_ ?_ ?_
            rotate_left
            · intro V hSw; obtain ⟨u0, u1, u2, u3⟩ := HFS.out V hSw; go_simp; first | done | with_reducible rfl
            try simp only [Act.put, nm]
            refine tkH 3 ?_ ?_ ?_
            rotate_left
            · intro V hSw; obtain ⟨u0, u1, u2, u3⟩ := HFS.out V hSw; go_simp; first | done | with_reducible rfl
            try simp only [Act.put, nm]
            refine tkH 4 ?_ ?_ ?_
            rotate_left
            · intro V hSw; obtain ⟨u0, u1, u2, u3⟩ := HFS.out V hSw; go_simp; first | done | with_reducible rfl
            try simp only [Act.put, nm]
            refine rdH 2 (fun K hK => ?_)
            go_simp
            refine (gget_any cu mu Mu (c, d) _ (HGu9.out.xt (HXS.out.trans HXD.out))).mono ?_
            rintro e wu ⟨n1, p1, rfl, hA1, hx1⟩
            rw [HU1.out] at hA1
            rw [HU1.out]
            obtain ⟨zu, hz1, hz2⟩ : ∃ zu : CE, zu.1 = copyC u ∧ zu.2 = p1 := ⟨(copyC u, p1), rfl, rfl⟩
            have hzu : copyCV u p1 = ceV zu := (by rw [← ceV_copy]; obtain ⟨z1, z2⟩ := zu; simp only at hz1 hz2; rw [hz1, hz2])
            rw [hzu]
            have HZU : Hid (zu.1 = copyC u) := hz1
            have HAU : Hid (ArgsIn wu n1 (.slice zu.2 zu.1.t.args.length zu.1.t.args.length) zu.1.t.args) := argsIn_copy hz1 hz2 hA1
            replace HXD := Lib.hid (HXD.out.trans hx1)
            refine hK.out _ _ HXD.out (fun hHeA => ?_)
            have HX1 := Lib.hid hx1
            clear hK K hzu hz1 hz2 hA1 hx1
            try simp only [Act.put, nm]
            refine rdH 5 (fun K hK => ?_)
            go_simp
            refine (gget_any gb mb M (c, d) _ (HG9.out.xt (HXS.out.trans HXD.out))).mono ?_
            rintro e wv ⟨n2, p2, rfl, hA1, hx1⟩
            rw [HU.out] at hA1
            rw [HU.out]
            obtain ⟨zg, hz1, hz2⟩ : ∃ zg : CE, zg.1 = copyC u ∧ zg.2 = p2 := ⟨(copyC u, p2), rfl, rfl⟩
            have hzg : copyCV u p2 = ceV zg := (by rw [← ceV_copy]; obtain ⟨z1, z2⟩ := zg; simp only at hz1 hz2; rw [hz1, hz2])
            rw [hzg]
            have HZG : Hid (zg.1 = copyC u) := hz1
            have HAG : Hid (ArgsIn wv n2 (.slice zg.2 zg.1.t.args.length zg.1.t.args.length) zg.1.t.args) := argsIn_copy hz1 hz2 hA1
            replace HXD := Lib.hid (HXD.out.trans hx1)
            refine hK.out _ _ HXD.out (fun hHeB => ?_)
            have HX2 := Lib.hid hx1
            clear hK K hzg hz1 hz2 hA1 hx1
            try simp only [Act.put, nm]
            refine rdH 6 (fun K hK => ?_)
            go_simp
            refine (gsame_any (n1 + n2) zu.1 zg.1 zu.2 zg.2 zu.1.t.args.length zg.1.t.args.length _ (ArgsIn.upQ (by omega) (HAU.out.xt HX2.out)) (ArgsIn.upQ (by omega) (HAG.out))).mono ?_
            rintro e wE ⟨rfl, hgE⟩
            rw [show sameCB zu.1 zg.1 = true by rw [HZU.out, HZG.out]; exact sameCB_refl _]
            replace HXD := Lib.hid (HXD.out.trans hgE.xt)
            refine hK.out _ _ HXD.out (fun hHeC => ?_)
            clear hK K hgE
            try simp only [Act.put, nm]
            refine tkH 7 ?_ ?_ ?_
            rotate_left
            · intro V hSw; obtain ⟨u0, u1, u2, u3⟩ := HFS.out V hSw; go_simp; first | done | with_reducible rfl
            try simp only [Act.put, nm]
            refine wpAnyH_done (by kernel_rfl) ?_ _
            gi_wp2_with fail
            obtain ⟨re1, re2, re3⟩ := round_end2 (l0 := WW.heap.size) (n0 := R) (f := fun pre => ((clearP gl (List.map tpT pre)).length : Int)) (pre' := pre ++ [((c, d), tc, tp)]) HGR.out HCR.out HX9'.out (by show (((clearP gl ((pre ++ [((c, d), tc, tp)]).map tpT)).length : Nat) : Int) = cnt + 1; rw [HSN.out]; simp) (by rw [HWS.out]; exact HXD.out) (by omega) (by omega)
            exact ⟨re1, re2, re3, HL2.out⟩
          · gi_wp2_with (first
             | (gi_at_call 16; refine (callsIn_round (HCG.out _)).mono ?_; rintro e w9' ⟨rfl, hg9⟩; have HX9' : Hid (Xt W2 w9') := hg9.xt; clear hg9))
            have hx := HX9'.out
            refine ⟨keepsFrom_xt hx _, ⟨hx.mono (by omega), KeepsT.of_xt hx⟩, ⟨grownBy_far HGR.out hx.grownN (fun r e => by cases e), ?_⟩, HL2.out⟩
            rw [show (((clearP gl ((pre ++ [((c, d), tc, tp)]).map tpT)).length : Nat) : Int) = cnt by rw [HSN.out]; simp]
            exact rowX hx HCR.out
         case done2 =>
          rintro D2 xs W2 hD2 hS2 hI2 hK2
          subst hA0
          obtain ⟨⟨hgr, hcn⟩, _⟩ := hI2
          rw [told_all hS2] at hcn
          obtain ⟨nU, hnU⟩ : ∃ nU : Int, (Mu.length : Int) = nU := ⟨_, rfl⟩
          have hnc : (((clearP gl (er M)).length : Nat) : Int) = nU := by rw [← HEu.out, er_len]; exact hnU
          rw [hnc] at hcn
          have hXB : Xt v9 W2 := HX9W2.out.grownB hgr (fun q hq => by cases hq; omega)
          have HXB := Lib.hid hXB
          have HRC := Lib.hid hcn
          have HNU := Lib.hid hnU
          have HKD2 := Lib.hid hK2
          have hD21 : D < D2 := by omega
          have hB9 : B + 1 < v9.heap.size := (Array.getElem?_eq_some_iff.1 HR19.out).1
          have hKB : K22 ≠ B + 1 := fun e => by have h1 := HR229.out; rw [e, HR19.out] at h1; cases h1
          have hRB : R ≠ B + 1 := by omega
          have HFD : Hid (∀ V, W2.grownBy V (some (B + 1)) → V.cell? ⟨K22, 0, none⟩ = some (.pointer (some ⟨cu, 0, none⟩)) ∧ V.cell? ⟨R, 0, none⟩ = some (.int .i64 nU)) := Lib.hid fun V hV => by
           have k : ∀ b, b ≠ B + 1 → ∀ o u, W2.cell? ⟨b, o, none⟩ = some u → V.cell? ⟨b, o, none⟩ = some u := fun b hb o u hu => (World.cell?_of_block (w := W2) (a := ⟨b, o, none⟩) (hV.block b (World.block_lt_of_cell? W2 _ hu) (fun e => hb (by have := Option.some.inj e; omega)))).trans hu
           exact ⟨k _ hKB _ _ (HF9.out W2 HXB.out).2.1, k _ hRB _ _ (one_row HRC.out).1⟩
          have HFIN : Hid (∀ V, Xt W2 V → (V.cell? ⟨B + 1, 0, none⟩ = some (.bool false) ∧ V.frozen? ⟨B + 1, 0, none⟩ = false) ∧ ((V.setCell ⟨B + 1, 0, none⟩ (.bool true)).heap[D2]? = some (.deferred (some []))) ∧ (((V.setCell ⟨B + 1, 0, none⟩ (.bool true)).putObj D2 (.deferred none)).heap[D]? = some (.deferred (some []))) ∧ (((V.setCell ⟨B + 1, 0, none⟩ (.bool true)).putObj D2 (.deferred none)).putObj D (.deferred none)).cell? ⟨B + 1, 0, none⟩ = some (.bool true) ∧ Xt w (((V.setCell ⟨B + 1, 0, none⟩ (.bool true)).putObj D2 (.deferred none)).putObj D (.deferred none))) := Lib.hid fun V hV => by
           have h1 := (hV.block D2 (Array.getElem?_eq_some_iff.1 HKD2.out).1).trans HKD2.out
           have h9 := ((HXB.out.trans hV).block D hD9).trans HKD9.out
           obtain ⟨h2, h4⟩ := one_row (rowX (HXB.out.trans hV) HR19.out)
           have h3 : (V.setCell ⟨B + 1, 0, none⟩ (.bool true)).cell? ⟨B + 1, 0, none⟩ = some (.bool true) := World.cell?_setCell_same _ _ _ h2
           refine ⟨⟨h2, h4⟩, (Below.heap_setCell _ _ _ _ (fun e => by simp at e; omega)).trans h1, (World.putObj_heap_other (by omega)).trans ((Below.heap_setCell _ _ _ _ (fun e => by simp at e; omega)).trans h9), (World.cell?_of_block (w := (V.setCell ⟨B + 1, 0, none⟩ (.bool true)).putObj D2 (.deferred none)) (a := ⟨B + 1, 0, none⟩) (World.putObj_heap_other (by show B + 1 ≠ D; omega))).trans ((World.cell?_of_block (w := V.setCell ⟨B + 1, 0, none⟩ (.bool true)) (a := ⟨B + 1, 0, none⟩) (World.putObj_heap_other (by show B + 1 ≠ D2; omega))).trans h3), ?_⟩
           exact (((HXw9.out.trans (HXB.out.trans hV)).grownB (setCell_grown _ _ _ _) (fun q hq => by cases hq; omega)).grownB (grownBy_putObj' _ D2 _) (fun q hq => by cases hq; omega)).grownB (grownBy_putObj' _ D _) (fun q hq => by cases hq; omega)
          clear hgr hcn hnc hnU hXB hK2 hS2
          go_wp2_with fail
          have HXQ : Hid (W2.grownBy W2.drew (some (B + 1))) := (Xt.refl W2).drew.grown (some (B + 1))
          refine wp_region_held_drew (S := fun V => W2.grownBy V (some (B + 1))) (by kernel_rfl) HXQ.out (fun hHeld => ?_)
          refine tkH 0 ?_ ?_ ?_
          rotate_left
          · intro V hSw; obtain ⟨u0, u1⟩ := HFD.out V hSw; go_simp; first | done | with_reducible rfl
          try simp only [Act.put, nm]
          refine tkH 2 ?_ ?_ ?_
          rotate_left
          · intro V hSw; obtain ⟨u0, u1⟩ := HFD.out V hSw; go_simp; first | done | with_reducible rfl
          try simp only [Act.put, nm]
          refine rdH 1 (fun K hK => ?_)
          go_simp
          refine (len_n cu mu Mu nU _ (HGu9.out.xt (HXB.out.trans (Xt.refl W2).drew)) HNU.out).mono ?_
          rintro e wl ⟨rfl, rfl⟩
          refine hK.out _ _ HXQ.out (fun hHeL => ?_)
          clear hK K
          try simp only [Act.put, nm]
          refine tkH 3 ?_ ?_ ?_
          rotate_left
          · intro V hSw; obtain ⟨u0, u1⟩ := HFD.out V hSw; go_simp; first | done | with_reducible rfl
          try simp only [Act.put, nm]
          obtain ⟨⟨g0, g1⟩, _⟩ := HFIN.out _ ((Xt.refl W2).drew)
          refine rdH 4 (fun K hK => ?_)
          go_simp
          refine hK.out _ _ (grownBy_two HXQ.out (setCell_grown _ _ _ _)) (fun hHe8 => ?_)
          clear hK K
          refine wpAnyH_done (by kernel_rfl) ?_ _
          go_wp2_with fail
          obtain ⟨_, hKW2, hKW1, k8, hxE⟩ := HFIN.out _ ((Xt.refl W2).drew)
          obtain ⟨W', hW'⟩ : ∃ W', (W2.setCell ⟨B + 1, 0, none⟩ (.bool true)).drew = W' := ⟨_, rfl⟩
          have hW2' : W2.drew.setCell ⟨B + 1, 0, none⟩ (.bool true) = W' := hW'
          rw [hW2'] at hKW2 hKW1 k8 hxE
          rw [hW']
          refine ⟨by simp, .inl ⟨_, _, rfl, run_takeDeferred hKW2, by simp, .inl ⟨_, _, rfl, run_takeDeferred hKW1, ?_⟩⟩⟩
          exact ⟨_, results_one6 rfl _ _ (B + 1) (.bool true) rfl (load_bool6 _ _ _ k8), rfl, hxE⟩
   case body =>
    rintro l0 pre x a' W hl0 ⟨r, hr⟩ hI ⟨Bx, hBx, hin, rfl⟩ hlt
    subst hA0
    obtain ⟨c, d⟩ := x
    have HI := Lib.hid hI
    have HBX := Lib.hid hBx
    have HIN2 := Lib.hid (inA_le hin)
    obtain ⟨q5, _, a0, a1, a2, a3, c0, d0, b0, b1, b2, b3⟩ := HF0.out W hI
    obtain ⟨x0, x1, _, _⟩ := cells2 hBx
    have hfb : Fence.wide.fn 15 := trivial
    have hfd : Fence.wide.fn 17 := trivial
    have hfi : Fence.wide.fn 16 := trivial
    obtain ⟨vg, hvg⟩ : ∃ v, inA gl (c, d) = v := ⟨_, rfl⟩
    have HCG := Lib.hid (fun V => in_any gl.a gl.b gl.c gl.d c d V)
    rw [show inB gl.a gl.b gl.c gl.d c d = vg from hvg] at HCG
    have hm1 : True := trivial
    have hm2 : True := trivial
    have hm3 : True := trivial
    obtain ⟨u, hu⟩ : ∃ u, ((lkM (c, d) M).getD (zeroC, none)).1 = u := ⟨_, rfl⟩
    obtain ⟨v, hv⟩ : ∃ v, ((lkM (c, d) Ma).getD (zeroC, none)).1 = v := ⟨_, rfl⟩
    have hget := (HMV.out.copied HOG.out HO1.out).2 (c, d)
    rw [← HEa.out] at hget
    simp only [hvg] at hget
    have hu2 : (lkM (c, d) (er M)).getD zeroC = u := (er_getD (c, d) M).symm.trans hu
    have hv2 : (lkM (c, d) (er Ma)).getD zeroC = v := (er_getD (c, d) Ma).symm.trans hv
    have HU := Lib.hid hu
    have HV := Lib.hid hv
    have HGET := Lib.hid hget
    have HU2 := Lib.hid hu2
    have HV2 := Lib.hid hv2
    clear hr hI hBx hin hlt hvg hu hv hget hu2 hv2
    simp only [List.setIfInBounds_toArray, List.set_cons_zero, List.set_cons_succ]
    cases vg
    · have hgt := HGET.out
      simp only [Bool.false_eq_true, if_false] at hgt
      have hvu : v = u := by rw [← HV2.out, ← HU2.out, hgt]
      subst hvu
      clear hgt
      by_cases hk : v.kind = 1
      · have HK := Lib.hid hk
        clear hk
        gi_wp2_with (first
         | (gi_at_call 15; have hm0 := hm1; clear hm1 hm0; refine (callsIn_round (gget_any gb mb M (c, d) _ (HGW.out.xt HI.out))).mono ?_; rintro e w7 ⟨n7, a7, rfl, hA7, hx7⟩; rw [HU.out] at hA7; rw [HU.out]; obtain ⟨zw, hw1, hw2⟩ : ∃ zw : CE, zw.1 = copyC v ∧ zw.2 = a7 := ⟨(copyC v, a7), rfl, rfl⟩; have hzw : copyCV v a7 = ceV zw := (by rw [← ceV_copy]; obtain ⟨z1, z2⟩ := zw; simp only at hw1 hw2; rw [hw1, hw2]); rw [hzw]; have HW : Hid (zw.1 = copyC v) := hw1; have hAW := argsIn_copy hw1 hw2 hA7; clear hA7; obtain ⟨wZ, wR, hwZ, hwR, hrZ, hrR, hxR, hsR, hxZ, hsZ⟩ := boxR w7 zw; have HXR : Hid (Xt W wR) := hx7.trans hxR; have HRZ := Lib.hid hrZ; have HRW := Lib.hid hrR; have HWR := Lib.hid hwR; have hsz7 := hx7.size; have HAW : Hid (ArgsIn wR n7 (.slice zw.2 zw.1.t.args.length zw.1.t.args.length) zw.1.t.args) := hAW.xt hxR; clear hAW; obtain ⟨q5, _, a0, a1, a2, a3, c0, d0, b0, b1, b2, b3, _, _⟩ := HF0.out wR (HI.out.trans HXR.out); obtain ⟨x0, x1, _, _⟩ := cells2 (rowX HXR.out HBX.out); clear hrZ hwR hrR hxR hxZ hx7 hzw hw1 hw2)
         | (refine wpListIn_store_row (P := Tryz.prog) rfl 51 _ _ rfl w7.heap.size #[.int .i64 zw.1.kind, .int .i64 zw.1.v.kind, .float .f64 zw.1.v.x, .string zw.1.v.s, .bool zw.1.v.b, .int .i64 zw.1.v.f, .int .i64 zw.1.t.kind, .int .i64 zw.1.t.op, .float .f64 zw.1.t.x, .string zw.1.t.s, .bool zw.1.t.b, .int .i64 zw.1.t.f, .int .i64 zw.1.t.ref.a.1, .int .i64 zw.1.t.ref.a.2, .bool zw.1.t.ref.cf, .bool zw.1.t.ref.rf, .int .i64 zw.1.t.to.a.1, .int .i64 zw.1.t.to.a.2, .bool zw.1.t.to.cf, .bool zw.1.t.to.rf, .slice zw.2 zw.1.t.args.length zw.1.t.args.length] rfl rfl 51 _ HRZ.out (by kernel_rfl) rfl (by simp [Value.oneCell']) ?_; rw [HWR.out])
         | (gi_at_call 16; have hm0 := hm2; clear hm2 hm0; refine (callsIn_round (HCG.out _)).mono ?_; rintro e w9 ⟨rfl, hg9⟩; have HX9 : Hid (Xt W w9) := HXR.out.trans hg9.xt; replace HRW := Lib.hid (rowX hg9.xt HRW.out); obtain ⟨q5, q11, a0, a1, a2, a3, c0, d0, b0, b1, b2, b3, _, _⟩ := HF0.out w9 (HI.out.trans HX9.out); obtain ⟨x0, x1, _, _⟩ := cells2 (rowX HX9.out HBX.out); have hg9x := hg9.xt; clear hg9)
         | (gi_at_call 15; refine (callsIn_round (gget_any ga ma Ma (c, d) _ (HGaW.out.xt (HI.out.trans HX9.out)))).mono ?_; rintro e w8 ⟨n8, a8, rfl, hA8, hx8⟩; rw [HV.out] at hA8; rw [HV.out]; obtain ⟨zn, hn1, hn2⟩ : ∃ zn : CE, zn.1 = copyC v ∧ zn.2 = a8 := ⟨(copyC v, a8), rfl, rfl⟩; have hzn : copyCV v a8 = ceV zn := (by rw [← ceV_copy]; obtain ⟨z1, z2⟩ := zn; simp only at hn1 hn2; rw [hn1, hn2]); rw [hzn]; have HN : Hid (zn.1 = copyC v) := hn1; have hAN := argsIn_copy hn1 hn2 hA8; clear hA8; obtain ⟨wZ2, wR2, hwZ2, hwR2, hrZ2, hrR2, hxR2, hsR2, hxZ2, hsZ2⟩ := boxR w8 zn; have HXR2 : Hid (Xt W wR2) := (HX9.out.trans hx8).trans hxR2; have HRZ2 := Lib.hid hrZ2; have HAN : Hid (ArgsIn wR2 n8 (.slice zn.2 zn.1.t.args.length zn.1.t.args.length) zn.1.t.args) := hAN.xt hxR2; clear hAN; have HRN2 := Lib.hid hrR2; have HWR2 := Lib.hid hwR2; have HRW2 := Lib.hid (rowX (hx8.trans hxR2) HRW.out); have kd : wR2.cell? ⟨w8.heap.size, 0, none⟩ = some (.int .i64 1) := (by have hh : zn.1.kind = 1 := (by rw [HN.out]; exact HK.out); rw [← hh]; simp [World.cell?, HRN2.out]); have kz : wR2.cell? ⟨w7.heap.size, 0, none⟩ = some (.int .i64 1) := (by have hh : zw.1.kind = 1 := (by rw [HW.out]; exact HK.out); rw [← hh]; simp [World.cell?, HRW2.out]); have HXw7 : Hid (Xt wR wR2) := (hg9x.trans hx8).trans hxR2; have HX20 : Hid (Xt wR2 wR2) := Xt.refl _; obtain ⟨q5, q11, a0, a1, a2, a3, c0, d0, b0, b1, b2, b3, _, _⟩ := HF0.out wR2 (HI.out.trans HXR2.out); obtain ⟨x0, x1, _, _⟩ := cells2 (rowX HXR2.out HBX.out); clear hrZ2 hwR2 hrR2 hxR2 hxZ2 hx8 hzn hn1 hn2)
         | (refine wpListIn_store_row (P := Tryz.prog) rfl 51 _ _ rfl w8.heap.size #[.int .i64 zn.1.kind, .int .i64 zn.1.v.kind, .float .f64 zn.1.v.x, .string zn.1.v.s, .bool zn.1.v.b, .int .i64 zn.1.v.f, .int .i64 zn.1.t.kind, .int .i64 zn.1.t.op, .float .f64 zn.1.t.x, .string zn.1.t.s, .bool zn.1.t.b, .int .i64 zn.1.t.f, .int .i64 zn.1.t.ref.a.1, .int .i64 zn.1.t.ref.a.2, .bool zn.1.t.ref.cf, .bool zn.1.t.ref.rf, .int .i64 zn.1.t.to.a.1, .int .i64 zn.1.t.to.a.2, .bool zn.1.t.to.cf, .bool zn.1.t.to.rf, .slice zn.2 zn.1.t.args.length zn.1.t.args.length] rfl rfl 51 _ HRZ2.out (by kernel_rfl) rfl (by simp [Value.oneCell']) ?_; rw [HWR2.out])
         | (refine BigFrame.wpListIn_want (by rfl) (fun K hK => wpIn_load_row 51 _ rfl w8.heap.size rfl 51 _ (0, 0) _ HRN2.out Tryz.underlying51 rfl (by kernel_rfl) (hK _ _ ?_)); clear hK K)
         | (refine BigFrame.wpListIn_want (by rfl) (fun K hK => wpIn_load_row 51 _ rfl w7.heap.size rfl 51 _ (0, 0) _ HRW2.out Tryz.underlying51 rfl (by kernel_rfl) (hK _ _ ?_)); clear hK K)
         | (gi_at_call 17; have hm0 := hm3; clear hm3 hm0; refine (callsIn_round (gsame_any (n8 + n7) zn.1 zw.1 zn.2 zw.2 zn.1.t.args.length zw.1.t.args.length _ (ArgsIn.upQ (by omega) (HAN.out.xt HX20.out)) (ArgsIn.upQ (by omega) (HAW.out.xt (HXw7.out.trans HX20.out))))).mono ?_; rintro e w21 ⟨rfl, hg21⟩; rw [show sameCB zn.1 zw.1 = true by rw [HN.out, HW.out]; exact sameCB_refl _]; have HX21 : Hid (Xt wR2 w21) := HX20.out.trans hg21.xt; replace HRN2 := Lib.hid (rowX hg21.xt HRN2.out); replace HRW2 := Lib.hid (rowX hg21.xt HRW2.out); have HXW21 : Hid (Xt W w21) := HXR2.out.trans HX21.out; obtain ⟨q5, q11, a0, a1, a2, a3, c0, d0, b0, b1, b2, b3, _, _⟩ := HF0.out w21 (HI.out.trans HXW21.out); obtain ⟨x0, x1, _, _⟩ := cells2 (rowX HXW21.out HBX.out); clear hg21)
         | (gi_at_call 16; refine (callsIn_round (HCG.out _)).mono ?_; rintro e w22 ⟨rfl, hg22⟩; have HX22 : Hid (Xt wR2 w22) := HX21.out.trans hg22.xt; replace HRN2 := Lib.hid (rowX hg22.xt HRN2.out); replace HRW2 := Lib.hid (rowX hg22.xt HRW2.out); have HXW22 : Hid (Xt W w22) := HXR2.out.trans HX22.out; clear hg22)
         | (gi_at_call 17; refine (callsIn_round (gsame_any (n8 + n7) zn.1 zw.1 zn.2 zw.2 zn.1.t.args.length zw.1.t.args.length _ (ArgsIn.upQ (by omega) (HAN.out.xt HX22.out)) (ArgsIn.upQ (by omega) (HAW.out.xt (HXw7.out.trans HX22.out))))).mono ?_; rintro e w23 ⟨rfl, hg23⟩; rw [show sameCB zn.1 zw.1 = true by rw [HN.out, HW.out]; exact sameCB_refl _]; have HX23 : Hid (Xt wR2 w23) := HX22.out.trans hg23.xt; replace HRN2 := Lib.hid (rowX hg23.xt HRN2.out); replace HRW2 := Lib.hid (rowX hg23.xt HRW2.out); have HXW23 : Hid (Xt W w23) := HXR2.out.trans HX23.out; obtain ⟨q5, q11, a0, a1, a2, a3, c0, d0, b0, b1, b2, b3, _, _⟩ := HF0.out w23 (HI.out.trans HXW23.out); obtain ⟨x0, x1, _, _⟩ := cells2 (rowX HXW23.out HBX.out); clear hg23))
        have hx := HXW23.out
        exact ⟨keepsFrom_xt hx _, KC.of_xt hx, HI.out.trans hx⟩
      · have HK := Lib.hid hk
        clear hk
        obtain ⟨ku, hku⟩ : ∃ ku, v.kind = ku := ⟨_, rfl⟩
        have hk1 : (ku == (1 : Int)) = false := by have := HK.out; rw [hku] at this; simp [this]
        have HKU := Lib.hid hku
        clear hku
        gi_wp2_with (first
         | (gi_at_call 15; have hm0 := hm1; clear hm1 hm0; refine (callsIn_round (gget_any gb mb M (c, d) _ (HGW.out.xt HI.out))).mono ?_; rintro e w7 ⟨n7, a7, rfl, hA7, hx7⟩; rw [HU.out] at hA7; rw [HU.out]; obtain ⟨zw, hw1, hw2⟩ : ∃ zw : CE, zw.1 = copyC v ∧ zw.2 = a7 := ⟨(copyC v, a7), rfl, rfl⟩; have hzw : copyCV v a7 = ceV zw := (by rw [← ceV_copy]; obtain ⟨z1, z2⟩ := zw; simp only at hw1 hw2; rw [hw1, hw2]); rw [hzw]; have HW : Hid (zw.1 = copyC v) := hw1; have hAW := argsIn_copy hw1 hw2 hA7; clear hA7; obtain ⟨wZ, wR, hwZ, hwR, hrZ, hrR, hxR, hsR, hxZ, hsZ⟩ := boxR w7 zw; have HXR : Hid (Xt W wR) := hx7.trans hxR; have HRZ := Lib.hid hrZ; have HRW := Lib.hid hrR; have HWR := Lib.hid hwR; have hsz7 := hx7.size; have HAW : Hid (ArgsIn wR n7 (.slice zw.2 zw.1.t.args.length zw.1.t.args.length) zw.1.t.args) := hAW.xt hxR; clear hAW; obtain ⟨q5, _, a0, a1, a2, a3, c0, d0, b0, b1, b2, b3, _, _⟩ := HF0.out wR (HI.out.trans HXR.out); obtain ⟨x0, x1, _, _⟩ := cells2 (rowX HXR.out HBX.out); clear hrZ hwR hrR hxR hxZ hx7 hzw hw1 hw2)
         | (refine wpListIn_store_row (P := Tryz.prog) rfl 51 _ _ rfl w7.heap.size #[.int .i64 zw.1.kind, .int .i64 zw.1.v.kind, .float .f64 zw.1.v.x, .string zw.1.v.s, .bool zw.1.v.b, .int .i64 zw.1.v.f, .int .i64 zw.1.t.kind, .int .i64 zw.1.t.op, .float .f64 zw.1.t.x, .string zw.1.t.s, .bool zw.1.t.b, .int .i64 zw.1.t.f, .int .i64 zw.1.t.ref.a.1, .int .i64 zw.1.t.ref.a.2, .bool zw.1.t.ref.cf, .bool zw.1.t.ref.rf, .int .i64 zw.1.t.to.a.1, .int .i64 zw.1.t.to.a.2, .bool zw.1.t.to.cf, .bool zw.1.t.to.rf, .slice zw.2 zw.1.t.args.length zw.1.t.args.length] rfl rfl 51 _ HRZ.out (by kernel_rfl) rfl (by simp [Value.oneCell']) ?_; rw [HWR.out])
         | (gi_at_call 16; have hm0 := hm2; clear hm2 hm0; refine (callsIn_round (HCG.out _)).mono ?_; rintro e w9 ⟨rfl, hg9⟩; have HX9 : Hid (Xt W w9) := HXR.out.trans hg9.xt; replace HRW := Lib.hid (rowX hg9.xt HRW.out); obtain ⟨q5, q11, a0, a1, a2, a3, c0, d0, b0, b1, b2, b3, _, _⟩ := HF0.out w9 (HI.out.trans HX9.out); obtain ⟨x0, x1, _, _⟩ := cells2 (rowX HX9.out HBX.out); have hg9x := hg9.xt; clear hg9)
         | (gi_at_call 15; refine (callsIn_round (gget_any ga ma Ma (c, d) _ (HGaW.out.xt (HI.out.trans HX9.out)))).mono ?_; rintro e w8 ⟨n8, a8, rfl, hA8, hx8⟩; rw [HV.out] at hA8; rw [HV.out]; obtain ⟨zn, hn1, hn2⟩ : ∃ zn : CE, zn.1 = copyC v ∧ zn.2 = a8 := ⟨(copyC v, a8), rfl, rfl⟩; have hzn : copyCV v a8 = ceV zn := (by rw [← ceV_copy]; obtain ⟨z1, z2⟩ := zn; simp only at hn1 hn2; rw [hn1, hn2]); rw [hzn]; have HN : Hid (zn.1 = copyC v) := hn1; have hAN := argsIn_copy hn1 hn2 hA8; clear hA8; obtain ⟨wZ2, wR2, hwZ2, hwR2, hrZ2, hrR2, hxR2, hsR2, hxZ2, hsZ2⟩ := boxR w8 zn; have HXR2 : Hid (Xt W wR2) := (HX9.out.trans hx8).trans hxR2; have HRZ2 := Lib.hid hrZ2; have HAN : Hid (ArgsIn wR2 n8 (.slice zn.2 zn.1.t.args.length zn.1.t.args.length) zn.1.t.args) := hAN.xt hxR2; clear hAN; have HRN2 := Lib.hid hrR2; have HWR2 := Lib.hid hwR2; have HRW2 := Lib.hid (rowX (hx8.trans hxR2) HRW.out); have kd : wR2.cell? ⟨w8.heap.size, 0, none⟩ = some (.int .i64 ku) := (by have hh : zn.1.kind = ku := (by rw [HN.out]; exact HKU.out); rw [← hh]; simp [World.cell?, HRN2.out]); have kz : wR2.cell? ⟨w7.heap.size, 0, none⟩ = some (.int .i64 ku) := (by have hh : zw.1.kind = ku := (by rw [HW.out]; exact HKU.out); rw [← hh]; simp [World.cell?, HRW2.out]); have HXw7 : Hid (Xt wR wR2) := (hg9x.trans hx8).trans hxR2; have HX20 : Hid (Xt wR2 wR2) := Xt.refl _; obtain ⟨q5, q11, a0, a1, a2, a3, c0, d0, b0, b1, b2, b3, _, _⟩ := HF0.out wR2 (HI.out.trans HXR2.out); obtain ⟨x0, x1, _, _⟩ := cells2 (rowX HXR2.out HBX.out); clear hrZ2 hwR2 hrR2 hxR2 hxZ2 hx8 hzn hn1 hn2)
         | (refine wpListIn_store_row (P := Tryz.prog) rfl 51 _ _ rfl w8.heap.size #[.int .i64 zn.1.kind, .int .i64 zn.1.v.kind, .float .f64 zn.1.v.x, .string zn.1.v.s, .bool zn.1.v.b, .int .i64 zn.1.v.f, .int .i64 zn.1.t.kind, .int .i64 zn.1.t.op, .float .f64 zn.1.t.x, .string zn.1.t.s, .bool zn.1.t.b, .int .i64 zn.1.t.f, .int .i64 zn.1.t.ref.a.1, .int .i64 zn.1.t.ref.a.2, .bool zn.1.t.ref.cf, .bool zn.1.t.ref.rf, .int .i64 zn.1.t.to.a.1, .int .i64 zn.1.t.to.a.2, .bool zn.1.t.to.cf, .bool zn.1.t.to.rf, .slice zn.2 zn.1.t.args.length zn.1.t.args.length] rfl rfl 51 _ HRZ2.out (by kernel_rfl) rfl (by simp [Value.oneCell']) ?_; rw [HWR2.out])
         | (refine BigFrame.wpListIn_want (by rfl) (fun K hK => wpIn_load_row 51 _ rfl w8.heap.size rfl 51 _ (0, 0) _ HRN2.out Tryz.underlying51 rfl (by kernel_rfl) (hK _ _ ?_)); clear hK K)
         | (refine BigFrame.wpListIn_want (by rfl) (fun K hK => wpIn_load_row 51 _ rfl w7.heap.size rfl 51 _ (0, 0) _ HRW2.out Tryz.underlying51 rfl (by kernel_rfl) (hK _ _ ?_)); clear hK K)
         | (gi_at_call 16; refine (callsIn_round (HCG.out _)).mono ?_; rintro e w22 ⟨rfl, hg22⟩; have HX22 : Hid (Xt wR2 w22) := HX20.out.trans hg22.xt; replace HRN2 := Lib.hid (rowX hg22.xt HRN2.out); replace HRW2 := Lib.hid (rowX hg22.xt HRW2.out); have HXW22 : Hid (Xt W w22) := HXR2.out.trans HX22.out; clear hg22)
         | (gi_at_call 17; refine (callsIn_round (gsame_any (n8 + n7) zn.1 zw.1 zn.2 zw.2 zn.1.t.args.length zw.1.t.args.length _ (ArgsIn.upQ (by omega) (HAN.out.xt HX22.out)) (ArgsIn.upQ (by omega) (HAW.out.xt (HXw7.out.trans HX22.out))))).mono ?_; rintro e w23 ⟨rfl, hg23⟩; rw [show sameCB zn.1 zw.1 = true by rw [HN.out, HW.out]; exact sameCB_refl _]; have HX23 : Hid (Xt wR2 w23) := HX22.out.trans hg23.xt; replace HRN2 := Lib.hid (rowX hg23.xt HRN2.out); replace HRW2 := Lib.hid (rowX hg23.xt HRW2.out); have HXW23 : Hid (Xt W w23) := HXR2.out.trans HX23.out; obtain ⟨q5, q11, a0, a1, a2, a3, c0, d0, b0, b1, b2, b3, _, _⟩ := HF0.out w23 (HI.out.trans HXW23.out); obtain ⟨x0, x1, _, _⟩ := cells2 (rowX HXW23.out HBX.out); clear hg23))
        have hx := HXW23.out
        exact ⟨keepsFrom_xt hx _, KC.of_xt hx, HI.out.trans hx⟩
    · have hfar := HMV.out.far
      have hinr : 1 ≤ c ∧ c ≤ 12 ∧ 1 ≤ d ∧ d ≤ 12 := by have h := HIN2.out; simp only at h; omega
      have hn1 : IntKind.i64.wrap (-cc) = -cc := wrap_idz (by omega) (by omega)
      have hn2 : IntKind.i64.wrap (-rr) = -rr := wrap_idz (by omega) (by omega)
      have HSH2 := Lib.hid (fun V => shifted_any (c, d) (-cc) (-rr) V)
      simp only [w64 (x := c + -cc) (by omega) (by omega), w64 (x := d + -rr) (by omega) (by omega)] at HSH2
      obtain ⟨u2, hu2⟩ : ∃ u2, ((lkM (c + -cc, d + -rr) M).getD (zeroC, none)).1 = u2 := ⟨_, rfl⟩
      have hu22 : (lkM (c + -cc, d + -rr) (er M)).getD zeroC = u2 := (er_getD (c + -cc, d + -rr) M).symm.trans hu2
      have hlaw := sh_law cc rr (lkM (c + -cc, d + -rr) (er M))
      have hgt := HGET.out
      simp only [if_true] at hgt
      rw [← hgt, HV2.out, hu22] at hlaw
      have hpa := plain_args9 HOG.out (c + -cc, d + -rr)
      rw [hu22] at hpa
      have HLAW := Lib.hid hlaw
      have HPA := Lib.hid hpa
      have HU3 := Lib.hid hu2
      have hBxl : Bx < W.heap.size := (Array.getElem?_eq_some_iff.1 HBX.out).1
      have hKl : K6 + 1 + 1 + 1 < W.heap.size := World.block_lt_of_cell? W _ d0
      clear hlaw hpa hgt hu2 hu22 hfar hinr
      gi_wp2_with (first
       | (gi_at_call 15; have hm0 := hm1; clear hm1 hm0; refine (callsIn_round (gget_any gb mb M (c, d) _ (HGW.out.xt HI.out))).mono ?_; rintro e w7 ⟨n7, a7, rfl, hA7, hx7⟩; clear hA7; rw [HU.out]; obtain ⟨zw, hw1, hw2⟩ : ∃ zw : CE, zw.1 = copyC u ∧ zw.2 = a7 := ⟨(copyC u, a7), rfl, rfl⟩; have hzw : copyCV u a7 = ceV zw := (by rw [← ceV_copy]; obtain ⟨z1, z2⟩ := zw; simp only at hw1 hw2; rw [hw1, hw2]); rw [hzw]; have HW : Hid (zw.1 = copyC u) := hw1; obtain ⟨wZ, wR, hwZ, hwR, hrZ, hrR, hxR, hsR, hxZ, hsZ⟩ := boxR w7 zw; have HXR : Hid (Xt W wR) := hx7.trans hxR; have HRZ := Lib.hid hrZ; have HRW := Lib.hid hrR; have HWR := Lib.hid hwR; have hsz7 := hx7.size; obtain ⟨q5, _, a0, a1, a2, a3, c0, d0, b0, b1, b2, b3, _, _⟩ := HF0.out wR (HI.out.trans HXR.out); obtain ⟨x0, x1, _, _⟩ := cells2 (rowX HXR.out HBX.out); clear hrZ hwR hrR hxR hxZ hx7 hzw hw1 hw2)
       | (refine wpListIn_store_row (P := Tryz.prog) rfl 51 _ _ rfl w7.heap.size #[.int .i64 zw.1.kind, .int .i64 zw.1.v.kind, .float .f64 zw.1.v.x, .string zw.1.v.s, .bool zw.1.v.b, .int .i64 zw.1.v.f, .int .i64 zw.1.t.kind, .int .i64 zw.1.t.op, .float .f64 zw.1.t.x, .string zw.1.t.s, .bool zw.1.t.b, .int .i64 zw.1.t.f, .int .i64 zw.1.t.ref.a.1, .int .i64 zw.1.t.ref.a.2, .bool zw.1.t.ref.cf, .bool zw.1.t.ref.rf, .int .i64 zw.1.t.to.a.1, .int .i64 zw.1.t.to.a.2, .bool zw.1.t.to.cf, .bool zw.1.t.to.rf, .slice zw.2 zw.1.t.args.length zw.1.t.args.length] rfl rfl 51 _ HRZ.out (by kernel_rfl) rfl (by simp [Value.oneCell']) ?_; rw [HWR.out])
       | (gi_at_call 16; have hm0 := hm2; clear hm2 hm0; refine (callsIn_round (HCG.out _)).mono ?_; rintro e w9 ⟨rfl, hg9⟩; have HX9 : Hid (Xt W w9) := HXR.out.trans hg9.xt; replace HRW := Lib.hid (rowX hg9.xt HRW.out); obtain ⟨q5, q11, a0, a1, a2, a3, c0, d0, b0, b1, b2, b3, _, _⟩ := HF0.out w9 (HI.out.trans HX9.out); obtain ⟨x0, x1, _, _⟩ := cells2 (rowX HX9.out HBX.out); clear hg9))
      have HF2 : Hid (∀ V, w9.grownBy V (some w7.heap.size) → V.cell? ⟨K5, 0, none⟩ = some (.pointer (some ⟨gb, 0, none⟩)) ∧ V.cell? ⟨Bx, 0, none⟩ = some (.int .i64 c) ∧ V.cell? ⟨Bx, 1, none⟩ = some (.int .i64 d) ∧ V.cell? ⟨K6 + 1 + 1, 0, none⟩ = some (.int .i64 cc) ∧ V.cell? ⟨K6 + 1 + 1 + 1, 0, none⟩ = some (.int .i64 rr)) := Lib.hid fun V hV => by
       have k : ∀ b, b ≠ w7.heap.size → ∀ o u, w9.cell? ⟨b, o, none⟩ = some u → V.cell? ⟨b, o, none⟩ = some u := fun b hb o u hu => (World.cell?_of_block (w := w9) (a := ⟨b, o, none⟩) (hV.block b (World.block_lt_of_cell? w9 _ hu) (fun e => hb (by have := Option.some.inj e; omega)))).trans hu
       obtain ⟨q5, q11, a0, a1, a2, a3, c0, d0, b0, b1, b2, b3, _, _⟩ := HF0.out w9 (HI.out.trans HX9.out)
       obtain ⟨x0, x1, _, _⟩ := cells2 (rowX HX9.out HBX.out)
       exact ⟨k K5 (by omega) _ _ q5, k Bx (by omega) _ _ x0, k Bx (by omega) _ _ x1, k _ (by omega) _ _ c0, k _ (by omega) _ _ d0⟩
      clear q5 q11 a0 a1 a2 a3 b0 b1 b2 b3 x0 x1
      refine region_round (S := fun V => w9.grownBy V (some w7.heap.size)) (by kernel_rfl) (by kernel_rfl) (fun _ _ h => h) (⟨rfl, rfl, rfl, Nat.le_refl _, fun _ _ _ => rfl⟩ : w9.grownBy w9.drew _) (fun hHeld => ?_)
      refine tkH 0 ?_ ?_ ?_
      rotate_left
      · intro V hSw; obtain ⟨u0, u1, u2, u3, u4⟩ := HF2.out V hSw; go_simp; first | done | with_reducible rfl
      try simp only [Act.put, nm]
      refine tkH 1 ?_ ?_ ?_
      rotate_left
      · intro V hSw; obtain ⟨u0, u1, u2, u3, u4⟩ := HF2.out V hSw; go_simp; first | done | with_reducible rfl
      try simp only [Act.put, nm]
      refine tkH 2 ?_ ?_ ?_
      rotate_left
      · intro V hSw; obtain ⟨u0, u1, u2, u3, u4⟩ := HF2.out V hSw; go_simp; first | done | with_reducible rfl
      try simp only [Act.put, nm]
      refine tkH 3 ?_ ?_ ?_
      rotate_left
      · intro V hSw; obtain ⟨u0, u1, u2, u3, u4⟩ := HF2.out V hSw; go_simp; first | done | with_reducible rfl
      try simp only [Act.put, nm]
      refine tkH 4 ?_ ?_ ?_
      rotate_left
      · intro V hSw; obtain ⟨u0, u1, u2, u3, u4⟩ := HF2.out V hSw; go_simp; first | done | with_reducible rfl
      try simp only [Act.put, nm]
      refine tkH 5 ?_ ?_ ?_
      rotate_left
      · intro V hSw; obtain ⟨u0, u1, u2, u3, u4⟩ := HF2.out V hSw; go_simp; first | done | with_reducible rfl
      try simp only [Act.put, nm]
      refine rdH 6 (fun K hK => ?_)
      go_simp
      refine (HSH2.out _).mono ?_
      rintro e wn ⟨rfl, hgn⟩
      have HXN : Hid (Xt w9 wn) := (Xt.refl w9).drew.trans hgn
      refine hK.out _ _ (HXN.out.grown (some w7.heap.size)) (fun hHeldB => ?_)
      clear hK K hgn
      try simp only [Act.put, nm]
      refine rdH 7 (fun K hK => ?_)
      go_simp
      refine (gget_any gb mb M (c + -cc, d + -rr) _ (HGW.out.xt (HI.out.trans (HX9.out.trans HXN.out)))).mono ?_
      rintro e wg ⟨n10, a10, rfl, hA10, hx10⟩
      clear hA10
      rw [HU3.out]
      obtain ⟨zx, hx1, hx2⟩ : ∃ zx : CE, zx.1 = copyC u2 ∧ zx.2 = a10 := ⟨(copyC u2, a10), rfl, rfl⟩
      have hzx : copyCV u2 a10 = ceV zx := (by rw [← ceV_copy]; obtain ⟨z1, z2⟩ := zx; simp only at hx1 hx2; rw [hx1, hx2])
      rw [hzx]
      have HWX : Hid (zx.1 = copyC u2) := hx1
      have HXG : Hid (Xt w9 wg) := HXN.out.trans hx10
      refine hK.out _ _ (HXG.out.grown (some w7.heap.size)) (fun hHeldC => ?_)
      clear hK K hx10 hzx hx1 hx2
      try simp only [Act.put, nm]
      refine rdH 8 (fun K hK => ?_)
      rw [if_pos (by rfl)]
      refine wp_store_row (P := Tryz.prog) 51 _ _ rfl w7.heap.size #[.int .i64 zx.1.kind, .int .i64 zx.1.v.kind, .float .f64 zx.1.v.x, .string zx.1.v.s, .bool zx.1.v.b, .int .i64 zx.1.v.f, .int .i64 zx.1.t.kind, .int .i64 zx.1.t.op, .float .f64 zx.1.t.x, .string zx.1.t.s, .bool zx.1.t.b, .int .i64 zx.1.t.f, .int .i64 zx.1.t.ref.a.1, .int .i64 zx.1.t.ref.a.2, .bool zx.1.t.ref.cf, .bool zx.1.t.ref.rf, .int .i64 zx.1.t.to.a.1, .int .i64 zx.1.t.to.a.2, .bool zx.1.t.to.cf, .bool zx.1.t.to.rf, .slice zx.2 zx.1.t.args.length zx.1.t.args.length] rfl rfl 51 _ (rowX HXG.out HRW.out) (by kernel_rfl) rfl (by simp [Value.oneCell']) ?_
      obtain ⟨wS, hwS⟩ : ∃ wS, wg.setRow w7.heap.size #[.int .i64 zx.1.kind, .int .i64 zx.1.v.kind, .float .f64 zx.1.v.x, .string zx.1.v.s, .bool zx.1.v.b, .int .i64 zx.1.v.f, .int .i64 zx.1.t.kind, .int .i64 zx.1.t.op, .float .f64 zx.1.t.x, .string zx.1.t.s, .bool zx.1.t.b, .int .i64 zx.1.t.f, .int .i64 zx.1.t.ref.a.1, .int .i64 zx.1.t.ref.a.2, .bool zx.1.t.ref.cf, .bool zx.1.t.ref.rf, .int .i64 zx.1.t.to.a.1, .int .i64 zx.1.t.to.a.2, .bool zx.1.t.to.cf, .bool zx.1.t.to.rf, .slice zx.2 zx.1.t.args.length zx.1.t.args.length] = wS := ⟨_, rfl⟩
      have hrS : wS.heap[w7.heap.size]? = some (.cells #[.int .i64 zx.1.kind, .int .i64 zx.1.v.kind, .float .f64 zx.1.v.x, .string zx.1.v.s, .bool zx.1.v.b, .int .i64 zx.1.v.f, .int .i64 zx.1.t.kind, .int .i64 zx.1.t.op, .float .f64 zx.1.t.x, .string zx.1.t.s, .bool zx.1.t.b, .int .i64 zx.1.t.f, .int .i64 zx.1.t.ref.a.1, .int .i64 zx.1.t.ref.a.2, .bool zx.1.t.ref.cf, .bool zx.1.t.ref.rf, .int .i64 zx.1.t.to.a.1, .int .i64 zx.1.t.to.a.2, .bool zx.1.t.to.cf, .bool zx.1.t.to.rf, .slice zx.2 zx.1.t.args.length zx.1.t.args.length] 51 (0, 0)) := (by rw [← hwS]; exact setRow_heap _ _ _ _ _ _ (rowX HXG.out HRW.out))
      have HXS : Hid (Xt W wS) := (by unfold Hid; rw [← hwS]; exact (HX9.out.trans HXG.out).grownB (setRow_grown _ _ _) (fun m hm => by cases hm; exact hsz7))
      have hg9 : w9.grownBy wS (some w7.heap.size) := (by rw [← hwS]; exact grownBy_two (HXG.out.grown (some w7.heap.size)) (setRow_grown _ _ _))
      rw [hwS]
      replace HRW := Lib.hid hrS
      refine hK.out _ _ hg9 (fun hHeldD => ?_)
      clear hK K hwS hrS hg9 hHeld hHeldB hHeldC hHeldD
      refine wpAnyH_done (by kernel_rfl) ?_ _
      obtain ⟨q5, q11, a0, a1, a2, a3, c0, d0, b0, b1, b2, b3, _, _⟩ := HF0.out wS (HI.out.trans HXS.out)
      obtain ⟨x0, x1, _, _⟩ := cells2 (rowX HXS.out HBX.out)
      by_cases hk : u2.kind = 1
      · have HK := Lib.hid hk
        clear hk
        gi_wp2_with (first
         | (gi_at_call 15; refine (callsIn_round (gget_any ga ma Ma (c, d) _ (HGaW.out.xt (HI.out.trans HXS.out)))).mono ?_; rintro e w8 ⟨n8, a8, rfl, hA8, hx8⟩; rw [HV.out] at hA8; rw [HV.out]; obtain ⟨zn, hn1, hn2⟩ : ∃ zn : CE, zn.1 = copyC v ∧ zn.2 = a8 := ⟨(copyC v, a8), rfl, rfl⟩; have hzn : copyCV v a8 = ceV zn := (by rw [← ceV_copy]; obtain ⟨z1, z2⟩ := zn; simp only at hn1 hn2; rw [hn1, hn2]); rw [hzn]; have HN : Hid (zn.1 = copyC v) := hn1; have hAN := argsIn_copy hn1 hn2 hA8; clear hA8; obtain ⟨wZ2, wR2, hwZ2, hwR2, hrZ2, hrR2, hxR2, hsR2, hxZ2, hsZ2⟩ := boxR w8 zn; have HXR2 : Hid (Xt W wR2) := (HXS.out.trans hx8).trans hxR2; have HRZ2 := Lib.hid hrZ2; have HAN : Hid (ArgsIn wR2 n8 (.slice zn.2 zn.1.t.args.length zn.1.t.args.length) zn.1.t.args) := hAN.xt hxR2; clear hAN; have HRN2 := Lib.hid hrR2; have HWR2 := Lib.hid hwR2; have HRW2 := Lib.hid (rowX (hx8.trans hxR2) HRW.out); have kd : wR2.cell? ⟨w8.heap.size, 0, none⟩ = some (.int .i64 1) := (by have hh : zn.1.kind = 1 := (by rw [HN.out]; show v.kind = 1; rw [HLAW.out.1]; exact HK.out); rw [← hh]; simp [World.cell?, HRN2.out]); have kz : wR2.cell? ⟨w7.heap.size, 0, none⟩ = some (.int .i64 1) := (by have hh : zx.1.kind = 1 := (by rw [HWX.out]; exact HK.out); rw [← hh]; simp [World.cell?, HRW2.out]); have HX20 : Hid (Xt wR2 wR2) := Xt.refl _; obtain ⟨q5, q11, a0, a1, a2, a3, c0, d0, b0, b1, b2, b3, _, _⟩ := HF0.out wR2 (HI.out.trans HXR2.out); obtain ⟨x0, x1, _, _⟩ := cells2 (rowX HXR2.out HBX.out); clear hrZ2 hwR2 hrR2 hxR2 hxZ2 hx8 hzn hn1 hn2)
         | (refine wpListIn_store_row (P := Tryz.prog) rfl 51 _ _ rfl w8.heap.size #[.int .i64 zn.1.kind, .int .i64 zn.1.v.kind, .float .f64 zn.1.v.x, .string zn.1.v.s, .bool zn.1.v.b, .int .i64 zn.1.v.f, .int .i64 zn.1.t.kind, .int .i64 zn.1.t.op, .float .f64 zn.1.t.x, .string zn.1.t.s, .bool zn.1.t.b, .int .i64 zn.1.t.f, .int .i64 zn.1.t.ref.a.1, .int .i64 zn.1.t.ref.a.2, .bool zn.1.t.ref.cf, .bool zn.1.t.ref.rf, .int .i64 zn.1.t.to.a.1, .int .i64 zn.1.t.to.a.2, .bool zn.1.t.to.cf, .bool zn.1.t.to.rf, .slice zn.2 zn.1.t.args.length zn.1.t.args.length] rfl rfl 51 _ HRZ2.out (by kernel_rfl) rfl (by simp [Value.oneCell']) ?_; rw [HWR2.out])
         | (refine BigFrame.wpListIn_want (by rfl) (fun K hK => wpIn_load_row 51 _ rfl w8.heap.size rfl 51 _ (0, 0) _ HRN2.out Tryz.underlying51 rfl (by kernel_rfl) (hK _ _ ?_)); clear hK K)
         | (refine BigFrame.wpListIn_want (by rfl) (fun K hK => wpIn_load_row 51 _ rfl w7.heap.size rfl 51 _ (0, 0) _ HRW2.out Tryz.underlying51 rfl (by kernel_rfl) (hK _ _ ?_)); clear hK K)
         | (gi_at_call 17; refine (callsIn_round (gsame_any 1 zn.1 zx.1 zn.2 zx.2 zn.1.t.args.length zx.1.t.args.length wR2 (argsIn_nil9 _ _ _ (by rw [HN.out, HLAW.out.2 HK.out]; exact copy_args9 (HPA.out HK.out))) (argsIn_nil9 _ _ _ (by rw [HWX.out]; exact copy_args9 (HPA.out HK.out))))).mono ?_; rintro e w21 ⟨rfl, hg21⟩; rw [show sameCB zn.1 zx.1 = true by rw [HN.out, HWX.out, HLAW.out.2 HK.out]; exact sameCB_refl _]; have HX21 : Hid (Xt wR2 w21) := HX20.out.trans hg21.xt; replace HRN2 := Lib.hid (rowX hg21.xt HRN2.out); replace HRW2 := Lib.hid (rowX hg21.xt HRW2.out); have HXW21 : Hid (Xt W w21) := HXR2.out.trans HX21.out; obtain ⟨q5, q11, a0, a1, a2, a3, c0, d0, b0, b1, b2, b3, _, _⟩ := HF0.out w21 (HI.out.trans HXW21.out); obtain ⟨x0, x1, _, _⟩ := cells2 (rowX HXW21.out HBX.out); clear hg21)
         | (gi_at_call 16; refine (callsIn_round (HCG.out _)).mono ?_; rintro e w22 ⟨rfl, hg22⟩; have HX22 : Hid (Xt wR2 w22) := HX21.out.trans hg22.xt; replace HRN2 := Lib.hid (rowX hg22.xt HRN2.out); replace HRW2 := Lib.hid (rowX hg22.xt HRW2.out); have HXW22 : Hid (Xt W w22) := HXR2.out.trans HX22.out; clear hg22))
        have hx := HXW22.out
        exact ⟨keepsFrom_xt hx _, KC.of_xt hx, HI.out.trans hx⟩
      · have HK := Lib.hid hk
        clear hk
        obtain ⟨ku, hku⟩ : ∃ ku, u2.kind = ku := ⟨_, rfl⟩
        have hk1 : (ku == (1 : Int)) = false := by have := HK.out; rw [hku] at this; simp [this]
        have HKU := Lib.hid hku
        clear hku
        gi_wp2_with (first
         | (gi_at_call 15; refine (callsIn_round (gget_any ga ma Ma (c, d) _ (HGaW.out.xt (HI.out.trans HXS.out)))).mono ?_; rintro e w8 ⟨n8, a8, rfl, hA8, hx8⟩; rw [HV.out] at hA8; rw [HV.out]; obtain ⟨zn, hn1, hn2⟩ : ∃ zn : CE, zn.1 = copyC v ∧ zn.2 = a8 := ⟨(copyC v, a8), rfl, rfl⟩; have hzn : copyCV v a8 = ceV zn := (by rw [← ceV_copy]; obtain ⟨z1, z2⟩ := zn; simp only at hn1 hn2; rw [hn1, hn2]); rw [hzn]; have HN : Hid (zn.1 = copyC v) := hn1; have hAN := argsIn_copy hn1 hn2 hA8; clear hA8; obtain ⟨wZ2, wR2, hwZ2, hwR2, hrZ2, hrR2, hxR2, hsR2, hxZ2, hsZ2⟩ := boxR w8 zn; have HXR2 : Hid (Xt W wR2) := (HXS.out.trans hx8).trans hxR2; have HRZ2 := Lib.hid hrZ2; have HAN : Hid (ArgsIn wR2 n8 (.slice zn.2 zn.1.t.args.length zn.1.t.args.length) zn.1.t.args) := hAN.xt hxR2; clear hAN; have HRN2 := Lib.hid hrR2; have HWR2 := Lib.hid hwR2; have HRW2 := Lib.hid (rowX (hx8.trans hxR2) HRW.out); have kd : wR2.cell? ⟨w8.heap.size, 0, none⟩ = some (.int .i64 ku) := (by have hh : zn.1.kind = ku := (by rw [HN.out]; show v.kind = ku; rw [HLAW.out.1]; exact HKU.out); rw [← hh]; simp [World.cell?, HRN2.out]); have kz : wR2.cell? ⟨w7.heap.size, 0, none⟩ = some (.int .i64 ku) := (by have hh : zx.1.kind = ku := (by rw [HWX.out]; exact HKU.out); rw [← hh]; simp [World.cell?, HRW2.out]); have HX20 : Hid (Xt wR2 wR2) := Xt.refl _; obtain ⟨q5, q11, a0, a1, a2, a3, c0, d0, b0, b1, b2, b3, _, _⟩ := HF0.out wR2 (HI.out.trans HXR2.out); obtain ⟨x0, x1, _, _⟩ := cells2 (rowX HXR2.out HBX.out); clear hrZ2 hwR2 hrR2 hxR2 hxZ2 hx8 hzn hn1 hn2)
         | (refine wpListIn_store_row (P := Tryz.prog) rfl 51 _ _ rfl w8.heap.size #[.int .i64 zn.1.kind, .int .i64 zn.1.v.kind, .float .f64 zn.1.v.x, .string zn.1.v.s, .bool zn.1.v.b, .int .i64 zn.1.v.f, .int .i64 zn.1.t.kind, .int .i64 zn.1.t.op, .float .f64 zn.1.t.x, .string zn.1.t.s, .bool zn.1.t.b, .int .i64 zn.1.t.f, .int .i64 zn.1.t.ref.a.1, .int .i64 zn.1.t.ref.a.2, .bool zn.1.t.ref.cf, .bool zn.1.t.ref.rf, .int .i64 zn.1.t.to.a.1, .int .i64 zn.1.t.to.a.2, .bool zn.1.t.to.cf, .bool zn.1.t.to.rf, .slice zn.2 zn.1.t.args.length zn.1.t.args.length] rfl rfl 51 _ HRZ2.out (by kernel_rfl) rfl (by simp [Value.oneCell']) ?_; rw [HWR2.out])
         | (gi_at_call 16; refine (callsIn_round (HCG.out _)).mono ?_; rintro e w22 ⟨rfl, hg22⟩; have HX22 : Hid (Xt wR2 w22) := HX20.out.trans hg22.xt; replace HRN2 := Lib.hid (rowX hg22.xt HRN2.out); replace HRW2 := Lib.hid (rowX hg22.xt HRW2.out); have HXW22 : Hid (Xt W w22) := HXR2.out.trans HX22.out; clear hg22))
        have hx := HXW22.out
        exact ⟨keepsFrom_xt hx _, KC.of_xt hx, HI.out.trans hx⟩
end Go.Proofs.YtdoeejhdenifpaaGreatDoor
/- A call (Step) as it comes in. -/
namespace Go.Proofs.YtdoeejhdenifpaaGreatDoor
open Go.ChangeShapes Go.WideShapes Go.ChangeAt Go.RowKit Go.Joins Go.Deep Go.Shelf
theorem Tryz.cellsArea : Tryz.prog.cellsOf 26 = 4 := by kernel_rfl
theorem Tryz.cellsStep : Tryz.prog.cellsOf 28 = 9 := by kernel_rfl
section
variable {H : Type} {enc : TypeId × Value → H} {W : World} {base : Nat} {spare : Nat → Bool} {held : Bool}
theorem open_i64 {n : Nat} {c : Value} {x : DataW H × List MemPlace} (h : DataW.trod enc Tryz.prog W base spare held n 3 [c] = some x) : ∃ k, c = .int .i64 k ∧ I64 k := by
 obtain ⟨m, e, _, hw⟩ := DataW.trod_int Tryz.underlying3 h
 simp at e
 exact ⟨m, e, bounds_i64 hw⟩
set_option maxRecDepth 100000 in
theorem open_adB {n : Nat} {c0 c1 : Value} {x : DataW H × List MemPlace} (h : DataW.trod enc Tryz.prog W base spare held n 24 [c0, c1] = some x) : ∃ a : Ad, c0 = .int .i64 a.1 ∧ c1 = .int .i64 a.2 ∧ I64 a.1 ∧ I64 a.2 := by
 obtain ⟨y0, y1, m, hx, hl, h0, h1⟩ := trod_struct2 Tryz.underlying24 h
 have g0 : DataW.trod enc Tryz.prog W base spare held m 3 [c0] = some y0 := by simpa [Tryz.cellsInt] using h0
 have g1 : DataW.trod enc Tryz.prog W base spare held m 3 [c1] = some y1 := by simpa [Tryz.cellsInt] using h1
 obtain ⟨a, e0, b0⟩ := open_i64 g0
 obtain ⟨b, e1, b1⟩ := open_i64 g1
 exact ⟨(a, b), e0, e1, b0, b1⟩
set_option maxRecDepth 100000 in
theorem open_areaB {n : Nat} {c0 c1 c2 c3 : Value} {x : DataW H × List MemPlace} (h : DataW.trod enc Tryz.prog W base spare held n 26 [c0, c1, c2, c3] = some x) : ∃ a : ArT, c0 = .int .i64 a.a ∧ c1 = .int .i64 a.b ∧ c2 = .int .i64 a.c ∧ c3 = .int .i64 a.d ∧ I64 a.a ∧ I64 a.b ∧ I64 a.c ∧ I64 a.d := by
 obtain ⟨y0, y1, m, hx, hl, h0, h1⟩ := trod_struct2 Tryz.underlying26 h
 have g0 : DataW.trod enc Tryz.prog W base spare held m 24 [c0, c1] = some y0 := by simpa [Tryz.cellsAddr] using h0
 have g1 : DataW.trod enc Tryz.prog W base spare held m 24 [c2, c3] = some y1 := by simpa [Tryz.cellsAddr] using h1
 obtain ⟨a, e0, e1, b0, b1⟩ := open_adB g0
 obtain ⟨b, e2, e3, b2, b3⟩ := open_adB g1
 exact ⟨⟨a.1, a.2, b.1, b.2⟩, e0, e1, e2, e3, b0, b1, b2, b3⟩
set_option maxRecDepth 100000 in
set_option maxHeartbeats 1000000 in
theorem open_step {n : Nat} {cs : List Value} {x : DataW H × List MemPlace} (h : DataW.trod enc Tryz.prog W base spare held n 28 cs = some x) :
    ∃ (kk aa nn : Int) (f : ArT) (g : Ad), cs = [.int .i64 kk, .int .i64 aa, .int .i64 nn, .int .i64 f.a, .int .i64 f.b, .int .i64 f.c, .int .i64 f.d, .int .i64 g.1, .int .i64 g.2] ∧ (I64 f.a ∧ I64 f.b ∧ I64 f.c ∧ I64 f.d ∧ I64 g.1 ∧ I64 g.2) ∧ I64 kk ∧ I64 aa ∧ I64 nn := by
 obtain ⟨xs, m, _, rfl, hl, hlen, hf⟩ := DataW.trod_struct Tryz.underlying28 h
 rw [Tryz.cellsStep] at hl
 match xs, hlen with
 | [y0, y1, y2, y3, y4], _ =>
  match cs, hl with
  | [c0, c1, c2, c3, c4, c5, c6, c7, c8], _ =>
   have g0 : DataW.trod enc Tryz.prog W base spare held m 3 [c0] = some y0 := by simpa [Tryz.cellsInt] using hf 0 _ rfl
   have g1 : DataW.trod enc Tryz.prog W base spare held m 3 [c1] = some y1 := by simpa [Tryz.cellsInt] using hf 1 _ rfl
   have g2 : DataW.trod enc Tryz.prog W base spare held m 3 [c2] = some y2 := by simpa [Tryz.cellsInt] using hf 2 _ rfl
   have g3 : DataW.trod enc Tryz.prog W base spare held m 26 [c3, c4, c5, c6] = some y3 := by simpa [Tryz.cellsArea] using hf 3 _ rfl
   have g4 : DataW.trod enc Tryz.prog W base spare held m 24 [c7, c8] = some y4 := by simpa [Tryz.cellsAddr] using hf 4 _ rfl
   obtain ⟨kk, rfl, b0⟩ := open_i64 g0
   obtain ⟨aa, rfl, b1⟩ := open_i64 g1
   obtain ⟨nn, rfl, b2⟩ := open_i64 g2
   obtain ⟨f, rfl, rfl, rfl, rfl, b3, b4, b5, b6⟩ := open_areaB g3
   obtain ⟨g, rfl, rfl, b7, b8⟩ := open_adB g4
   exact ⟨kk, aa, nn, f, g, rfl, ⟨b3, b4, b5, b6, b7, b8⟩, b0, b1, b2⟩
end
end Go.Proofs.YtdoeejhdenifpaaGreatDoor
/- Lists of puts, and of numbers, as they come in. -/
namespace Go.Proofs.YtdoeejhdenifpaaGreatDoor
open Go.ChangeShapes Go.WideShapes Go.ChangeAt Go.RowKit Go.Joins Go.Deep Go.Shelf
section
variable {H : Type} {enc : TypeId × Value → H} {W : World} {base : Nat} {spare : Nat → Bool} {held : Bool}
theorem open_listW {α : Type} {p : α → Prop} {encA : α → List Value} {sz : Nat} {t e : TypeId} {n : Nat} {v : Value} {x : DataW H × List MemPlace} (ht : Tryz.prog.underlying t = some (.slice e)) (hc : Tryz.prog.cellsOf e = sz) (hpos : 0 < sz) (hk : ∀ x, (encA x).length = sz)
    (he : ∀ m cs y, DataW.trod enc Tryz.prog W base spare held m e cs = some y → (∀ q ∈ y.1.weights Tryz.prog e, q ≤ reachBytes) → ∃ a : α, cs = encA a ∧ p a) (h : DataW.trod enc Tryz.prog W base spare held n t [v] = some x) (hz : ∀ q ∈ x.1.weights Tryz.prog t, q ≤ reachBytes) : ∃ l, SlOf W encA sz v l ∧ ∀ x ∈ l, p x := by
 rcases DataW.trod_slice ht h with ⟨h0, _⟩ | ⟨a, len, cap, elems, rest, m, hq, hcs, hx, hb, hlc, hcap, hle, hel, _, _⟩
 · cases h0
   exact ⟨[], SlOf.nil _ _ _ _ _ (by omega), fun x hx => by cases hx⟩
 · cases hcs
   rw [hc] at hel
   rw [hx] at hz
   have each : ∀ i, i < len → ∃ u : α, (∀ (j : Nat) (c : Value), (encA u)[j]? = some c → W.cell? (a.add (i * sz + j)) = some c) ∧ p u := by
    intro i hil
    have hi := hel i hil
    rw [List.getElem?_eq_getElem (by omega)] at hi
    obtain ⟨cs', h1, h2⟩ := Option.bind_eq_some_iff.1 hi
    obtain ⟨u, rfl, hp⟩ := he _ _ _ h2 (fun z hq => hz z (by
     simp only [DataW.weights, ht, List.mem_cons, List.mem_append]
     exact Or.inr (Or.inl (weights_all_mem (List.mem_map.2 ⟨_, List.getElem_mem (by omega), rfl⟩) hq))))
    obtain ⟨_, hlen, hcell⟩ := World.cells?_some h1
    refine ⟨u, fun j c hj => ?_, hp⟩
    have hjs : j < sz := by have := (List.getElem?_eq_some_iff.1 hj).1; rw [hk] at this; exact this
    rw [← add_add, hcell j hjs, hj]
   obtain ⟨l, hl1, hl2⟩ := list_of len each
   refine ⟨l, ⟨some a, cap, by rw [hl1], by omega, by unfold maxLen at hcap; omega, fun hne => ?_⟩, fun x hx => ?_⟩
   · obtain ⟨b, o, spot⟩ := a
     obtain ⟨y, hy⟩ : ∃ y, l[0]? = some y := by
      cases l with
      | nil => exact absurd rfl hne
      | cons y _ => exact ⟨y, rfl⟩
     have hy0 : ∃ c, (encA y)[0]? = some c := ⟨(encA y)[0]'(by rw [hk]; exact hpos), List.getElem?_eq_getElem (by rw [hk]; exact hpos)⟩
     obtain ⟨c, hc0⟩ := hy0
     have hspot : spot = none := by simpa [Addr.add] using World.cell?_spot ((hl2 0 y hy).1 0 c hc0)
     subst hspot
     refine ⟨b, o, rfl, fun k x hx i u hu => ?_⟩
     have := (hl2 k x hx).1 i u hu
     rw [Addr.add_lit] at this
     rwa [← Nat.add_assoc] at this
   · obtain ⟨i, hi⟩ := List.getElem?_of_mem hx
     exact (hl2 i x hi).2
theorem cellsPut : Tryz.prog.cellsOf 70 = 23 := by kernel_rfl
set_option maxRecDepth 100000 in
theorem open_put {n : Nat} {cs : List Value} {x : DataW H × List MemPlace} (h : DataW.trod enc Tryz.prog W base spare held n 70 cs = some x) (hz : ∀ q ∈ x.1.weights Tryz.prog 70, q ≤ reachBytes) : ∃ y : PI, cs = inC1 y ∧ (y.c.ok ∧ ∃ n, ArgsIn W n (.slice y.p y.c.t.args.length y.cap) y.c.t.args) ∧ smallT y.c.t := by
 obtain ⟨y0, y1, m, hx, hl, h0, h1⟩ := trod_struct2 Tryz.underlying70 h
 rw [cellsPut] at hl
 match cs, hl with
 | c0 :: c1 :: r, hl =>
  have g0 : DataW.trod enc Tryz.prog W base spare held m 24 [c0, c1] = some y0 := by simpa [Tryz.cellsAddr] using h0
  obtain ⟨a, ea⟩ := open_ad g0
  have hr : r.length = 21 := by simpa using hl
  have g1 : DataW.trod enc Tryz.prog W base spare held m 51 r = some y1 := by
   have := h1
   simp only [Tryz.cellsContent, List.drop_succ_cons, List.drop_zero] at this
   rwa [List.take_of_length_le (by omega)] at this
  have hz1 : ∀ q ∈ y1.1.weights Tryz.prog 51, q ≤ reachBytes := fun q hq => hz q (by rw [hx]; simp [DataW.weights, Tryz.underlying70, DataW.weightsEach, hq])
  obtain ⟨c, p, cap, n, e, q1, q2, q3⟩ := open_content g1 hz1
  simp only [adC, List.cons.injEq, and_true] at ea
  obtain ⟨rfl, rfl⟩ := ea
  have e2 : r = (contV c p c.t.args.length cap).cells.toList := by rw [← e]; simp [Value.cells]
  refine ⟨⟨a, c, p, cap⟩, ?_, ⟨q2, n, q1⟩, q3⟩
  rw [e2]; rfl
theorem open_puts {n : Nat} {v : Value} {x : DataW H × List MemPlace} (h : DataW.trod enc Tryz.prog W base spare held n 22 [v] = some x) (hz : ∀ q ∈ x.1.weights Tryz.prog 22, q ≤ reachBytes) : ∃ l, PutsIn W v l ∧ ∀ x ∈ l, smallT x.c.t := by
 obtain ⟨l, h1, h2⟩ := open_listW (p := fun y : PI => (y.c.ok ∧ ∃ n, ArgsIn W n (.slice y.p y.c.t.args.length y.cap) y.c.t.args) ∧ smallT y.c.t) Tryz.underlying22 cellsPut (by omega) (fun _ => rfl) (fun m cs y h hz => open_put h hz) h hz
 exact ⟨l, ⟨h1, fun x hx => (h2 x hx).1⟩, fun x hx => (h2 x hx).2⟩
end
end Go.Proofs.YtdoeejhdenifpaaGreatDoor
