/- quadrillelaw17.GridContents' walk: what a copy has is its owner's (made by mkv22.py). -/
import Derived.Test.YtfpdleljhbkehaaGreatDoorV12
import Derived.Test.YtfpdleljhbkehaaGreatDoorV15
import Derived.Test.YtfpdleljhbkehaaGreatDoorB4
import Derived.Test.YtfpdleljhbkehaaGreatDoorB6
import Derived.Test.YtfpdleljhbkehaaGreatDoorW34
import Derived.Test.YtfpdleljhbkehaaGreatDoorB9
import Derived.Test.YtfpdleljhbkehaaGreatDoorD15
import Derived.Deep.Cut
import Derived.Deep.DeepCutAuto
import Derived.Deep.RegionHeld3
namespace Go.Proofs.YtfpdleljhbkehaaGreatDoor
open Go.RowKit Go.Sort

theorem row_xt {w w' : World} (hx : Xt w w') {b : Nat} {o : Obj} (h : w.heap[b]? = some o) : w'.heap[b]? = some o := (hx.block b (Array.getElem?_eq_some_iff.1 h).1).trans h
theorem row_ov {S : Nat → Prop} {w w' : World} (hw : OvW S w w') {b : Nat} {o : Obj} (h : w.heap[b]? = some o) (hn : ¬ S b) : w'.heap[b]? = some o := (hw.block b (Array.getElem?_eq_some_iff.1 h).1 hn).trans h
theorem row_lt {w : World} {b : Nat} {o : Obj} (h : w.heap[b]? = some o) : b < w.heap.size := (Array.getElem?_eq_some_iff.1 h).1
/-- Writing behind a bound leaves what lies ahead of it. -/
theorem OvW.below {S : Nat → Prop} {w w0 w' : World} (hx : Xt w w0) (hw : OvW S w0 w') (hS : ∀ b, S b → w.heap.size ≤ b) : Xt w w' :=
  ⟨hw.os.trans hx.os, hw.tape.trans hx.tape, hw.output.trans hx.output, Nat.le_trans hx.size hw.size, fun k hk => (hw.block k (Nat.lt_of_lt_of_le hk hx.size) (fun e => by have := hS k e; omega)).trans (hx.block k hk)⟩
theorem copyC_len (c : ContT) : (copyC c).t.args = copyL c.t.args ∧ (copyC c).t.args.length = c.t.args.length := by
  obtain ⟨k, v, t⟩ := c
  obtain ⟨kk, op, x, s, bb, f, r, q, args⟩ := t
  constructor
  · rfl
  · show (copyL args).length = args.length
    rw [copyL_map]; simp
/-- A grid's copy, its tree named by the copy itself. -/
theorem gcopyD (n : Nat) (c : ContT) (a : Option Addr) (cap : Nat) (w : World) (hsm : smallT c.t) (hin : ArgsIn w n (.slice a c.t.args.length cap) c.t.args) :
    Calls Tryz.prog 12 #[contV c a c.t.args.length cap] w fun e w' => ∃ a' k', e = .returned (contV (copyC c) a' (copyC c).t.args.length k') ∧ OwnIn (fun b => w.heap.size ≤ b) w' n (.slice a' (copyC c).t.args.length k') (copyC c).t.args ∧ Xt w w' := by
  refine (gcopyO_any n c a cap w hsm hin).mono ?_
  rintro e w' ⟨a', rfl, hA, hx⟩
  rw [(copyC_len c).1, ← copyC_len c |>.1, (copyC_len c).2]
  refine ⟨a', c.t.args.length, rfl, ?_, hx⟩
  rw [(copyC_len c).1]; exact hA
theorem dcopyD (n : Nat) (c : ContT) (a : Option Addr) (cap : Nat) (w : World) (hsm : smallT c.t) (hin : ArgsIn w n (.slice a c.t.args.length cap) c.t.args) :
    Calls Tryz.prog 13 #[contV c a c.t.args.length cap] w fun e w' => ∃ a' k', e = .returned (contV (copyC c) a' (copyC c).t.args.length k') ∧ OwnIn (fun b => w.heap.size ≤ b) w' n (.slice a' (copyC c).t.args.length k') (copyC c).t.args ∧ Xt w w' := by
  refine (gcopy17_any n c a cap w hsm hin).mono ?_
  rintro e w' ⟨a', k', rfl, hA, hx⟩
  rw [(copyC_len c).2]
  refine ⟨a', k', rfl, ?_, hx⟩
  rw [(copyC_len c).1]; exact hA
theorem small_copy {c : ContT} (h : smallT c.t) : (copyC c).t.args.length ≤ 1048576 ∧ smallL (copyC c).t.args := by
  obtain ⟨k, v, t⟩ := c
  have h2 := smallT_args h
  obtain ⟨kk, op, x, s, bb, f, r, q, args⟩ := t
  have key : ∀ l : List NodeT, smallL l → smallL (copyL l) := smallL_copy
  refine ⟨?_, key args h2.2⟩
  show (copyL args).length ≤ 1048576
  rw [copyL_map, List.length_map]; exact h2.1
theorem eqCB_refl (c : ContT) : eqCB c c = true := (eqCB_iff _ _).2 rfl
theorem justD (n : Nat) (d : ContT) (xa ya : Option Addr) (xk yk : Nat) (w : World) (hx : ArgsIn w n (.slice xa d.t.args.length xk) d.t.args) (hy : ArgsIn w n (.slice ya d.t.args.length yk) d.t.args) :
    Calls Tryz.prog 14 #[contV d xa d.t.args.length xk, contV d ya d.t.args.length yk] w fun e w' => e = .returned (.bool true) ∧ Xt w w' := by
  refine (just_any n d d xa ya xk yk w hx hy).mono ?_
  rintro e w' ⟨rfl, hg⟩
  exact ⟨by rw [eqCB_refl], hg.xt⟩
set_option maxRecDepth 100000 in
set_option maxHeartbeats 8000000 in
theorem gridContents_any (na : Nat) (a b : ContT) (aa ba : Option Addr) (ac bc : Nat) (w : World) (hT : Tabs w) (hoa : a.ok) (hob : b.ok) (hia : ArgsIn w na (.slice aa a.t.args.length ac) a.t.args) (hib : ArgsIn w na (.slice ba b.t.args.length bc) b.t.args) :
    Calls Tryz.prog 3 #[contV a aa a.t.args.length ac, contV b ba b.t.args.length bc] w fun e w' => e = .returned (.bool true) ∧ Xt w w' := by
  have HT := Lib.hid hT
  have HOA := Lib.hid hoa
  have HOB := Lib.hid hob
  have HIA := Lib.hid hia
  have HIB := Lib.hid hib
  obtain ⟨w0, hw0⟩ : ∃ w0, w.alloc (.cells #[.int .i64 a.kind, .int .i64 a.v.kind, .float .f64 a.v.x, .string a.v.s, .bool a.v.b, .int .i64 a.v.f, .int .i64 a.t.kind, .int .i64 a.t.op, .float .f64 a.t.x, .string a.t.s, .bool a.t.b, .int .i64 a.t.f, .int .i64 a.t.ref.a.1, .int .i64 a.t.ref.a.2, .bool a.t.ref.cf, .bool a.t.ref.rf, .int .i64 a.t.to.a.1, .int .i64 a.t.to.a.2, .bool a.t.to.cf, .bool a.t.to.rf, .slice aa a.t.args.length ac] 33) = w0 := ⟨_, rfl⟩
  have hs0 : w0.heap.size = w.heap.size + 1 := by rw [← hw0]; simp
  obtain ⟨w1, hw1⟩ : ∃ w1, w0.alloc (.cells #[.int .i64 b.kind, .int .i64 b.v.kind, .float .f64 b.v.x, .string b.v.s, .bool b.v.b, .int .i64 b.v.f, .int .i64 b.t.kind, .int .i64 b.t.op, .float .f64 b.t.x, .string b.t.s, .bool b.t.b, .int .i64 b.t.f, .int .i64 b.t.ref.a.1, .int .i64 b.t.ref.a.2, .bool b.t.ref.cf, .bool b.t.ref.rf, .int .i64 b.t.to.a.1, .int .i64 b.t.to.a.2, .bool b.t.to.cf, .bool b.t.to.rf, .slice ba b.t.args.length bc] 33) = w1 := ⟨_, rfl⟩
  have hx1 : Xt w w1 := by rw [← hw1, ← hw0]; exact ((Xt.refl w).alloc _).alloc _
  have HA : Hid (w1.heap[w.heap.size]? = some (.cells #[.int .i64 a.kind, .int .i64 a.v.kind, .float .f64 a.v.x, .string a.v.s, .bool a.v.b, .int .i64 a.v.f, .int .i64 a.t.kind, .int .i64 a.t.op, .float .f64 a.t.x, .string a.t.s, .bool a.t.b, .int .i64 a.t.f, .int .i64 a.t.ref.a.1, .int .i64 a.t.ref.a.2, .bool a.t.ref.cf, .bool a.t.ref.rf, .int .i64 a.t.to.a.1, .int .i64 a.t.to.a.2, .bool a.t.to.cf, .bool a.t.to.rf, .slice aa a.t.args.length ac] 33 (0, 0))) := by
    unfold Hid; rw [← hw1]; exact (Below.heap_alloc w0 _ _ (by omega)).trans (by rw [← hw0]; exact (MapKept.heap_alloc w _).1)
  have HB : Hid (w1.heap[w.heap.size + 1]? = some (.cells #[.int .i64 b.kind, .int .i64 b.v.kind, .float .f64 b.v.x, .string b.v.s, .bool b.v.b, .int .i64 b.v.f, .int .i64 b.t.kind, .int .i64 b.t.op, .float .f64 b.t.x, .string b.t.s, .bool b.t.b, .int .i64 b.t.f, .int .i64 b.t.ref.a.1, .int .i64 b.t.ref.a.2, .bool b.t.ref.cf, .bool b.t.ref.rf, .int .i64 b.t.to.a.1, .int .i64 b.t.to.a.2, .bool b.t.to.cf, .bool b.t.to.rf, .slice ba b.t.args.length bc] 33 (0, 0))) := by
    unfold Hid; rw [← hw1, ← hs0]; exact (MapKept.heap_alloc w0 _).1
  have HX1 := Lib.hid hx1
  clear hT hoa hob hia hib hx1
  go_enter Tryz.func3, Tryz.ntmps3
  go_wp2_with fail
  clear hw0 hw1 hs0
  refine (awake_any w1 (HT.out.xt HX1.out)).mono ?_
  rintro e w2 ⟨rfl, hx2⟩
  have HX2 := Lib.hid (HX1.out.trans hx2)
  have HA := Lib.hid (row_xt hx2 HA.out)
  have HB := Lib.hid (row_xt hx2 HB.out)
  clear hx2 HX1
  go_wp2_with (first | (refine wpList_load_row (P := Tryz.prog) rfl 33 _ rfl (w.heap.size) rfl 33 _ (0, 0) _ HA.out Tryz.underlying33 rfl (by kernel_rfl) ?_))
  refine (heavy_any na a aa ac w2 (HIA.out.xt HX2.out)).mono ?_
  rintro e w3 ⟨rfl, hg3⟩
  have HX3 := Lib.hid (HX2.out.trans hg3.xt)
  have HA := Lib.hid (row_xt hg3.xt HA.out)
  have HB := Lib.hid (row_xt hg3.xt HB.out)
  clear hg3 HX2
  cases hha : heavyB a
  rotate_left
  · go_wp2_with fail
    go_ret
    exact ⟨rfl, HX3.out⟩
  go_wp2_with (first | (refine BigFrame.wpList_want (by rfl) (fun K hK => wp_load_row 33 _ rfl (w.heap.size + 1) rfl 33 _ (0, 0) _ HB.out Tryz.underlying33 rfl (by kernel_rfl) (hK _ _ ?_)); clear hK K))
  refine (heavy_any na b ba bc w3 (HIB.out.xt HX3.out)).mono ?_
  rintro e w4 ⟨rfl, hg4⟩
  have HX4 := Lib.hid (HX3.out.trans hg4.xt)
  have HA := Lib.hid (row_xt hg4.xt HA.out)
  have HB := Lib.hid (row_xt hg4.xt HB.out)
  clear hg4 HX3
  cases hhb : heavyB b
  rotate_left
  · go_wp2_with fail
    go_ret
    exact ⟨rfl, HX4.out⟩
  have HSA : Hid (smallT a.t) := small_of_heavy hha
  have HSB : Hid (smallT b.t) := small_of_heavy hhb
  clear hha hhb
  go_upto_region 4 with fail
  go_cut [6] (fun s wx => s = .bool true ∧ Hid (Xt w4 wx))
  case first =>
    refine wp_region_held_drew (S := fun w' => Xt w4 w') (by kernel_rfl) (Xt.refl w4).drew (fun hHeld => ?_)
    refine wpAnyH_take (i := 0) (oi := _) (v := .agg #[.int .i64 a.kind, .int .i64 a.v.kind, .float .f64 a.v.x, .string a.v.s, .bool a.v.b, .int .i64 a.v.f, .int .i64 a.t.kind, .int .i64 a.t.op, .float .f64 a.t.x, .string a.t.s, .bool a.t.b, .int .i64 a.t.f, .int .i64 a.t.ref.a.1, .int .i64 a.t.ref.a.2, .bool a.t.ref.cf, .bool a.t.ref.rf, .int .i64 a.t.to.a.1, .int .i64 a.t.to.a.2, .bool a.t.to.cf, .bool a.t.to.rf, .slice aa a.t.args.length ac]) rfl (by kernel_rfl) (by kernel_rfl) (by kernel_rfl) (fun _ _ _ h => h) (Or.inl ⟨by rfl, ?_⟩) (by assumption) ?_
    · intro W hSw; exact exec_load_row 33 _ (by rfl) (w.heap.size) (by rfl) 33 _ (0, 0) _ (row_xt hSw HA.out) Tryz.underlying33 rfl (by kernel_rfl)
    try simp only [Act.put, List.getElem_toArray, List.getElem_cons_zero, List.setIfInBounds_toArray, List.set_cons_zero, List.set_cons_succ]
    refine wpAnyH_take (i := 2) (oi := _) (v := .agg #[.int .i64 a.kind, .int .i64 a.v.kind, .float .f64 a.v.x, .string a.v.s, .bool a.v.b, .int .i64 a.v.f, .int .i64 a.t.kind, .int .i64 a.t.op, .float .f64 a.t.x, .string a.t.s, .bool a.t.b, .int .i64 a.t.f, .int .i64 a.t.ref.a.1, .int .i64 a.t.ref.a.2, .bool a.t.ref.cf, .bool a.t.ref.rf, .int .i64 a.t.to.a.1, .int .i64 a.t.to.a.2, .bool a.t.to.cf, .bool a.t.to.rf, .slice aa a.t.args.length ac]) rfl (by kernel_rfl) (by kernel_rfl) (by kernel_rfl) (fun _ _ _ h => h) (Or.inl ⟨by rfl, ?_⟩) (by assumption) ?_
    · intro W hSw; exact exec_load_row 33 _ (by rfl) (w.heap.size) (by rfl) 33 _ (0, 0) _ (row_xt hSw HA.out) Tryz.underlying33 rfl (by kernel_rfl)
    try simp only [Act.put, List.getElem_toArray, List.getElem_cons_zero, List.getElem_cons_succ, List.setIfInBounds_toArray, List.set_cons_zero, List.set_cons_succ]
    refine wpAnyH_ready (rs := [1]) (by kernel_rfl) (by simp) ?_
    refine AllReadyH.cons (o := _) rfl (fun K hK => ?_) AllReadyH.nil
    go_simp
    refine (gvalid_any na a aa ac (w4.drew) HOA.out (HT.out.xt (HX4.out.trans (Xt.refl w4).drew)) (HIA.out.xt (HX4.out.trans (Xt.refl w4).drew))).mono ?_
    rintro e u1 ⟨rfl, hqu1⟩
    have HQ1 : Hid (Xt w4 u1) := Xt.trans (Xt.refl w4).drew hqu1
    refine hK.out _ _ HQ1.out (fun hHeld2 => ?_)
    clear hK K
    try simp only [Act.put, List.getElem_toArray, List.getElem_cons_zero, List.getElem_cons_succ, List.setIfInBounds_toArray, List.set_cons_zero, List.set_cons_succ]
    refine wpAnyH_ready (rs := [3]) (by kernel_rfl) (by simp) ?_
    refine AllReadyH.cons (o := _) rfl (fun K hK => ?_) AllReadyH.nil
    go_simp
    refine ((gvalid17_any na a aa ac (u1) HOA.out (HIA.out.xt (HX4.out.trans HQ1.out))).mono (fun _ _ h => (⟨h.1, h.2.xt⟩ : _ ∧ Xt _ _))).mono ?_
    rintro e u2 ⟨rfl, hqu2⟩
    have HQ : Hid (Xt w4 u2) := Xt.trans HQ1.out hqu2
    refine hK.out _ _ HQ.out (fun hHeld2 => ?_)
    clear hK K
    try simp only [Act.put, List.getElem_toArray, List.getElem_cons_zero, List.getElem_cons_succ, List.setIfInBounds_toArray, List.set_cons_zero, List.set_cons_succ]
    refine wpAnyH_ready (rs := [4]) (by kernel_rfl) (by simp) ?_
    refine AllReadyH.cons (o := _) rfl (fun K hK => ?_) AllReadyH.nil
    go_simp
    refine hK.out _ _ HQ.out (fun hHeld3 => ?_)
    clear hK K
    try simp only [Act.put, List.getElem_toArray, List.getElem_cons_zero, List.getElem_cons_succ, List.setIfInBounds_toArray, List.set_cons_zero, List.set_cons_succ]
    refine wpAnyH_ready (rs := [5]) (by kernel_rfl) (by simp) ?_
    refine AllReadyH.cons (o := _) rfl (fun K hK => ?_) AllReadyH.nil
    go_simp
    refine hK.out _ _ HQ.out (fun hHeld4 => ?_)
    clear hK K
    try simp only [Act.put, List.getElem_toArray, List.getElem_cons_zero, List.getElem_cons_succ, List.setIfInBounds_toArray, List.set_cons_zero, List.set_cons_succ]
    refine wpAnyH_done (by kernel_rfl) ?_ _
    go_wp2_with fail
    go_meet
    exact ⟨by simp, HQ.out⟩
  obtain ⟨rfl, HQ⟩ := hcut
  have HX5 := Lib.hid (HX4.out.trans HQ.out)
  have HA := Lib.hid (row_xt HQ.out HA.out)
  have HB := Lib.hid (row_xt HQ.out HB.out)
  clear HQ
  obtain ⟨w5, hw5⟩ : ∃ w, w = wc := ⟨_, rfl⟩
  subst hw5
  go_upto_region 5 with fail
  go_cut [7] (fun s wx => s = .bool true ∧ Hid (Xt w5 wx))
  case first =>
    refine wp_region_held_drew (S := fun w' => Xt w5 w') (by kernel_rfl) (Xt.refl w5).drew (fun hHeld => ?_)
    refine wpAnyH_take (i := 0) (oi := _) (v := .agg #[.int .i64 a.kind, .int .i64 a.v.kind, .float .f64 a.v.x, .string a.v.s, .bool a.v.b, .int .i64 a.v.f, .int .i64 a.t.kind, .int .i64 a.t.op, .float .f64 a.t.x, .string a.t.s, .bool a.t.b, .int .i64 a.t.f, .int .i64 a.t.ref.a.1, .int .i64 a.t.ref.a.2, .bool a.t.ref.cf, .bool a.t.ref.rf, .int .i64 a.t.to.a.1, .int .i64 a.t.to.a.2, .bool a.t.to.cf, .bool a.t.to.rf, .slice aa a.t.args.length ac]) rfl (by kernel_rfl) (by kernel_rfl) (by kernel_rfl) (fun _ _ _ h => h) (Or.inl ⟨by rfl, ?_⟩) (by assumption) ?_
    · intro W hSw; exact exec_load_row 33 _ (by rfl) (w.heap.size) (by rfl) 33 _ (0, 0) _ (row_xt hSw HA.out) Tryz.underlying33 rfl (by kernel_rfl)
    try simp only [Act.put, List.getElem_toArray, List.getElem_cons_zero, List.setIfInBounds_toArray, List.set_cons_zero, List.set_cons_succ]
    refine wpAnyH_take (i := 1) (oi := _) (v := .agg #[.int .i64 b.kind, .int .i64 b.v.kind, .float .f64 b.v.x, .string b.v.s, .bool b.v.b, .int .i64 b.v.f, .int .i64 b.t.kind, .int .i64 b.t.op, .float .f64 b.t.x, .string b.t.s, .bool b.t.b, .int .i64 b.t.f, .int .i64 b.t.ref.a.1, .int .i64 b.t.ref.a.2, .bool b.t.ref.cf, .bool b.t.ref.rf, .int .i64 b.t.to.a.1, .int .i64 b.t.to.a.2, .bool b.t.to.cf, .bool b.t.to.rf, .slice ba b.t.args.length bc]) rfl (by kernel_rfl) (by kernel_rfl) (by kernel_rfl) (fun _ _ _ h => h) (Or.inl ⟨by rfl, ?_⟩) (by assumption) ?_
    · intro W hSw; exact exec_load_row 33 _ (by rfl) (w.heap.size + 1) (by rfl) 33 _ (0, 0) _ (row_xt hSw HB.out) Tryz.underlying33 rfl (by kernel_rfl)
    try simp only [Act.put, List.getElem_toArray, List.getElem_cons_zero, List.getElem_cons_succ, List.setIfInBounds_toArray, List.set_cons_zero, List.set_cons_succ]
    refine wpAnyH_take (i := 3) (oi := _) (v := .agg #[.int .i64 a.kind, .int .i64 a.v.kind, .float .f64 a.v.x, .string a.v.s, .bool a.v.b, .int .i64 a.v.f, .int .i64 a.t.kind, .int .i64 a.t.op, .float .f64 a.t.x, .string a.t.s, .bool a.t.b, .int .i64 a.t.f, .int .i64 a.t.ref.a.1, .int .i64 a.t.ref.a.2, .bool a.t.ref.cf, .bool a.t.ref.rf, .int .i64 a.t.to.a.1, .int .i64 a.t.to.a.2, .bool a.t.to.cf, .bool a.t.to.rf, .slice aa a.t.args.length ac]) rfl (by kernel_rfl) (by kernel_rfl) (by kernel_rfl) (fun _ _ _ h => h) (Or.inl ⟨by rfl, ?_⟩) (by assumption) ?_
    · intro W hSw; exact exec_load_row 33 _ (by rfl) (w.heap.size) (by rfl) 33 _ (0, 0) _ (row_xt hSw HA.out) Tryz.underlying33 rfl (by kernel_rfl)
    try simp only [Act.put, List.getElem_toArray, List.getElem_cons_zero, List.getElem_cons_succ, List.setIfInBounds_toArray, List.set_cons_zero, List.set_cons_succ]
    refine wpAnyH_take (i := 4) (oi := _) (v := .agg #[.int .i64 b.kind, .int .i64 b.v.kind, .float .f64 b.v.x, .string b.v.s, .bool b.v.b, .int .i64 b.v.f, .int .i64 b.t.kind, .int .i64 b.t.op, .float .f64 b.t.x, .string b.t.s, .bool b.t.b, .int .i64 b.t.f, .int .i64 b.t.ref.a.1, .int .i64 b.t.ref.a.2, .bool b.t.ref.cf, .bool b.t.ref.rf, .int .i64 b.t.to.a.1, .int .i64 b.t.to.a.2, .bool b.t.to.cf, .bool b.t.to.rf, .slice ba b.t.args.length bc]) rfl (by kernel_rfl) (by kernel_rfl) (by kernel_rfl) (fun _ _ _ h => h) (Or.inl ⟨by rfl, ?_⟩) (by assumption) ?_
    · intro W hSw; exact exec_load_row 33 _ (by rfl) (w.heap.size + 1) (by rfl) 33 _ (0, 0) _ (row_xt hSw HB.out) Tryz.underlying33 rfl (by kernel_rfl)
    try simp only [Act.put, List.getElem_toArray, List.getElem_cons_zero, List.getElem_cons_succ, List.setIfInBounds_toArray, List.set_cons_zero, List.set_cons_succ]
    refine wpAnyH_ready (rs := [2]) (by kernel_rfl) (by simp) ?_
    refine AllReadyH.cons (o := _) rfl (fun K hK => ?_) AllReadyH.nil
    go_simp
    refine ((gsame_any na a b aa ba ac bc (w5.drew) (HIA.out.xt (HX5.out.trans (Xt.refl w5).drew)) (HIB.out.xt (HX5.out.trans (Xt.refl w5).drew))).mono (fun _ _ h => (⟨h.1, h.2.xt⟩ : _ ∧ Xt _ _))).mono ?_
    rintro e u1 ⟨rfl, hqu1⟩
    have HQ1 : Hid (Xt w5 u1) := Xt.trans (Xt.refl w5).drew hqu1
    refine hK.out _ _ HQ1.out (fun hHeld2 => ?_)
    clear hK K
    try simp only [Act.put, List.getElem_toArray, List.getElem_cons_zero, List.getElem_cons_succ, List.setIfInBounds_toArray, List.set_cons_zero, List.set_cons_succ]
    refine wpAnyH_ready (rs := [5]) (by kernel_rfl) (by simp) ?_
    refine AllReadyH.cons (o := _) rfl (fun K hK => ?_) AllReadyH.nil
    go_simp
    refine ((same17_any na a b aa ba ac bc (u1) HOA.out HOB.out (HIA.out.xt (HX5.out.trans HQ1.out)) (HIB.out.xt (HX5.out.trans HQ1.out))).mono (fun _ _ h => (⟨h.1, h.2.xt⟩ : _ ∧ Xt _ _))).mono ?_
    rintro e u2 ⟨rfl, hqu2⟩
    have HQ : Hid (Xt w5 u2) := Xt.trans HQ1.out hqu2
    refine hK.out _ _ HQ.out (fun hHeld2 => ?_)
    clear hK K
    try simp only [Act.put, List.getElem_toArray, List.getElem_cons_zero, List.getElem_cons_succ, List.setIfInBounds_toArray, List.set_cons_zero, List.set_cons_succ]
    refine wpAnyH_ready (rs := [6]) (by kernel_rfl) (by simp) ?_
    refine AllReadyH.cons (o := _) rfl (fun K hK => ?_) AllReadyH.nil
    go_simp
    refine hK.out _ _ HQ.out (fun hHeld3 => ?_)
    clear hK K
    try simp only [Act.put, List.getElem_toArray, List.getElem_cons_zero, List.getElem_cons_succ, List.setIfInBounds_toArray, List.set_cons_zero, List.set_cons_succ]
    refine wpAnyH_ready (rs := [7]) (by kernel_rfl) (by simp) ?_
    refine AllReadyH.cons (o := _) rfl (fun K hK => ?_) AllReadyH.nil
    go_simp
    refine hK.out _ _ HQ.out (fun hHeld4 => ?_)
    clear hK K
    try simp only [Act.put, List.getElem_toArray, List.getElem_cons_zero, List.getElem_cons_succ, List.setIfInBounds_toArray, List.set_cons_zero, List.set_cons_succ]
    refine wpAnyH_done (by kernel_rfl) ?_ _
    go_wp2_with fail
    go_meet
    exact ⟨by simp, HQ.out⟩
  obtain ⟨rfl, HQ⟩ := hcut
  have HX6 := Lib.hid (HX5.out.trans HQ.out)
  have HA := Lib.hid (row_xt HQ.out HA.out)
  have HB := Lib.hid (row_xt HQ.out HB.out)
  clear HQ
  obtain ⟨w6, hw6⟩ : ∃ w, w = wc := ⟨_, rfl⟩
  subst hw6
  have HSB6 : Hid (w.heap.size + 1 < w6.heap.size) := row_lt HB.out
  obtain ⟨d, hd⟩ : ∃ d, copyC a = d := ⟨_, rfl⟩
  have HCP : Hid (∀ (oa : Option Addr) (ok : Nat) (W : World), ArgsIn W na (.slice oa a.t.args.length ok) a.t.args → Calls Tryz.prog 12 #[contV a oa a.t.args.length ok] W fun e w' => ∃ a' k', e = .returned (contV d a' d.t.args.length k') ∧ OwnIn (fun b => W.heap.size ≤ b) w' na (.slice a' d.t.args.length k') d.t.args ∧ Xt W w') := by
    unfold Hid; intro oa ok W h; rw [← hd]; exact gcopyD na a oa ok W HSA.out h
  have HDP : Hid (∀ (oa : Option Addr) (ok : Nat) (W : World), ArgsIn W na (.slice oa a.t.args.length ok) a.t.args → Calls Tryz.prog 13 #[contV a oa a.t.args.length ok] W fun e w' => ∃ a' k', e = .returned (contV d a' d.t.args.length k') ∧ OwnIn (fun b => W.heap.size ≤ b) w' na (.slice a' d.t.args.length k') d.t.args ∧ Xt W w') := by
    unfold Hid; intro oa ok W h; rw [← hd]; exact dcopyD na a oa ok W HSA.out h
  have HSD : Hid (d.t.args.length ≤ 1048576 ∧ smallL d.t.args) := by unfold Hid; rw [← hd]; exact small_copy HSA.out
  clear hd
  go_upto_region 6 with fail
  go_wp2_with (first | (refine wpList_load_row (P := Tryz.prog) rfl 33 _ rfl (w.heap.size) rfl 33 _ (0, 0) _ HA.out Tryz.underlying33 rfl (by kernel_rfl) ?_))
  refine (gown_any na a aa ac w6 HSA.out (HIA.out.xt HX6.out)).mono ?_
  rintro e w7a ⟨oa, ok, rfl, hin7, hx7⟩
  obtain ⟨O, hO⟩ : ∃ X, w7a.heap.size = X := ⟨_, rfl⟩
  obtain ⟨w7b, hw7b⟩ : ∃ W, w7a.alloc (.cells #[.int .i64 0, .int .i64 0, .float .f64 0, .string ⟨#[]⟩, .bool false, .int .i64 0, .int .i64 0, .int .i64 0, .float .f64 0, .string ⟨#[]⟩, .bool false, .int .i64 0, .int .i64 0, .int .i64 0, .bool false, .bool false, .int .i64 0, .int .i64 0, .bool false, .bool false, .slice none 0 0] 33) = W := ⟨_, rfl⟩
  have hr2 : w7b.heap[O]? = some (.cells #[.int .i64 0, .int .i64 0, .float .f64 0, .string ⟨#[]⟩, .bool false, .int .i64 0, .int .i64 0, .int .i64 0, .float .f64 0, .string ⟨#[]⟩, .bool false, .int .i64 0, .int .i64 0, .int .i64 0, .bool false, .bool false, .int .i64 0, .int .i64 0, .bool false, .bool false, .slice none 0 0] 33 (0, 0)) := by rw [← hw7b, ← hO]; exact (MapKept.heap_alloc w7a _).1
  obtain ⟨w7, hw7⟩ : ∃ W, w7b.setRow O #[.int .i64 a.kind, .int .i64 a.v.kind, .float .f64 a.v.x, .string a.v.s, .bool a.v.b, .int .i64 a.v.f, .int .i64 a.t.kind, .int .i64 a.t.op, .float .f64 a.t.x, .string a.t.s, .bool a.t.b, .int .i64 a.t.f, .int .i64 a.t.ref.a.1, .int .i64 a.t.ref.a.2, .bool a.t.ref.cf, .bool a.t.ref.rf, .int .i64 a.t.to.a.1, .int .i64 a.t.to.a.2, .bool a.t.to.cf, .bool a.t.to.rf, .slice oa a.t.args.length ok] = W := ⟨_, rfl⟩
  have hg : w7b.grownBy w7 (some O) := by rw [← hw7]; exact setRow_grown _ _ _
  have HO : Hid (w7.heap[O]? = some (.cells #[.int .i64 a.kind, .int .i64 a.v.kind, .float .f64 a.v.x, .string a.v.s, .bool a.v.b, .int .i64 a.v.f, .int .i64 a.t.kind, .int .i64 a.t.op, .float .f64 a.t.x, .string a.t.s, .bool a.t.b, .int .i64 a.t.f, .int .i64 a.t.ref.a.1, .int .i64 a.t.ref.a.2, .bool a.t.ref.cf, .bool a.t.ref.rf, .int .i64 a.t.to.a.1, .int .i64 a.t.to.a.2, .bool a.t.to.cf, .bool a.t.to.rf, .slice oa a.t.args.length ok] 33 (0, 0))) := by unfold Hid; rw [← hw7]; exact setRow_heap w7b _ _ _ _ _ hr2
  have hxb : Xt w7a w7 := by
    have h0 : Xt w7a w7b := by rw [← hw7b]; exact (Xt.refl _).alloc _
    exact h0.grownB hg (fun m hm => by cases hm; omega)
  have hxs : Xt w6 w7 := hx7.trans hxb
  have HR2 := Lib.hid hr2
  have HW7 := Lib.hid hw7
  have HXB := Lib.hid hxb
  have HXS := Lib.hid hxs
  have HIN7 := Lib.hid hin7
  have HXC7 := Lib.hid hx7
  have HBK7 := Lib.hid hO
  have HL7 : Hid (w7a.heap.size < w7.heap.size) := by unfold Hid; rw [hO]; exact row_lt HO.out
  dsimp only
  refine ‹∀ (a : Act) (w : World), _ → _› _ _ ?_
  refine wpList_step (fun K hK => ?_)
  go_simp
  refine hK _ _ ?_
  clear hK K
  try rw [hO]
  try rw [hw7b]
  refine wpList_store_row (P := Tryz.prog) rfl 33 _ _ rfl (O) #[.int .i64 a.kind, .int .i64 a.v.kind, .float .f64 a.v.x, .string a.v.s, .bool a.v.b, .int .i64 a.v.f, .int .i64 a.t.kind, .int .i64 a.t.op, .float .f64 a.t.x, .string a.t.s, .bool a.t.b, .int .i64 a.t.f, .int .i64 a.t.ref.a.1, .int .i64 a.t.ref.a.2, .bool a.t.ref.cf, .bool a.t.ref.rf, .int .i64 a.t.to.a.1, .int .i64 a.t.to.a.2, .bool a.t.to.cf, .bool a.t.to.rf, .slice oa a.t.args.length ok] rfl rfl 33 _ HR2.out (by kernel_rfl) rfl (by simp [Value.oneCell']) ?_
  rw [HW7.out]
  have HX7 := Lib.hid (HX6.out.trans HXS.out)
  have HXB7 := HXB
  have HA := Lib.hid (row_xt HXS.out HA.out)
  have HB := Lib.hid (row_xt HXS.out HB.out)
  clear hr2 hg hxb hxs hin7 hx7 hw7b hw7 hO HR2 HXS HXB
  have HXO := HXB7
  go_wp2_with (first | (refine wpList_load_row (P := Tryz.prog) rfl 33 _ rfl (O) rfl 33 _ (0, 0) _ HO.out Tryz.underlying33 rfl (by kernel_rfl) ?_))
  refine (HCP.out oa ok w7 (HIN7.out.args.xt HXO.out)).mono ?_
  rintro e w8a ⟨xa, xk, rfl, hin8, hx8⟩
  obtain ⟨X, hX⟩ : ∃ X, w8a.heap.size = X := ⟨_, rfl⟩
  obtain ⟨w8b, hw8b⟩ : ∃ W, w8a.alloc (.cells #[.int .i64 0, .int .i64 0, .float .f64 0, .string ⟨#[]⟩, .bool false, .int .i64 0, .int .i64 0, .int .i64 0, .float .f64 0, .string ⟨#[]⟩, .bool false, .int .i64 0, .int .i64 0, .int .i64 0, .bool false, .bool false, .int .i64 0, .int .i64 0, .bool false, .bool false, .slice none 0 0] 33) = W := ⟨_, rfl⟩
  have hr2 : w8b.heap[X]? = some (.cells #[.int .i64 0, .int .i64 0, .float .f64 0, .string ⟨#[]⟩, .bool false, .int .i64 0, .int .i64 0, .int .i64 0, .float .f64 0, .string ⟨#[]⟩, .bool false, .int .i64 0, .int .i64 0, .int .i64 0, .bool false, .bool false, .int .i64 0, .int .i64 0, .bool false, .bool false, .slice none 0 0] 33 (0, 0)) := by rw [← hw8b, ← hX]; exact (MapKept.heap_alloc w8a _).1
  obtain ⟨w8, hw8⟩ : ∃ W, w8b.setRow X #[.int .i64 d.kind, .int .i64 d.v.kind, .float .f64 d.v.x, .string d.v.s, .bool d.v.b, .int .i64 d.v.f, .int .i64 d.t.kind, .int .i64 d.t.op, .float .f64 d.t.x, .string d.t.s, .bool d.t.b, .int .i64 d.t.f, .int .i64 d.t.ref.a.1, .int .i64 d.t.ref.a.2, .bool d.t.ref.cf, .bool d.t.ref.rf, .int .i64 d.t.to.a.1, .int .i64 d.t.to.a.2, .bool d.t.to.cf, .bool d.t.to.rf, .slice xa d.t.args.length xk] = W := ⟨_, rfl⟩
  have hg : w8b.grownBy w8 (some X) := by rw [← hw8]; exact setRow_grown _ _ _
  have HX : Hid (w8.heap[X]? = some (.cells #[.int .i64 d.kind, .int .i64 d.v.kind, .float .f64 d.v.x, .string d.v.s, .bool d.v.b, .int .i64 d.v.f, .int .i64 d.t.kind, .int .i64 d.t.op, .float .f64 d.t.x, .string d.t.s, .bool d.t.b, .int .i64 d.t.f, .int .i64 d.t.ref.a.1, .int .i64 d.t.ref.a.2, .bool d.t.ref.cf, .bool d.t.ref.rf, .int .i64 d.t.to.a.1, .int .i64 d.t.to.a.2, .bool d.t.to.cf, .bool d.t.to.rf, .slice xa d.t.args.length xk] 33 (0, 0))) := by unfold Hid; rw [← hw8]; exact setRow_heap w8b _ _ _ _ _ hr2
  have hxb : Xt w8a w8 := by
    have h0 : Xt w8a w8b := by rw [← hw8b]; exact (Xt.refl _).alloc _
    exact h0.grownB hg (fun m hm => by cases hm; omega)
  have hxs : Xt w7 w8 := hx8.trans hxb
  have HR2 := Lib.hid hr2
  have HW8 := Lib.hid hw8
  have HXB := Lib.hid hxb
  have HXS := Lib.hid hxs
  have HIN8 := Lib.hid hin8
  have HXC8 := Lib.hid hx8
  have HBK8 := Lib.hid hX
  have HL8 : Hid (w8a.heap.size < w8.heap.size) := by unfold Hid; rw [hX]; exact row_lt HX.out
  dsimp only
  refine ‹∀ (a : Act) (w : World), _ → _› _ _ ?_
  refine wpList_step (fun K hK => ?_)
  go_simp
  refine hK _ _ ?_
  clear hK K
  try rw [hX]
  try rw [hw8b]
  refine wpList_store_row (P := Tryz.prog) rfl 33 _ _ rfl (X) #[.int .i64 d.kind, .int .i64 d.v.kind, .float .f64 d.v.x, .string d.v.s, .bool d.v.b, .int .i64 d.v.f, .int .i64 d.t.kind, .int .i64 d.t.op, .float .f64 d.t.x, .string d.t.s, .bool d.t.b, .int .i64 d.t.f, .int .i64 d.t.ref.a.1, .int .i64 d.t.ref.a.2, .bool d.t.ref.cf, .bool d.t.ref.rf, .int .i64 d.t.to.a.1, .int .i64 d.t.to.a.2, .bool d.t.to.cf, .bool d.t.to.rf, .slice xa d.t.args.length xk] rfl rfl 33 _ HR2.out (by kernel_rfl) rfl (by simp [Value.oneCell']) ?_
  rw [HW8.out]
  have HX8 := Lib.hid (HX7.out.trans HXS.out)
  have HXB8 := HXB
  have HXO := Lib.hid (HXO.out.trans HXS.out)
  have HA := Lib.hid (row_xt HXS.out HA.out)
  have HB := Lib.hid (row_xt HXS.out HB.out)
  have HO := Lib.hid (row_xt HXS.out HO.out)
  clear hr2 hg hxb hxs hin8 hx8 hw8b hw8 hX HR2 HXS HXB
  have HXX := HXB8
  go_wp2_with (first | (refine wpList_load_row (P := Tryz.prog) rfl 33 _ rfl (O) rfl 33 _ (0, 0) _ HO.out Tryz.underlying33 rfl (by kernel_rfl) ?_))
  refine (HCP.out oa ok w8 (HIN7.out.args.xt HXO.out)).mono ?_
  rintro e w9a ⟨ya, yk, rfl, hin9, hx9⟩
  obtain ⟨Y, hY⟩ : ∃ X, w9a.heap.size = X := ⟨_, rfl⟩
  obtain ⟨w9b, hw9b⟩ : ∃ W, w9a.alloc (.cells #[.int .i64 0, .int .i64 0, .float .f64 0, .string ⟨#[]⟩, .bool false, .int .i64 0, .int .i64 0, .int .i64 0, .float .f64 0, .string ⟨#[]⟩, .bool false, .int .i64 0, .int .i64 0, .int .i64 0, .bool false, .bool false, .int .i64 0, .int .i64 0, .bool false, .bool false, .slice none 0 0] 33) = W := ⟨_, rfl⟩
  have hr2 : w9b.heap[Y]? = some (.cells #[.int .i64 0, .int .i64 0, .float .f64 0, .string ⟨#[]⟩, .bool false, .int .i64 0, .int .i64 0, .int .i64 0, .float .f64 0, .string ⟨#[]⟩, .bool false, .int .i64 0, .int .i64 0, .int .i64 0, .bool false, .bool false, .int .i64 0, .int .i64 0, .bool false, .bool false, .slice none 0 0] 33 (0, 0)) := by rw [← hw9b, ← hY]; exact (MapKept.heap_alloc w9a _).1
  obtain ⟨w9, hw9⟩ : ∃ W, w9b.setRow Y #[.int .i64 d.kind, .int .i64 d.v.kind, .float .f64 d.v.x, .string d.v.s, .bool d.v.b, .int .i64 d.v.f, .int .i64 d.t.kind, .int .i64 d.t.op, .float .f64 d.t.x, .string d.t.s, .bool d.t.b, .int .i64 d.t.f, .int .i64 d.t.ref.a.1, .int .i64 d.t.ref.a.2, .bool d.t.ref.cf, .bool d.t.ref.rf, .int .i64 d.t.to.a.1, .int .i64 d.t.to.a.2, .bool d.t.to.cf, .bool d.t.to.rf, .slice ya d.t.args.length yk] = W := ⟨_, rfl⟩
  have hg : w9b.grownBy w9 (some Y) := by rw [← hw9]; exact setRow_grown _ _ _
  have HY : Hid (w9.heap[Y]? = some (.cells #[.int .i64 d.kind, .int .i64 d.v.kind, .float .f64 d.v.x, .string d.v.s, .bool d.v.b, .int .i64 d.v.f, .int .i64 d.t.kind, .int .i64 d.t.op, .float .f64 d.t.x, .string d.t.s, .bool d.t.b, .int .i64 d.t.f, .int .i64 d.t.ref.a.1, .int .i64 d.t.ref.a.2, .bool d.t.ref.cf, .bool d.t.ref.rf, .int .i64 d.t.to.a.1, .int .i64 d.t.to.a.2, .bool d.t.to.cf, .bool d.t.to.rf, .slice ya d.t.args.length yk] 33 (0, 0))) := by unfold Hid; rw [← hw9]; exact setRow_heap w9b _ _ _ _ _ hr2
  have hxb : Xt w9a w9 := by
    have h0 : Xt w9a w9b := by rw [← hw9b]; exact (Xt.refl _).alloc _
    exact h0.grownB hg (fun m hm => by cases hm; omega)
  have hxs : Xt w8 w9 := hx9.trans hxb
  have HR2 := Lib.hid hr2
  have HW9 := Lib.hid hw9
  have HXB := Lib.hid hxb
  have HXS := Lib.hid hxs
  have HIN9 := Lib.hid hin9
  have HXC9 := Lib.hid hx9
  have HBK9 := Lib.hid hY
  have HL9 : Hid (w9a.heap.size < w9.heap.size) := by unfold Hid; rw [hY]; exact row_lt HY.out
  dsimp only
  refine ‹∀ (a : Act) (w : World), _ → _› _ _ ?_
  refine wpList_step (fun K hK => ?_)
  go_simp
  refine hK _ _ ?_
  clear hK K
  try rw [hY]
  try rw [hw9b]
  refine wpList_store_row (P := Tryz.prog) rfl 33 _ _ rfl (Y) #[.int .i64 d.kind, .int .i64 d.v.kind, .float .f64 d.v.x, .string d.v.s, .bool d.v.b, .int .i64 d.v.f, .int .i64 d.t.kind, .int .i64 d.t.op, .float .f64 d.t.x, .string d.t.s, .bool d.t.b, .int .i64 d.t.f, .int .i64 d.t.ref.a.1, .int .i64 d.t.ref.a.2, .bool d.t.ref.cf, .bool d.t.ref.rf, .int .i64 d.t.to.a.1, .int .i64 d.t.to.a.2, .bool d.t.to.cf, .bool d.t.to.rf, .slice ya d.t.args.length yk] rfl rfl 33 _ HR2.out (by kernel_rfl) rfl (by simp [Value.oneCell']) ?_
  rw [HW9.out]
  have HX9 := Lib.hid (HX8.out.trans HXS.out)
  have HXB9 := HXB
  have HXO := Lib.hid (HXO.out.trans HXS.out)
  have HXX := Lib.hid (HXX.out.trans HXS.out)
  have HA := Lib.hid (row_xt HXS.out HA.out)
  have HB := Lib.hid (row_xt HXS.out HB.out)
  have HO := Lib.hid (row_xt HXS.out HO.out)
  have HX := Lib.hid (row_xt HXS.out HX.out)
  clear hr2 hg hxb hxs hin9 hx9 hw9b hw9 hY HR2 HXS HXB
  have HXY := HXB9
  go_wp2_with (first | (refine wpList_load_row (P := Tryz.prog) rfl 33 _ rfl (w.heap.size) rfl 33 _ (0, 0) _ HA.out Tryz.underlying33 rfl (by kernel_rfl) ?_))
  refine (HDP.out aa ac w9 (HIA.out.xt HX9.out)).mono ?_
  rintro e w10a ⟨za, zk, rfl, hin10, hx10⟩
  obtain ⟨Wt, hWt⟩ : ∃ X, w10a.heap.size = X := ⟨_, rfl⟩
  obtain ⟨w10b, hw10b⟩ : ∃ W, w10a.alloc (.cells #[.int .i64 0, .int .i64 0, .float .f64 0, .string ⟨#[]⟩, .bool false, .int .i64 0, .int .i64 0, .int .i64 0, .float .f64 0, .string ⟨#[]⟩, .bool false, .int .i64 0, .int .i64 0, .int .i64 0, .bool false, .bool false, .int .i64 0, .int .i64 0, .bool false, .bool false, .slice none 0 0] 33) = W := ⟨_, rfl⟩
  have hr2 : w10b.heap[Wt]? = some (.cells #[.int .i64 0, .int .i64 0, .float .f64 0, .string ⟨#[]⟩, .bool false, .int .i64 0, .int .i64 0, .int .i64 0, .float .f64 0, .string ⟨#[]⟩, .bool false, .int .i64 0, .int .i64 0, .int .i64 0, .bool false, .bool false, .int .i64 0, .int .i64 0, .bool false, .bool false, .slice none 0 0] 33 (0, 0)) := by rw [← hw10b, ← hWt]; exact (MapKept.heap_alloc w10a _).1
  obtain ⟨w10, hw10⟩ : ∃ W, w10b.setRow Wt #[.int .i64 d.kind, .int .i64 d.v.kind, .float .f64 d.v.x, .string d.v.s, .bool d.v.b, .int .i64 d.v.f, .int .i64 d.t.kind, .int .i64 d.t.op, .float .f64 d.t.x, .string d.t.s, .bool d.t.b, .int .i64 d.t.f, .int .i64 d.t.ref.a.1, .int .i64 d.t.ref.a.2, .bool d.t.ref.cf, .bool d.t.ref.rf, .int .i64 d.t.to.a.1, .int .i64 d.t.to.a.2, .bool d.t.to.cf, .bool d.t.to.rf, .slice za d.t.args.length zk] = W := ⟨_, rfl⟩
  have hg : w10b.grownBy w10 (some Wt) := by rw [← hw10]; exact setRow_grown _ _ _
  have HZ : Hid (w10.heap[Wt]? = some (.cells #[.int .i64 d.kind, .int .i64 d.v.kind, .float .f64 d.v.x, .string d.v.s, .bool d.v.b, .int .i64 d.v.f, .int .i64 d.t.kind, .int .i64 d.t.op, .float .f64 d.t.x, .string d.t.s, .bool d.t.b, .int .i64 d.t.f, .int .i64 d.t.ref.a.1, .int .i64 d.t.ref.a.2, .bool d.t.ref.cf, .bool d.t.ref.rf, .int .i64 d.t.to.a.1, .int .i64 d.t.to.a.2, .bool d.t.to.cf, .bool d.t.to.rf, .slice za d.t.args.length zk] 33 (0, 0))) := by unfold Hid; rw [← hw10]; exact setRow_heap w10b _ _ _ _ _ hr2
  have hxb : Xt w10a w10 := by
    have h0 : Xt w10a w10b := by rw [← hw10b]; exact (Xt.refl _).alloc _
    exact h0.grownB hg (fun m hm => by cases hm; omega)
  have hxs : Xt w9 w10 := hx10.trans hxb
  have HR2 := Lib.hid hr2
  have HW10 := Lib.hid hw10
  have HXB := Lib.hid hxb
  have HXS := Lib.hid hxs
  have HIN10 := Lib.hid hin10
  have HXC10 := Lib.hid hx10
  have HBK10 := Lib.hid hWt
  have HL10 : Hid (w10a.heap.size < w10.heap.size) := by unfold Hid; rw [hWt]; exact row_lt HZ.out
  dsimp only
  refine ‹∀ (a : Act) (w : World), _ → _› _ _ ?_
  refine wpList_step (fun K hK => ?_)
  go_simp
  refine hK _ _ ?_
  clear hK K
  try rw [hWt]
  try rw [hw10b]
  refine wpList_store_row (P := Tryz.prog) rfl 33 _ _ rfl (Wt) #[.int .i64 d.kind, .int .i64 d.v.kind, .float .f64 d.v.x, .string d.v.s, .bool d.v.b, .int .i64 d.v.f, .int .i64 d.t.kind, .int .i64 d.t.op, .float .f64 d.t.x, .string d.t.s, .bool d.t.b, .int .i64 d.t.f, .int .i64 d.t.ref.a.1, .int .i64 d.t.ref.a.2, .bool d.t.ref.cf, .bool d.t.ref.rf, .int .i64 d.t.to.a.1, .int .i64 d.t.to.a.2, .bool d.t.to.cf, .bool d.t.to.rf, .slice za d.t.args.length zk] rfl rfl 33 _ HR2.out (by kernel_rfl) rfl (by simp [Value.oneCell']) ?_
  rw [HW10.out]
  have HX10 := Lib.hid (HX9.out.trans HXS.out)
  have HXB10 := HXB
  have HXO := Lib.hid (HXO.out.trans HXS.out)
  have HXX := Lib.hid (HXX.out.trans HXS.out)
  have HXY := Lib.hid (HXY.out.trans HXS.out)
  have HA := Lib.hid (row_xt HXS.out HA.out)
  have HB := Lib.hid (row_xt HXS.out HB.out)
  have HO := Lib.hid (row_xt HXS.out HO.out)
  have HX := Lib.hid (row_xt HXS.out HX.out)
  have HY := Lib.hid (row_xt HXS.out HY.out)
  clear hr2 hg hxb hxs hin10 hx10 hw10b hw10 hWt HR2 HXS HXB
  have HXZ := HXB10
  go_wp2_with (first | (refine wpList_load_row (P := Tryz.prog) rfl 33 _ rfl (X) rfl 33 _ (0, 0) _ HX.out Tryz.underlying33 rfl (by kernel_rfl) ?_) | (refine wpList_load_row (P := Tryz.prog) rfl 33 _ rfl (Wt) rfl 33 _ (0, 0) _ HZ.out Tryz.underlying33 rfl (by kernel_rfl) ?_))
  refine (justD na d xa za xk zk w10 (HIN8.out.args.xt HXX.out) (HIN10.out.args.xt HXZ.out)).mono ?_
  rintro e w11 ⟨rfl, hj⟩
  have HA := Lib.hid (row_xt hj HA.out)
  have HB := Lib.hid (row_xt hj HB.out)
  have HO := Lib.hid (row_xt hj HO.out)
  have HX := Lib.hid (row_xt hj HX.out)
  have HY := Lib.hid (row_xt hj HY.out)
  have HZ := Lib.hid (row_xt hj HZ.out)
  have HX11 := Lib.hid (HX10.out.trans hj)
  have HXO := Lib.hid (HXO.out.trans hj)
  have HXX := Lib.hid (HXX.out.trans hj)
  have HXY := Lib.hid (HXY.out.trans hj)
  have HXZ := Lib.hid (HXZ.out.trans hj)
  clear hj
  go_wp2_with (first | (refine BigFrame.wpList_want (by rfl) (fun K hK => wp_load_row 33 _ rfl (Y) rfl 33 _ (0, 0) _ HY.out Tryz.underlying33 rfl (by kernel_rfl) (hK _ _ ?_)); clear hK K) | (refine BigFrame.wpList_want (by rfl) (fun K hK => wp_load_row 33 _ rfl (Wt) rfl 33 _ (0, 0) _ HZ.out Tryz.underlying33 rfl (by kernel_rfl) (hK _ _ ?_)); clear hK K))
  refine (justD na d ya za yk zk w11 (HIN9.out.args.xt HXY.out) (HIN10.out.args.xt HXZ.out)).mono ?_
  rintro e w12 ⟨rfl, hj⟩
  have HA := Lib.hid (row_xt hj HA.out)
  have HB := Lib.hid (row_xt hj HB.out)
  have HO := Lib.hid (row_xt hj HO.out)
  have HX := Lib.hid (row_xt hj HX.out)
  have HY := Lib.hid (row_xt hj HY.out)
  have HZ := Lib.hid (row_xt hj HZ.out)
  have HX12 := Lib.hid (HX11.out.trans hj)
  have HXO := Lib.hid (HXO.out.trans hj)
  have HXX := Lib.hid (HXX.out.trans hj)
  have HXY := Lib.hid (HXY.out.trans hj)
  have HXZ := Lib.hid (HXZ.out.trans hj)
  clear hj
  have HSZ : Hid (w.heap.size + 1 < w6.heap.size ∧ w6.heap.size ≤ w7a.heap.size ∧ w7a.heap.size = O ∧ O < w7.heap.size ∧ w7.heap.size ≤ w8a.heap.size ∧ w8a.heap.size = X ∧ X < w8.heap.size ∧ w8.heap.size ≤ w9a.heap.size ∧ w9a.heap.size = Y ∧ Y < w9.heap.size ∧ w9.heap.size ≤ w10a.heap.size ∧ w10a.heap.size = Wt) := by
    have l7 := HL7.out; have l8 := HL8.out; have l9 := HL9.out
    have b7 := HBK7.out; have b8 := HBK8.out; have b9 := HBK9.out; have b10 := HBK10.out
    exact ⟨HSB6.out, HXC7.out.sz, b7, by omega, HXC8.out.sz, b8, by omega, HXC9.out.sz, b9, by omega, HXC10.out.sz, b10⟩
  have HYO : Hid (OwnIn (fun b => w8.heap.size ≤ b) w12 na (.slice ya d.t.args.length yk) d.t.args) := HIN9.out.keep (fun _ h _ => h) (fun b _ hb => HXY.out.block b hb)
  have HZO : Hid (OwnIn (fun b => w9.heap.size ≤ b) w12 na (.slice za d.t.args.length zk) d.t.args) := HIN10.out.keep (fun _ h _ => h) (fun b _ hb => HXZ.out.block b hb)
  have HXV : Hid (Ov (fun b => w7.heap.size ≤ b ∧ b < w8a.heap.size) w12 na (.slice xa d.t.args.length xk)) := OwnIn.ov HSD.out (HIN8.out.keep (fun b h hb => ⟨h, hb⟩) (fun b _ hb => HXX.out.block b hb))
  go_upto_region 11 with fail
  obtain ⟨q0, q1, q2, q3, q4, q5, q6, q7, q8, q9, q10, q11, q12, q13, q14, q15, q16, q17, q18, q19, q20⟩ := cells21 HX.out
  go_wp2_with fail
  refine (over_any na (fun b => w7.heap.size ≤ b ∧ b < w8a.heap.size) d.t xa d.t.args.length xk w12 (fun b hb => by have := HXX.out.sz; have := hb.2; omega) HXV.out).mono ?_
  rintro e w13 ⟨rfl, hw⟩
  obtain ⟨z1, z2, z3, z4, z5, z6, z7, z8, z9, z10, z11, z12⟩ := HSZ.out
  have HA := Lib.hid (row_ov hw HA.out (fun hb => by omega))
  have HB := Lib.hid (row_ov hw HB.out (fun hb => by omega))
  have HO := Lib.hid (row_ov hw HO.out (fun hb => by omega))
  have HY := Lib.hid (row_ov hw HY.out (fun hb => by omega))
  have HZ := Lib.hid (row_ov hw HZ.out (fun hb => by omega))
  have HX13 : Hid (Xt w w13) := OvW.below HX12.out hw (fun b hb => by have := hb.1; omega)
  have HYO : Hid (OwnIn (fun b => w8.heap.size ≤ b) w13 na (.slice ya d.t.args.length yk) d.t.args) := HYO.out.keep (fun _ h _ => h) (fun b hb hl => hw.block b hl (fun h => by have := h.1; have := h.2; omega))
  have HZO : Hid (OwnIn (fun b => w9.heap.size ≤ b) w13 na (.slice za d.t.args.length zk) d.t.args) := HZO.out.keep (fun _ h _ => h) (fun b hb hl => hw.block b hl (fun h => by have := h.1; have := h.2; omega))
  have HXO : Hid (Xt w7a w13) := OvW.below HXO.out hw (fun b hb => by have := hb.1; omega)
  clear hw z1 z2 z3 z4 z5 z6 z7 z8 z9 z10 z11 z12 q0 q1 q2 q3 q4 q5 q6 q7 q8 q9 q10 q11 q12 q13 q14 q15 q16 q17 q18 q19 q20
  go_wp2_with (first | (refine wpList_load_row (P := Tryz.prog) rfl 33 _ rfl (Y) rfl 33 _ (0, 0) _ HY.out Tryz.underlying33 rfl (by kernel_rfl) ?_) | (refine wpList_load_row (P := Tryz.prog) rfl 33 _ rfl (Wt) rfl 33 _ (0, 0) _ HZ.out Tryz.underlying33 rfl (by kernel_rfl) ?_))
  refine (justD na d ya za yk zk w13 HYO.out.args HZO.out.args).mono ?_
  rintro e w14 ⟨rfl, hj⟩
  have HA := Lib.hid (row_xt hj HA.out)
  have HO := Lib.hid (row_xt hj HO.out)
  have HY := Lib.hid (row_xt hj HY.out)
  have HZ := Lib.hid (row_xt hj HZ.out)
  have HX14 := Lib.hid (HX13.out.trans hj)
  have HXO := Lib.hid (HXO.out.trans hj)
  have HYO : Hid (OwnIn (fun b => w8.heap.size ≤ b) w14 na (.slice ya d.t.args.length yk) d.t.args) := HYO.out.keep (fun _ h _ => h) (fun b _ hl => hj.block b hl)
  have HZO : Hid (OwnIn (fun b => w9.heap.size ≤ b) w14 na (.slice za d.t.args.length zk) d.t.args) := HZO.out.keep (fun _ h _ => h) (fun b _ hl => hj.block b hl)
  clear hj
  go_wp2_with (first | (refine BigFrame.wpList_want (by rfl) (fun K hK => wp_load_row 33 _ rfl (O) rfl 33 _ (0, 0) _ HO.out Tryz.underlying33 rfl (by kernel_rfl) (hK _ _ ?_)); clear hK K) | (refine BigFrame.wpList_want (by rfl) (fun K hK => wp_load_row 33 _ rfl (w.heap.size) rfl 33 _ (0, 0) _ HA.out Tryz.underlying33 rfl (by kernel_rfl) (hK _ _ ?_)); clear hK K))
  refine (justD na a oa aa ok ac w14 (HIN7.out.args.xt HXO.out) (HIA.out.xt HX14.out)).mono ?_
  rintro e w15 ⟨rfl, hj⟩
  have HA := Lib.hid (row_xt hj HA.out)
  have HO := Lib.hid (row_xt hj HO.out)
  have HY := Lib.hid (row_xt hj HY.out)
  have HZ := Lib.hid (row_xt hj HZ.out)
  have HX15 := Lib.hid (HX14.out.trans hj)
  have HXO := Lib.hid (HXO.out.trans hj)
  have HYO : Hid (OwnIn (fun b => w8.heap.size ≤ b) w15 na (.slice ya d.t.args.length yk) d.t.args) := HYO.out.keep (fun _ h _ => h) (fun b _ hl => hj.block b hl)
  have HZO : Hid (OwnIn (fun b => w9.heap.size ≤ b) w15 na (.slice za d.t.args.length zk) d.t.args) := HZO.out.keep (fun _ h _ => h) (fun b _ hl => hj.block b hl)
  clear hj
  have HOV : Hid (Ov (fun b => w6.heap.size ≤ b ∧ b < w7a.heap.size) w15 na (.slice oa a.t.args.length ok)) := OwnIn.ov (smallT_args HSA.out) (HIN7.out.keep (fun b h hb => ⟨h, hb⟩) (fun b _ hb => HXO.out.block b hb))
  go_upto_region 13 with fail
  obtain ⟨q0, q1, q2, q3, q4, q5, q6, q7, q8, q9, q10, q11, q12, q13, q14, q15, q16, q17, q18, q19, q20⟩ := cells21 HO.out
  go_wp2_with fail
  refine (over_any na (fun b => w6.heap.size ≤ b ∧ b < w7a.heap.size) a.t oa a.t.args.length ok w15 (fun b hb => by have := HXO.out.sz; have := hb.2; omega) HOV.out).mono ?_
  rintro e w16 ⟨rfl, hw⟩
  obtain ⟨z1, z2, z3, z4, z5, z6, z7, z8, z9, z10, z11, z12⟩ := HSZ.out
  have HY := Lib.hid (row_ov hw HY.out (fun hb => by omega))
  have HZ := Lib.hid (row_ov hw HZ.out (fun hb => by omega))
  have HX16 : Hid (Xt w w16) := OvW.below HX15.out hw (fun b hb => by have := hb.1; omega)
  have HYO : Hid (OwnIn (fun b => w8.heap.size ≤ b) w16 na (.slice ya d.t.args.length yk) d.t.args) := HYO.out.keep (fun _ h _ => h) (fun b hb hl => hw.block b hl (fun h => by have := h.1; have := h.2; omega))
  have HZO : Hid (OwnIn (fun b => w9.heap.size ≤ b) w16 na (.slice za d.t.args.length zk) d.t.args) := HZO.out.keep (fun _ h _ => h) (fun b hb hl => hw.block b hl (fun h => by have := h.1; have := h.2; omega))
  clear hw z1 z2 z3 z4 z5 z6 z7 z8 z9 z10 z11 z12 q0 q1 q2 q3 q4 q5 q6 q7 q8 q9 q10 q11 q12 q13 q14 q15 q16 q17 q18 q19 q20
  go_wp2_with (first | (refine wpList_load_row (P := Tryz.prog) rfl 33 _ rfl (Y) rfl 33 _ (0, 0) _ HY.out Tryz.underlying33 rfl (by kernel_rfl) ?_) | (refine wpList_load_row (P := Tryz.prog) rfl 33 _ rfl (Wt) rfl 33 _ (0, 0) _ HZ.out Tryz.underlying33 rfl (by kernel_rfl) ?_))
  refine (justD na d ya za yk zk w16 HYO.out.args HZO.out.args).mono ?_
  rintro e w17 ⟨rfl, hj⟩
  have HX17 := Lib.hid (HX16.out.trans hj)
  clear hj
  go_wp2_with fail
  go_ret
  exact ⟨rfl, HX17.out⟩
end Go.Proofs.YtfpdleljhbkehaaGreatDoor
