import Derived.Test.YtideclfpbpjebaaGreatDoorB35
import Derived.Deep.CutBlock
import Derived.Deep.DeepCutAuto
namespace Go.Proofs.YtideclfpbpjebaaGreatDoor
section
open Go.RowKit Go.Sort Go.Maps Go.Shelf Go.MapKept
attribute [local go_sem] Oper.semAt_some

/-- The same, in memory of its own. -/
def GetO (w : World) (c : ContT) (e : Ending) (w' : World) : Prop := ∃ p k n, e = .returned (contV c p c.t.args.length k) ∧ OwnIn (fun b => w.heap.size ≤ b) w' n (.slice p c.t.args.length k) c.t.args ∧ Xt w w'
set_option maxRecDepth 100000 in
set_option maxHeartbeats 4000000 in
theorem get17O_any (rb : Nat) (l : List PI) (a : Ad) (w : World) (h : DG w rb l) (hO : GOk (pis l)) :
    Calls Tryz.prog 22 #[.pointer (some ⟨rb, 0, none⟩), .agg #[.int .i64 a.1, .int .i64 a.2]] w (GetO w ((lkM a (pis l)).getD zeroC)) := by
  obtain ⟨v, hc, hP⟩ := h.cell
  obtain ⟨la, lc, rfl, hlc, hlc2⟩ := hP.shape
  have hm := h.many
  have H := Lib.hid h
  have HO := Lib.hid hO
  obtain ⟨B, hB⟩ : ∃ B, w.heap.size = B := ⟨_, rfl⟩
  obtain ⟨w0, hw0⟩ : ∃ w0, w.alloc (.cells #[.int .i64 a.1, .int .i64 a.2] 36) = w0 := ⟨_, rfl⟩
  have hs0 : w0.heap.size = B + 1 := by rw [← hw0, ← hB]; simp
  obtain ⟨w1, hw1⟩ : ∃ w1, w0.alloc (.cells #[.int .i64 0, .int .i64 0, .float .f64 0, .string ⟨#[]⟩, .bool false, .int .i64 0, .int .i64 0, .int .i64 0, .float .f64 0, .string ⟨#[]⟩, .bool false, .int .i64 0, .int .i64 0, .int .i64 0, .bool false, .bool false, .int .i64 0, .int .i64 0, .bool false, .bool false, .slice none 0 0] 46) = w1 := ⟨_, rfl⟩
  have HX1 : Hid (Xt w w1) := by unfold Hid; rw [← hw1, ← hw0]; exact ((Xt.refl _).alloc _).alloc _
  have HR0 : Hid (w1.heap[B]? = some (.cells #[.int .i64 a.1, .int .i64 a.2] 36 (0, 0))) := rowX (w := w0) (by rw [← hw1]; exact (Xt.refl _).alloc _) (by rw [← hw0, ← hB]; exact (MapKept.heap_alloc w _).1)
  have HR1 : Hid (w1.heap[B + 1]? = some (.cells #[.int .i64 0, .int .i64 0, .float .f64 0, .string ⟨#[]⟩, .bool false, .int .i64 0, .int .i64 0, .int .i64 0, .float .f64 0, .string ⟨#[]⟩, .bool false, .int .i64 0, .int .i64 0, .int .i64 0, .bool false, .bool false, .int .i64 0, .int .i64 0, .bool false, .bool false, .slice none 0 0] 46 (0, 0))) := by unfold Hid; rw [← hw1, ← hs0]; exact (MapKept.heap_alloc w0 _).1
  obtain ⟨y0, y1, _, _⟩ := cells2 HR0.out
  have HP := Lib.hid (hP.xt HX1.out)
  have HC := Lib.hid (HX1.out.cellsIn _ _ _ hc)
  have HPL := Lib.hid (place17_any rb l a w1 (h.xt HX1.out))
  clear h hc hP hO
  go_enter Tryz.func22, Tryz.ntmps22
  go_upto_region 2 with (first
    | (go_at_call 44; refine (HPL.out).mono ?_; rintro e w2 ⟨lo, is, rfl, hpos, hx2⟩; have HPOS := Lib.hid hpos; have HX2 := Lib.hid hx2; have HR2 := Lib.hid (rowX hx2 HR1.out); have c2 := hx2.cellsIn _ _ _ HC.out; clear hx2 hpos))
  cases is
  · obtain ⟨w3, hw3⟩ : ∃ w3, w2.setRow (B + 1) #[.int .i64 0, .int .i64 0, .float .f64 0, .string ⟨#[]⟩, .bool false, .int .i64 0, .int .i64 0, .int .i64 0, .float .f64 0, .string ⟨#[]⟩, .bool false, .int .i64 0, .int .i64 0, .int .i64 0, .bool false, .bool false, .int .i64 0, .int .i64 0, .bool false, .bool false, .slice none 0 0] = w3 := ⟨_, rfl⟩
    have HW3 := Lib.hid hw3
    have HR3 : Hid (w3.heap[B + 1]? = some (.cells #[.int .i64 0, .int .i64 0, .float .f64 0, .string ⟨#[]⟩, .bool false, .int .i64 0, .int .i64 0, .int .i64 0, .float .f64 0, .string ⟨#[]⟩, .bool false, .int .i64 0, .int .i64 0, .int .i64 0, .bool false, .bool false, .int .i64 0, .int .i64 0, .bool false, .bool false, .slice none 0 0] 46 (0, 0))) := by unfold Hid; rw [← hw3]; exact setRow_heap w2 _ _ _ _ _ HR2.out
    have HG3 : Hid (w2.grownBy w3 (some (B + 1))) := by unfold Hid; rw [← hw3]; exact setRow_grown _ _ _
    clear hw3
    go_wp2_with (first
      | (refine wpList_store_row (P := Tryz.prog) rfl 46 _ _ rfl (B + 1) #[.int .i64 0, .int .i64 0, .float .f64 0, .string ⟨#[]⟩, .bool false, .int .i64 0, .int .i64 0, .int .i64 0, .float .f64 0, .string ⟨#[]⟩, .bool false, .int .i64 0, .int .i64 0, .int .i64 0, .bool false, .bool false, .int .i64 0, .int .i64 0, .bool false, .bool false, .slice none 0 0] rfl rfl 46 _ HR2.out (by kernel_rfl) rfl (by simp [Value.oneCell']) ?_; rw [HW3.out]))
    (try simp only [Exit.inBlock, Exit.then])
    refine bodyPost_ret (results_cell_row rfl _ _ (B + 1) _ _ _ _ rfl HR3.out Tryz.underlying46 rfl (by kernel_rfl)) rfl ?_
    have hn : lkM a (pis l) = none := by have := (HPOS.out.look H.out.sorted).1; cases hl : lkM a (pis l) with | none => rfl | some x => rw [hl] at this; cases this
    rw [hn]
    exact ⟨none, 0, 1, rfl, ⟨none, 0, rfl, by simp [zeroC, NodeT.args], by omega, fun h => absurd h (Nat.lt_irrefl _)⟩, (HX1.out.trans HX2.out).grownB HG3.out (fun m hm => by cases hm; omega)⟩
  · obtain ⟨x, hx, hxa⟩ := HPOS.out.there.1 rfl
    have hlt := (List.getElem?_eq_some_iff.1 hx).1
    have hki : (lo : Int) < (l.length : Int) := by omega
    obtain ⟨b, off, rfl, q0, q1, q2, hok, n, hin⟩ := HP.out.at hx
    have hlk := (HPOS.out.look H.out.sorted).2 x hx rfl
    have hcc : copyC x.c = x.c := (HO.out.each _ (lkM_mem hlk)).2.2.2.1
    have HCP := Lib.hid (dcopyD n x.c x.p x.cap w2 (H.out.small x (List.mem_of_getElem? hx)) (hin.xt HX2.out))
    rw [hcc] at HCP
    have HRNG : Hid (w2.rangeAt b (off + lo * 23 + 2) ((inC1 x).drop 2)) := Lib.hid fun j u hu => HX2.out.cellsIn _ _ _ (q2 j u hu)
    have HLK := Lib.hid hlk
    obtain ⟨d, hd⟩ : ∃ d, x.c = d := ⟨_, rfl⟩
    have HDC := Lib.hid hd
    have hcv : Value.agg ((inC1 x).drop 2).toArray = contV x.c x.p x.c.t.args.length x.cap := rfl
    clear hx hxa q0 q1 q2 hok hin hlk hcc hd
    rw [HDC.out] at HCP HLK
    go_wp2_with (first
      | (refine wpList_load_mid (P := Tryz.prog) rfl 46 _ rfl b (off + lo * 23 + 2) rfl ((inC1 x).drop 2) _ HRNG.out Tryz.underlying46 rfl (by kernel_rfl) ?_; rw [hcv, HDC.out])
      | (go_at_call 45; refine (HCP.out).mono ?_; rintro e w5 ⟨p5, k5, rfl, hA5, hx5⟩; have HA5 := Lib.hid hA5; have HX5 := Lib.hid hx5; have HR5 := Lib.hid (rowX hx5 HR2.out); obtain ⟨w6, hw6⟩ : ∃ w6, w5.setRow (B + 1) #[.int .i64 d.kind, .int .i64 d.v.kind, .float .f64 d.v.x, .string d.v.s, .bool d.v.b, .int .i64 d.v.f, .int .i64 d.t.kind, .int .i64 d.t.op, .float .f64 d.t.x, .string d.t.s, .bool d.t.b, .int .i64 d.t.f, .int .i64 d.t.ref.a.1, .int .i64 d.t.ref.a.2, .bool d.t.ref.cf, .bool d.t.ref.rf, .int .i64 d.t.to.a.1, .int .i64 d.t.to.a.2, .bool d.t.to.cf, .bool d.t.to.rf, .slice p5 d.t.args.length k5] = w6 := ⟨_, rfl⟩; have HW6 := Lib.hid hw6; have HR6 : Hid (w6.heap[B + 1]? = some (.cells #[.int .i64 d.kind, .int .i64 d.v.kind, .float .f64 d.v.x, .string d.v.s, .bool d.v.b, .int .i64 d.v.f, .int .i64 d.t.kind, .int .i64 d.t.op, .float .f64 d.t.x, .string d.t.s, .bool d.t.b, .int .i64 d.t.f, .int .i64 d.t.ref.a.1, .int .i64 d.t.ref.a.2, .bool d.t.ref.cf, .bool d.t.ref.rf, .int .i64 d.t.to.a.1, .int .i64 d.t.to.a.2, .bool d.t.to.cf, .bool d.t.to.rf, .slice p5 d.t.args.length k5] 46 (0, 0))) := (by unfold Hid; rw [← hw6]; exact setRow_heap w5 _ _ _ _ _ HR5.out); have HG6 : Hid (w5.grownBy w6 (some (B + 1))) := (by unfold Hid; rw [← hw6]; exact setRow_grown _ _ _); clear hA5 hx5 hw6)
      | (refine wpList_store_row (P := Tryz.prog) rfl 46 _ _ rfl (B + 1) #[.int .i64 d.kind, .int .i64 d.v.kind, .float .f64 d.v.x, .string d.v.s, .bool d.v.b, .int .i64 d.v.f, .int .i64 d.t.kind, .int .i64 d.t.op, .float .f64 d.t.x, .string d.t.s, .bool d.t.b, .int .i64 d.t.f, .int .i64 d.t.ref.a.1, .int .i64 d.t.ref.a.2, .bool d.t.ref.cf, .bool d.t.ref.rf, .int .i64 d.t.to.a.1, .int .i64 d.t.to.a.2, .bool d.t.to.cf, .bool d.t.to.rf, .slice p5 d.t.args.length k5] rfl rfl 46 _ HR5.out (by kernel_rfl) rfl (by simp [Value.oneCell']) ?_; rw [HW6.out]))
    (try simp only [Exit.inBlock, Exit.then])
    refine bodyPost_ret (results_cell_row rfl _ _ (B + 1) _ _ _ _ rfl HR6.out Tryz.underlying46 rfl (by kernel_rfl)) rfl ?_
    rw [HLK.out]
    have hB2 : B + 1 < w2.heap.size := (Array.getElem?_eq_some_iff.1 HR2.out).1
    exact ⟨p5, k5, n, rfl, OwnIn.keep (S' := fun b => w.heap.size ≤ b) (fun b hb _ => Nat.le_trans (HX1.out.trans HX2.out).size hb) (fun b hb hlt => HG6.out.block b hlt (fun e => by cases e; omega)) HA5.out, ((HX1.out.trans HX2.out).trans HX5.out).grownB HG6.out (fun m hm => by cases hm; omega)⟩
end
end Go.Proofs.YtideclfpbpjebaaGreatDoor
