import Derived.Test.YtdoeejhdenifpaaGreatDoorA5
import Derived.Test.YtdoeejhdenifpaaGreatDoorW22
namespace Go.Proofs.YtdoeejhdenifpaaGreatDoor
open Go.RowKit Go.Sort
def GCopyR (c : ContT) (n : Nat) (w : World) (e : Ending) (w' : World) : Prop := ∃ a', e = .returned (copyCV c a') ∧ ArgsS (fun b => w.heap.size ≤ b) w' n (.slice a' c.t.args.length c.t.args.length) (copyL c.t.args) ∧ Xt w w'
@[go_sem] theorem run_field_x (k f : Int) (x : Nat) (s : ByteArray) (b : Bool) (w : World) : (Instr.field 44 (.agg #[.int .i64 k, .float .f64 x, .string s, .bool b, .int .i64 f]) 1).run Tryz.prog w = .ok (.float .f64 x) w := by
 have u := run_underlying Tryz.underlying44
 have u2 := run_underlying Tryz.underlying42
 simp [Instr.field, u, part, asAgg]
set_option maxRecDepth 100000 in
set_option maxHeartbeats 4000000 in
theorem gcopy_any (n : Nat) (c : ContT) (a : Option Addr) (cap : Nat) (w : World) (hsm : smallT c.t) (hin : ArgsIn w n (.slice a c.t.args.length cap) c.t.args) :
    Calls Tryz.prog 49 #[contV c a c.t.args.length cap] w (GCopyR c n w) := by
 have HSM := Lib.hid hsm
 have HIN := Lib.hid hin
 have HF := Lib.hid (fcopy_any n)
 obtain ⟨B, hB⟩ : ∃ B, w.heap.size = B := ⟨_, rfl⟩
 obtain ⟨w0, hw0⟩ : ∃ w0, w.alloc (.cells #[.int .i64 c.kind, .int .i64 c.v.kind, .float .f64 c.v.x, .string c.v.s, .bool c.v.b, .int .i64 c.v.f, .int .i64 c.t.kind, .int .i64 c.t.op, .float .f64 c.t.x, .string c.t.s, .bool c.t.b, .int .i64 c.t.f, .int .i64 c.t.ref.a.1, .int .i64 c.t.ref.a.2, .bool c.t.ref.cf, .bool c.t.ref.rf, .int .i64 c.t.to.a.1, .int .i64 c.t.to.a.2, .bool c.t.to.cf, .bool c.t.to.rf, .slice a c.t.args.length cap] 51) = w0 := ⟨_, rfl⟩
 have hs0 : w0.heap.size = B + 1 := by rw [← hw0, ← hB]; simp
 have hb0 : w0.heap[B]? = some (.cells #[.int .i64 c.kind, .int .i64 c.v.kind, .float .f64 c.v.x, .string c.v.s, .bool c.v.b, .int .i64 c.v.f, .int .i64 c.t.kind, .int .i64 c.t.op, .float .f64 c.t.x, .string c.t.s, .bool c.t.b, .int .i64 c.t.f, .int .i64 c.t.ref.a.1, .int .i64 c.t.ref.a.2, .bool c.t.ref.cf, .bool c.t.ref.rf, .int .i64 c.t.to.a.1, .int .i64 c.t.to.a.2, .bool c.t.to.cf, .bool c.t.to.rf, .slice a c.t.args.length cap] 51 (0, 0)) := by rw [← hw0, ← hB]; exact (MapKept.heap_alloc w _).1
 have hx0 : Xt w w0 := by rw [← hw0]; exact (Xt.refl w).alloc _
 obtain ⟨wS, hwS⟩ : ∃ wS, w0.alloc (.cells #[.int .i64 0, .int .i64 0, .float .f64 0, .string ⟨#[]⟩, .bool false, .int .i64 0, .int .i64 0, .int .i64 0, .float .f64 0, .string ⟨#[]⟩, .bool false, .int .i64 0, .int .i64 0, .int .i64 0, .bool false, .bool false, .int .i64 0, .int .i64 0, .bool false, .bool false, .slice none 0 0] 51) = wS := ⟨_, rfl⟩
 have hxS : Xt w wS := by rw [← hwS]; exact hx0.alloc _
 have hbS : wS.heap[B]? = some (.cells #[.int .i64 c.kind, .int .i64 c.v.kind, .float .f64 c.v.x, .string c.v.s, .bool c.v.b, .int .i64 c.v.f, .int .i64 c.t.kind, .int .i64 c.t.op, .float .f64 c.t.x, .string c.t.s, .bool c.t.b, .int .i64 c.t.f, .int .i64 c.t.ref.a.1, .int .i64 c.t.ref.a.2, .bool c.t.ref.cf, .bool c.t.ref.rf, .int .i64 c.t.to.a.1, .int .i64 c.t.to.a.2, .bool c.t.to.cf, .bool c.t.to.rf, .slice a c.t.args.length cap] 51 (0, 0)) := by rw [← hwS]; exact (Below.heap_alloc w0 _ B (by omega)).trans hb0
 have hrS : wS.heap[B + 1]? = some (.cells #[.int .i64 0, .int .i64 0, .float .f64 0, .string ⟨#[]⟩, .bool false, .int .i64 0, .int .i64 0, .int .i64 0, .float .f64 0, .string ⟨#[]⟩, .bool false, .int .i64 0, .int .i64 0, .int .i64 0, .bool false, .bool false, .int .i64 0, .int .i64 0, .bool false, .bool false, .slice none 0 0] 51 (0, 0)) := by rw [← hwS, ← hs0]; exact (MapKept.heap_alloc w0 _).1
 have hsS : B + 1 < wS.heap.size := (Array.getElem?_eq_some_iff.1 hrS).1
 have HB := Lib.hid hB
 have HXS := Lib.hid hxS
 have HBS := Lib.hid hbS
 have HRS := Lib.hid hrS
 obtain ⟨c0, c1, c2, c3, c4, c5, c6, c7, c8, c9, c10, c11, c12, c13, c14, c15, c16, c17, c18, c19, c20⟩ := cells21 hbS
 clear hsm hin hxS hbS hrS hx0 hb0
 generalize hQ : GCopyR c n w = Q
 go_enter Tryz.func49, Tryz.ntmps49
 have hHs : w.heap.size = B := hB
 go_wp2_with (refine (OfNumber_any _ _).mono ?_; rintro e w1 ⟨rfl, hg1⟩
              have hb1 := (hg1.below.block B (by omega)).trans HBS.out
              have hr1 := (hg1.below.block (B + 1) hsS).trans HRS.out
              have hx1 := hg1.xt
              obtain ⟨d0, d1, d2, d3, d4, d5, d6, d7, d8, d9, d10, d11, d12, d13, d14, d15, d16, d17, d18, d19, d20⟩ := cells21 hb1
              obtain ⟨f0, f1, f2, f3, f4, f5, f6, f7, f8, f9, f10, f11, f12, f13, f14, f15, f16, f17, f18, f19, f20⟩ := frozen21 hb1)
 obtain ⟨w2, hw2⟩ : ∃ w2, w1.setCell ⟨B, 2, none⟩ (.float .f64 (oneX c.v.x)) = w2 := ⟨_, rfl⟩
 rw [hw2]
 have hb2 : w2.heap[B]? = some (.cells #[.int .i64 c.kind, .int .i64 c.v.kind, .float .f64 (oneX c.v.x), .string c.v.s, .bool c.v.b, .int .i64 c.v.f, .int .i64 c.t.kind, .int .i64 c.t.op, .float .f64 c.t.x, .string c.t.s, .bool c.t.b, .int .i64 c.t.f, .int .i64 c.t.ref.a.1, .int .i64 c.t.ref.a.2, .bool c.t.ref.cf, .bool c.t.ref.rf, .int .i64 c.t.to.a.1, .int .i64 c.t.to.a.2, .bool c.t.to.cf, .bool c.t.to.rf, .slice a c.t.args.length cap] 51 (0, 0)) := by rw [← hw2]; have := setCell_row hb1 2 (.float .f64 (oneX c.v.x)); simpa using this
 have hr2 : w2.heap[B + 1]? = some (.cells #[.int .i64 0, .int .i64 0, .float .f64 0, .string ⟨#[]⟩, .bool false, .int .i64 0, .int .i64 0, .int .i64 0, .float .f64 0, .string ⟨#[]⟩, .bool false, .int .i64 0, .int .i64 0, .int .i64 0, .bool false, .bool false, .int .i64 0, .int .i64 0, .bool false, .bool false, .slice none 0 0] 51 (0, 0)) := by rw [← hw2]; exact (Below.heap_setCell _ _ _ _ (by show B + 1 ≠ B; omega)).trans hr1
 have hx2 : Xt w w2 := by rw [← hw2]; exact (HXS.out.trans hx1).grownB (setCell_grown _ _ _ _) (fun m hm => by cases hm; omega)
 have hs2 : B + 1 < w2.heap.size := (Array.getElem?_eq_some_iff.1 hr2).1
 clear c0 c1 c2 c3 c4 c5 c6 c7 c8 c9 c10 c11 c12 c13 c14 c15 c16 c17 c18 c19 c20 d0 d1 d2 d3 d4 d5 d6 d7 d8 d9 d10 d11 d12 d13 d14 d15 d16 d17 d18 d19 d20 f0 f1 f2 f3 f4 f5 f6 f7 f8 f9 f10 f11 f12 f13 f14 f15 f16 f17 f18 f19 f20 hb1 hr1 hg1 hx1 hw2
 refine (HF.out c.t a cap w2 HSM.out (HIN.out.xt hx2)).mono ?_
 rintro e w3 ⟨a', rfl, hA, hx3⟩
 have hb3 := (hx3.block B (by omega)).trans hb2
 have hr3 := (hx3.block (B + 1) hs2).trans hr2
 have HX3 := Lib.hid hx3
 have HA := Lib.hid hA
 have HX2 := Lib.hid hx2
 obtain ⟨w4, hw4⟩ : ∃ w4, w3.setCells B 6 [.int .i64 c.t.kind, .int .i64 c.t.op, .float .f64 (oneX c.t.x), .string c.t.s, .bool c.t.b, .int .i64 c.t.f, .int .i64 c.t.ref.a.1, .int .i64 c.t.ref.a.2, .bool c.t.ref.cf, .bool c.t.ref.rf, .int .i64 c.t.to.a.1, .int .i64 c.t.to.a.2, .bool c.t.to.cf, .bool c.t.to.rf, .slice a' c.t.args.length c.t.args.length] = w4 := ⟨_, rfl⟩
 have hg4 : w3.grownBy w4 (some B) := by rw [← hw4]; exact setCells_grown B _ 6 w3
 have hb4 := fill15at6 (u0 := .int .i64 c.t.kind) (u1 := .int .i64 c.t.op) (u2 := .float .f64 (oneX c.t.x)) (u3 := .string c.t.s) (u4 := .bool c.t.b) (u5 := .int .i64 c.t.f) (u6 := .int .i64 c.t.ref.a.1) (u7 := .int .i64 c.t.ref.a.2) (u8 := .bool c.t.ref.cf) (u9 := .bool c.t.ref.rf) (u10 := .int .i64 c.t.to.a.1) (u11 := .int .i64 c.t.to.a.2) (u12 := .bool c.t.to.cf) (u13 := .bool c.t.to.rf) (u14 := .slice a' c.t.args.length c.t.args.length) hb3
 rw [hw4] at hb4
 have hr4 := (hg4.block (B + 1) (Array.getElem?_eq_some_iff.1 hr3).1 (by simp)).trans hr3
 obtain ⟨w5, hw5⟩ : ∃ w5, w4.setRow (B + 1) #[.int .i64 c.kind, .int .i64 c.v.kind, .float .f64 (oneX c.v.x), .string c.v.s, .bool c.v.b, .int .i64 c.v.f, .int .i64 c.t.kind, .int .i64 c.t.op, .float .f64 (oneX c.t.x), .string c.t.s, .bool c.t.b, .int .i64 c.t.f, .int .i64 c.t.ref.a.1, .int .i64 c.t.ref.a.2, .bool c.t.ref.cf, .bool c.t.ref.rf, .int .i64 c.t.to.a.1, .int .i64 c.t.to.a.2, .bool c.t.to.cf, .bool c.t.to.rf, .slice a' c.t.args.length c.t.args.length] = w5 := ⟨_, rfl⟩
 have hg5 : w4.grownBy w5 (some (B + 1)) := by rw [← hw5]; exact setRow_grown _ _ _
 have hr5 : w5.heap[B + 1]? = some (.cells #[.int .i64 c.kind, .int .i64 c.v.kind, .float .f64 (oneX c.v.x), .string c.v.s, .bool c.v.b, .int .i64 c.v.f, .int .i64 c.t.kind, .int .i64 c.t.op, .float .f64 (oneX c.t.x), .string c.t.s, .bool c.t.b, .int .i64 c.t.f, .int .i64 c.t.ref.a.1, .int .i64 c.t.ref.a.2, .bool c.t.ref.cf, .bool c.t.ref.rf, .int .i64 c.t.to.a.1, .int .i64 c.t.to.a.2, .bool c.t.to.cf, .bool c.t.to.rf, .slice a' c.t.args.length c.t.args.length] 51 (0, 0)) := by rw [← hw5]; exact setRow_heap w4 (B + 1) _ _ _ _ hr4
 have HG4 := Lib.hid hg4
 have HG5 := Lib.hid hg5
 have HR5 := Lib.hid hr5
 have hs3 : B + 1 < w3.heap.size := (Array.getElem?_eq_some_iff.1 hr3).1
 have hth := Lib.hid (there_row hb3 6 15 (by simp))
 have HW4 := Lib.hid hw4
 have HW5 := Lib.hid hw5
 have HB4 := Lib.hid hb4
 have HR4 := Lib.hid hr4
 clear hb2 hr2 hx2 hb3 hr3 hx3 hA hw4 hb4 hr4 hw5 hg4 hg5 hr5
 go_wp2_with (first
  | (refine wpList_store_mid (P := Tryz.prog) rfl 49 _ _ rfl B 6 #[.int .i64 c.t.kind, .int .i64 c.t.op, .float .f64 (oneX c.t.x), .string c.t.s, .bool c.t.b, .int .i64 c.t.f, .int .i64 c.t.ref.a.1, .int .i64 c.t.ref.a.2, .bool c.t.ref.cf, .bool c.t.ref.rf, .int .i64 c.t.to.a.1, .int .i64 c.t.to.a.2, .bool c.t.to.cf, .bool c.t.to.rf, .slice a' c.t.args.length c.t.args.length] rfl rfl hth.out (by kernel_rfl) (by simp [Value.oneCell']) ?_; rw [HW4.out])
  | (refine wpList_load_row (P := Tryz.prog) rfl 51 _ rfl B rfl 51 _ (0, 0) _ HB4.out Tryz.underlying51 rfl (by kernel_rfl) ?_)
  | (refine wpList_store_row (P := Tryz.prog) rfl 51 _ _ rfl (B + 1) #[.int .i64 c.kind, .int .i64 c.v.kind, .float .f64 (oneX c.v.x), .string c.v.s, .bool c.v.b, .int .i64 c.v.f, .int .i64 c.t.kind, .int .i64 c.t.op, .float .f64 (oneX c.t.x), .string c.t.s, .bool c.t.b, .int .i64 c.t.f, .int .i64 c.t.ref.a.1, .int .i64 c.t.ref.a.2, .bool c.t.ref.cf, .bool c.t.ref.rf, .int .i64 c.t.to.a.1, .int .i64 c.t.to.a.2, .bool c.t.to.cf, .bool c.t.to.rf, .slice a' c.t.args.length c.t.args.length] rfl rfl 51 _ HR4.out (by kernel_rfl) rfl (by simp [Value.oneCell']) ?_; rw [HW5.out]))
 (try simp only [Exit.inBlock, Exit.then])
 refine bodyPost_ret (results_cell_row rfl _ _ (B + 1) _ _ _ _ rfl HR5.out Tryz.underlying51 rfl (by kernel_rfl)) rfl ?_
 rw [← hQ]
 refine ⟨a', by rw [copyCV_eq], HA.out.keep (fun b hb hlt => ?_) (fun b o hb hlt => ?_), ?_⟩
 · have := HX2.out.sz; omega
 · have : B + 1 < b := by omega
   exact World.cell?_of_block (w := w3) (a := ⟨b, o, none⟩) ((HG5.out.block b (by have := HG4.out.size; omega) (fun e => by cases e; omega)).trans (HG4.out.block b hlt (fun e => by cases e; omega)))
 · exact ((HX2.out.trans HX3.out).grownB HG4.out (fun m hm => by cases hm; omega)).grownB HG5.out (fun m hm => by cases hm; omega)
end Go.Proofs.YtdoeejhdenifpaaGreatDoor
namespace Go.Proofs.YtdoeejhdenifpaaGreatDoor
open Go.RowKit Go.Sort
theorem stoodAd : Tryz.prog.stoodInHeld 24 = false := by kernel_rfl
theorem undAd : Tryz.prog.underlying 24 = some (.struct (Tryz.prog.fieldsOf 24)) := by kernel_rfl
theorem eqAd (w : World) (a b : Ad) : (Op.equal 24 (adV a) (adV b)).run Tryz.prog w = .ok (decide (a = b)) w := by
 obtain ⟨a1, a2⟩ := a
 obtain ⟨b1, b2⟩ := b
 have h := run_equalIn_struct (P := Tryz.prog) w 9999 24 #[.int .i64 a1, .int .i64 a2] #[.int .i64 b1, .int .i64 b2] undAd stoodAd
 simp only [Op.equal, Op.maxDepth, adV]
 rw [show (10000 : Nat) = 9999 + 1 from rfl, h]
 simp only [Program.fieldsOf, Tryz.underlying24]
 go_simp
 by_cases h1 : a1 = b1 <;> by_cases h2 : a2 = b2 <;> simp [h1, h2]
theorem checkAd (w : World) (em : Bool) (a : Ad) : (Instr.checkKey em 10000 24 (adV a)).run Tryz.prog w = .ok () w := by
 rw [show (10000 : Nat) = 9998 + 1 + 1 from rfl, Instr.checkKey]
 simp only [adV, Sem.run_bind, run_underlying Tryz.underlying24, Result.andThen_ok]
 go_simp
 have h3 : ∀ n W, (Instr.checkKey em 9999 3 (Value.int IntKind.i64 n)).run Tryz.prog W = .ok () W := fun n W => MapKept.run_checkKey (P := Tryz.prog) (w := W) Tryz.underlying3 (by simp [MapKept.IsKey]) em 9998
 simp only [h3, Result.andThen_ok]
theorem adrKey : AdrKey Tryz.prog 24 := ⟨⟨_, Tryz.underlying24⟩, checkAd, eqAd⟩
def zeroC : ContT := ⟨0, ⟨0, 0, ⟨#[]⟩, false, 0⟩, .mk 0 0 0 ⟨#[]⟩ false 0 ⟨(0, 0), false, false⟩ ⟨(0, 0), false, false⟩ []⟩
theorem zeroCon (w : World) : (zeroValue 51).run Tryz.prog w = .ok (contV zeroC none 0 0) w := by kernel_rfl
theorem GridIs.look {w : World} {gb mb : Nat} {M : GM} (h : GridIs w gb mb M) (a : Ad) : ∃ E, MapIs w mb E ∧ (∀ a, lk a E = (lkM a M).map ceV) ∧ (lk a E).getD (contV zeroC none 0 0) = ceV ((lkM a M).getD (zeroC, none)) := by
 obtain ⟨E, hm, he⟩ := h.map
 refine ⟨E, hm, he, ?_⟩
 rw [he a]
 cases lkM a M <;> rfl
theorem GridIs.lookIn {w : World} {gb mb : Nat} {M : GM} (h : GridIs w gb mb M) (a : Ad) : ceIn w ((lkM a M).getD (zeroC, none)) := by
 cases hl : lkM a M with
 | none => exact ⟨by simp [zeroC, smallT, smallL], 0, ⟨rfl, none, 0, rfl, by simp⟩⟩
 | some x => exact h.args _ (lkM_mem hl)
set_option maxRecDepth 100000 in
theorem gnew_any (w : World) : Calls Tryz.prog 35 #[] w fun e w' => e = .returned (.pointer (some ⟨w.heap.size + 1, 0, none⟩)) ∧ GridIs w' (w.heap.size + 1) w.heap.size [] ∧ Gr w w' := by
 have hmm := @run_makeMap Tryz.prog
 go_enter Tryz.func35, Tryz.ntmps35
 go_wp2
 go_ret
 refine ⟨rfl, ⟨by simp, ⟨[], ?_, fun a => rfl⟩, List.Pairwise.nil, (fun x hx => by cases hx), by simp⟩, ((Gr.refl _).alloc _).alloc _⟩
 rw [MapIs_alloc _ _ _ _ (by simp)]; exact MapIs.made w
theorem glen_any (gb mb : Nat) (M : GM) (w : World) (h : GridIs w gb mb M) : Calls Tryz.prog 19 #[.pointer (some ⟨gb, 0, none⟩)] w fun e w' => e = .returned (.int .i64 M.length) ∧ w = w' := by
 have hc := h.cell
 obtain ⟨E, hm, he⟩ := h.map
 have hl : ∀ ty, (Builtin.len_ #[100] ty #[.map (some mb)]).run Tryz.prog w = .ok (.int .i64 M.length) w := fun ty => by rw [← h.len hm he]; exact hm.len Tryz.underlying100
 clear hm he h
 go_enter Tryz.func19, Tryz.ntmps19
 go_wp2
 go_ret
 exact ⟨rfl, rfl⟩
set_option maxRecDepth 100000 in
set_option maxHeartbeats 4000000 in
theorem gget_any (gb mb : Nat) (M : GM) (a : Ad) (w : World) (h : GridIs w gb mb M) : Calls Tryz.prog 15 #[.pointer (some ⟨gb, 0, none⟩), .agg #[.int .i64 a.1, .int .i64 a.2]] w fun e w' =>
    ∃ n a', e = .returned (copyCV ((lkM a M).getD (zeroC, none)).1 a') ∧ ArgsS (fun b => w.heap.size ≤ b) w' n (.slice a' ((lkM a M).getD (zeroC, none)).1.t.args.length ((lkM a M).getD (zeroC, none)).1.t.args.length) (copyL ((lkM a M).getD (zeroC, none)).1.t.args) ∧ Xt w w' := by
 obtain ⟨w0, hw0, hb0, hs0, c0, c1⟩ := box1 w a.1 a.2 24
 have hx0 : Xt w w0 := by rw [← hw0]; exact (Xt.refl _).alloc _
 obtain ⟨hsm, n, hin⟩ := h.lookIn a
 obtain ⟨E, hm, he, hlk⟩ := h.look a
 generalize (lkM a M).getD (zeroC, none) = x at hsm hin hlk ⊢
 obtain ⟨x, xa⟩ := x
 obtain ⟨wS, hwS⟩ : ∃ wS, w0.alloc (.cells #[.int .i64 0, .int .i64 0, .float .f64 0, .string ⟨#[]⟩, .bool false, .int .i64 0, .int .i64 0, .int .i64 0, .float .f64 0, .string ⟨#[]⟩, .bool false, .int .i64 0, .int .i64 0, .int .i64 0, .bool false, .bool false, .int .i64 0, .int .i64 0, .bool false, .bool false, .slice none 0 0] 51) = wS := ⟨_, rfl⟩
 have hxS : Xt w wS := by rw [← hwS]; exact hx0.alloc _
 have hrS : wS.heap[w.heap.size + 1]? = some (.cells #[.int .i64 0, .int .i64 0, .float .f64 0, .string ⟨#[]⟩, .bool false, .int .i64 0, .int .i64 0, .int .i64 0, .float .f64 0, .string ⟨#[]⟩, .bool false, .int .i64 0, .int .i64 0, .int .i64 0, .bool false, .bool false, .int .i64 0, .int .i64 0, .bool false, .bool false, .slice none 0 0] 51 (0, 0)) := by rw [← hwS, ← hs0]; exact (MapKept.heap_alloc w0 _).1
 have hl : (Instr.lookup 100 (.map (some mb)) (.agg #[.int .i64 a.1, .int .i64 a.2]) false).run Tryz.prog wS.drew = .ok (contV x xa x.t.args.length x.t.args.length) wS.drew := by
  have := (hm.of_heap (hxS.block mb hm.lt) : MapIs wS mb E).lookup (w := wS.drew) (P := Tryz.prog) (t := 100) (k := 24) (e := 51) adrKey Tryz.underlying100 zeroCon a
  rw [hlk] at this; exact this
 have hc := h.cell
 have hcS := ((hxS.cells).1 gb 0 h.lt.1).trans hc
 have d0 : wS.cell? ⟨w.heap.size, 0, none⟩ = some (.int .i64 a.1) := by rw [← hwS]; exact (World.cell?_of_block (w := w0) (a := ⟨w.heap.size, 0, none⟩) (Below.heap_alloc w0 _ _ (by show w.heap.size < _; omega))).trans c0
 have d1 : wS.cell? ⟨w.heap.size, 1, none⟩ = some (.int .i64 a.2) := by rw [← hwS]; exact (World.cell?_of_block (w := w0) (a := ⟨w.heap.size, 1, none⟩) (Below.heap_alloc w0 _ _ (by show w.heap.size < _; omega))).trans c1
 have HXS := Lib.hid hxS
 have HRS := Lib.hid hrS
 have HGC := Lib.hid (gcopy_any n x xa x.t.args.length wS.drew hsm (hin.xt hxS.drew))
 clear hm he hlk hb0 hx0 hxS hrS hsm hin h
 go_enter Tryz.func15, Tryz.ntmps15
 go_wp2_with fail
 refine wp_region_still_tail 6 (by kernel_rfl) (by kernel_rfl) ?_
 change wpStill _ _ (World.drew _) _ _ _
 simp only [List.take_succ_cons, List.take_zero, List.drop_succ_cons, List.drop_zero]
 still_step
 still_step
 still_step
 still_step
 still_step
 still_step
 refine wpStill_nil ?_
 change wpList _ _ _ _ _ (World.drew _)
 refine wpList_step (fun K hK => ?_)
 go_simp
 refine HGC.out.mono ?_
 rintro e w5 ⟨a', rfl, hA, hx5⟩
 refine hK _ _ ?_
 clear hK K
 have hr5 := (hx5.block (w.heap.size + 1) ((Array.getElem?_eq_some_iff.1 HRS.out).1)).trans HRS.out
 obtain ⟨w6, hw6⟩ : ∃ w6, w5.setRow (w.heap.size + 1) (copyCV x a').cells = w6 := ⟨_, rfl⟩
 have hg6 : w5.grownBy w6 (some (w.heap.size + 1)) := by rw [← hw6]; exact setRow_grown _ _ _
 have hr6 : w6.heap[w.heap.size + 1]? = some (.cells (copyCV x a').cells 51 (0, 0)) := by rw [← hw6]; exact setRow_heap w5 _ _ _ _ _ hr5
 refine wpList_store_row (P := Tryz.prog) rfl 51 _ _ rfl (w.heap.size + 1) (copyCV x a').cells rfl rfl 51 _ hr5 (by kernel_rfl) rfl (by rw [copyCV_eq]; simp [Value.cells, Value.oneCell']) ?_
 rw [hw6]
 have HR6 := Lib.hid hr6
 have HG6 := Lib.hid hg6
 have HX5 := Lib.hid hx5
 have HA := Lib.hid hA
 clear hr5 hw6 hg6 hr6 hx5 hA
 go_wp2_with fail
 (try simp only [Exit.inBlock, Exit.then])
 refine bodyPost_ret (results_cell_row rfl _ _ (w.heap.size + 1) _ _ _ _ rfl HR6.out Tryz.underlying51 rfl (by kernel_rfl)) rfl ?_
 have hsz : w.heap.size + 1 < wS.heap.size := (Array.getElem?_eq_some_iff.1 HRS.out).1
 have hdr : wS.drew.heap.size = wS.heap.size := rfl
 refine ⟨n, a', rfl, HA.out.keep (fun b hb hlt => ?_) (fun b o hb hlt => ?_), ?_⟩
 · omega
 · exact World.cell?_of_block (w := w5) (a := ⟨b, o, none⟩) (HG6.out.block b hlt (fun e => by cases e; omega))
 · exact ((HXS.out.drew).trans HX5.out).grownB HG6.out (fun m hm => by cases hm; omega)
end Go.Proofs.YtdoeejhdenifpaaGreatDoor
