import Derived.Test.YtdoeejhdenifpaaGreatDoorA4
import Derived.Test.YtdoeejhdenifpaaGreatDoorW22
import Derived.ProofKit
import Derived.Lib.SmallJoins
import Derived.Deep.Slices
import Derived.Test.YtdoeejhdenifpaaGreatDoorRows
import Derived.Test.YtdoeejhdenifpaaGreatDoorCards
import Derived.Test.YtdoeejhdenifpaaGreatDoorTie
import Derived.Test.YtdoeejhdenifpaaGreatDoorA2
import Derived.OpenShut
import Derived.Lib.LaidIn
import Derived.Lib.LaidU8T
import Derived.Deep.DeepHandedRow
import Derived.Deep.DeepWitnessRowRef
import Derived.SizedLaws
import Derived.SevenTiedAt
import Derived.Test.YtdoeejhdenifpaaGreatDoorA1
import Derived.Deep.MidRow
import Derived.ArgAppend
import Derived.Laws.Rows
import Derived.Laws.ResultCell
namespace Go.Proofs.YtdoeejhdenifpaaGreatDoor
open Go.RowKit Go.Sort
def GCopyR (c : ContT) (n : Nat) (w : World) (e : Ending) (w' : World) : Prop := ∃ a', e = .returned (copyCV c a') ∧ ArgsS (fun b => w.heap.size ≤ b) w' n (.slice a' c.t.args.length c.t.args.length) (copyL c.t.args) ∧ Xt w w'
@[go_sem] theorem run_field_x (k f : Int) (x : Nat) (s : ByteArray) (b : Bool) (w : World) : (Instr.field 44 (.agg #[.int .i64 k, .float .f64 x, .string s, .bool b, .int .i64 f]) 1).run Tryz.prog w = .ok (.float .f64 x) w := by
 have u := run_underlying Tryz.underlying44
 have u2 := run_underlying Tryz.underlying42
 simp [Instr.field, u, part, asAgg]
set_option maxRecDepth 100000 in
set_option maxHeartbeats 4000000 in
theorem gcopy_any (n : Nat) (c : ContT) (a : Option Addr) (cap : Nat) (w : World) (hsm : smallT c.t) (hin : ArgsIn w n (.slice a c.t.args.length cap) c.t.args) :
    Calls Tryz.prog 49 #[contV c a c.t.args.length cap] w (GCopyR c n w) := by
 have HSM := Lib.hid hsm
 have HIN := Lib.hid hin
 have HF := Lib.hid (fcopy_any n)
 obtain ⟨B, hB⟩ : ∃ B, w.heap.size = B := ⟨_, rfl⟩
 obtain ⟨w0, hw0⟩ : ∃ w0, w.alloc (.cells #[.int .i64 c.kind, .int .i64 c.v.kind, .float .f64 c.v.x, .string c.v.s, .bool c.v.b, .int .i64 c.v.f, .int .i64 c.t.kind, .int .i64 c.t.op, .float .f64 c.t.x, .string c.t.s, .bool c.t.b, .int .i64 c.t.f, .int .i64 c.t.ref.a.1, .int .i64 c.t.ref.a.2, .bool c.t.ref.cf, .bool c.t.ref.rf, .int .i64 c.t.to.a.1, .int .i64 c.t.to.a.2, .bool c.t.to.cf, .bool c.t.to.rf, .slice a c.t.args.length cap] 51) = w0 := ⟨_, rfl⟩
 have hs0 : w0.heap.size = B + 1 := by rw [← hw0, ← hB]; simp
 have hb0 : w0.heap[B]? = some (.cells #[.int .i64 c.kind, .int .i64 c.v.kind, .float .f64 c.v.x, .string c.v.s, .bool c.v.b, .int .i64 c.v.f, .int .i64 c.t.kind, .int .i64 c.t.op, .float .f64 c.t.x, .string c.t.s, .bool c.t.b, .int .i64 c.t.f, .int .i64 c.t.ref.a.1, .int .i64 c.t.ref.a.2, .bool c.t.ref.cf, .bool c.t.ref.rf, .int .i64 c.t.to.a.1, .int .i64 c.t.to.a.2, .bool c.t.to.cf, .bool c.t.to.rf, .slice a c.t.args.length cap] 51 (0, 0)) := by rw [← hw0, ← hB]; exact (MapKept.heap_alloc w _).1
 have hx0 : Xt w w0 := by rw [← hw0]; exact (Xt.refl w).alloc _
 obtain ⟨wS, hwS⟩ : ∃ wS, w0.alloc (.cells #[.int .i64 0, .int .i64 0, .float .f64 0, .string ⟨#[]⟩, .bool false, .int .i64 0, .int .i64 0, .int .i64 0, .float .f64 0, .string ⟨#[]⟩, .bool false, .int .i64 0, .int .i64 0, .int .i64 0, .bool false, .bool false, .int .i64 0, .int .i64 0, .bool false, .bool false, .slice none 0 0] 51) = wS := ⟨_, rfl⟩
 have hxS : Xt w wS := by rw [← hwS]; exact hx0.alloc _
 have hbS : wS.heap[B]? = some (.cells #[.int .i64 c.kind, .int .i64 c.v.kind, .float .f64 c.v.x, .string c.v.s, .bool c.v.b, .int .i64 c.v.f, .int .i64 c.t.kind, .int .i64 c.t.op, .float .f64 c.t.x, .string c.t.s, .bool c.t.b, .int .i64 c.t.f, .int .i64 c.t.ref.a.1, .int .i64 c.t.ref.a.2, .bool c.t.ref.cf, .bool c.t.ref.rf, .int .i64 c.t.to.a.1, .int .i64 c.t.to.a.2, .bool c.t.to.cf, .bool c.t.to.rf, .slice a c.t.args.length cap] 51 (0, 0)) := by rw [← hwS]; exact (Below.heap_alloc w0 _ B (by omega)).trans hb0
 have hrS : wS.heap[B + 1]? = some (.cells #[.int .i64 0, .int .i64 0, .float .f64 0, .string ⟨#[]⟩, .bool false, .int .i64 0, .int .i64 0, .int .i64 0, .float .f64 0, .string ⟨#[]⟩, .bool false, .int .i64 0, .int .i64 0, .int .i64 0, .bool false, .bool false, .int .i64 0, .int .i64 0, .bool false, .bool false, .slice none 0 0] 51 (0, 0)) := by rw [← hwS, ← hs0]; exact (MapKept.heap_alloc w0 _).1
 have hsS : B + 1 < wS.heap.size := (Array.getElem?_eq_some_iff.1 hrS).1
 have HB := Lib.hid hB
 have HXS := Lib.hid hxS
 have HBS := Lib.hid hbS
 have HRS := Lib.hid hrS
 obtain ⟨c0, c1, c2, c3, c4, c5, c6, c7, c8, c9, c10, c11, c12, c13, c14, c15, c16, c17, c18, c19, c20⟩ := cells21 hbS
 clear hsm hin hxS hbS hrS hx0 hb0
 generalize hQ : GCopyR c n w = Q
 go_enter Tryz.func49, Tryz.ntmps49
 have hHs : w.heap.size = B := hB
 go_wp2_with (refine (OfNumber_any _ _).mono ?_; rintro e w1 ⟨rfl, hg1⟩
              have hb1 := (hg1.below.block B (by omega)).trans HBS.out
              have hr1 := (hg1.below.block (B + 1) hsS).trans HRS.out
              have hx1 := hg1.xt
              obtain ⟨d0, d1, d2, d3, d4, d5, d6, d7, d8, d9, d10, d11, d12, d13, d14, d15, d16, d17, d18, d19, d20⟩ := cells21 hb1
              obtain ⟨f0, f1, f2, f3, f4, f5, f6, f7, f8, f9, f10, f11, f12, f13, f14, f15, f16, f17, f18, f19, f20⟩ := frozen21 hb1)
 obtain ⟨w2, hw2⟩ : ∃ w2, w1.setCell ⟨B, 2, none⟩ (.float .f64 (oneX c.v.x)) = w2 := ⟨_, rfl⟩
 rw [hw2]
 have hb2 : w2.heap[B]? = some (.cells #[.int .i64 c.kind, .int .i64 c.v.kind, .float .f64 (oneX c.v.x), .string c.v.s, .bool c.v.b, .int .i64 c.v.f, .int .i64 c.t.kind, .int .i64 c.t.op, .float .f64 c.t.x, .string c.t.s, .bool c.t.b, .int .i64 c.t.f, .int .i64 c.t.ref.a.1, .int .i64 c.t.ref.a.2, .bool c.t.ref.cf, .bool c.t.ref.rf, .int .i64 c.t.to.a.1, .int .i64 c.t.to.a.2, .bool c.t.to.cf, .bool c.t.to.rf, .slice a c.t.args.length cap] 51 (0, 0)) := by rw [← hw2]; have := setCell_row hb1 2 (.float .f64 (oneX c.v.x)); simpa using this
 have hr2 : w2.heap[B + 1]? = some (.cells #[.int .i64 0, .int .i64 0, .float .f64 0, .string ⟨#[]⟩, .bool false, .int .i64 0, .int .i64 0, .int .i64 0, .float .f64 0, .string ⟨#[]⟩, .bool false, .int .i64 0, .int .i64 0, .int .i64 0, .bool false, .bool false, .int .i64 0, .int .i64 0, .bool false, .bool false, .slice none 0 0] 51 (0, 0)) := by rw [← hw2]; exact (Below.heap_setCell _ _ _ _ (by show B + 1 ≠ B; omega)).trans hr1
 have hx2 : Xt w w2 := by rw [← hw2]; exact (HXS.out.trans hx1).grownB (setCell_grown _ _ _ _) (fun m hm => by cases hm; omega)
 have hs2 : B + 1 < w2.heap.size := (Array.getElem?_eq_some_iff.1 hr2).1
 clear c0 c1 c2 c3 c4 c5 c6 c7 c8 c9 c10 c11 c12 c13 c14 c15 c16 c17 c18 c19 c20 d0 d1 d2 d3 d4 d5 d6 d7 d8 d9 d10 d11 d12 d13 d14 d15 d16 d17 d18 d19 d20 f0 f1 f2 f3 f4 f5 f6 f7 f8 f9 f10 f11 f12 f13 f14 f15 f16 f17 f18 f19 f20 hb1 hr1 hg1 hx1 hw2
 refine (HF.out c.t a cap w2 HSM.out (HIN.out.xt hx2)).mono ?_
 rintro e w3 ⟨a', rfl, hA, hx3⟩
 have hb3 := (hx3.block B (by omega)).trans hb2
 have hr3 := (hx3.block (B + 1) hs2).trans hr2
 have HX3 := Lib.hid hx3
 have HA := Lib.hid hA
 have HX2 := Lib.hid hx2
 obtain ⟨w4, hw4⟩ : ∃ w4, w3.setCells B 6 [.int .i64 c.t.kind, .int .i64 c.t.op, .float .f64 (oneX c.t.x), .string c.t.s, .bool c.t.b, .int .i64 c.t.f, .int .i64 c.t.ref.a.1, .int .i64 c.t.ref.a.2, .bool c.t.ref.cf, .bool c.t.ref.rf, .int .i64 c.t.to.a.1, .int .i64 c.t.to.a.2, .bool c.t.to.cf, .bool c.t.to.rf, .slice a' c.t.args.length c.t.args.length] = w4 := ⟨_, rfl⟩
 have hg4 : w3.grownBy w4 (some B) := by rw [← hw4]; exact setCells_grown B _ 6 w3
 have hb4 := fill15at6 (u0 := .int .i64 c.t.kind) (u1 := .int .i64 c.t.op) (u2 := .float .f64 (oneX c.t.x)) (u3 := .string c.t.s) (u4 := .bool c.t.b) (u5 := .int .i64 c.t.f) (u6 := .int .i64 c.t.ref.a.1) (u7 := .int .i64 c.t.ref.a.2) (u8 := .bool c.t.ref.cf) (u9 := .bool c.t.ref.rf) (u10 := .int .i64 c.t.to.a.1) (u11 := .int .i64 c.t.to.a.2) (u12 := .bool c.t.to.cf) (u13 := .bool c.t.to.rf) (u14 := .slice a' c.t.args.length c.t.args.length) hb3
 rw [hw4] at hb4
 have hr4 := (hg4.block (B + 1) (Array.getElem?_eq_some_iff.1 hr3).1 (by simp)).trans hr3
 obtain ⟨w5, hw5⟩ : ∃ w5, w4.setRow (B + 1) #[.int .i64 c.kind, .int .i64 c.v.kind, .float .f64 (oneX c.v.x), .string c.v.s, .bool c.v.b, .int .i64 c.v.f, .int .i64 c.t.kind, .int .i64 c.t.op, .float .f64 (oneX c.t.x), .string c.t.s, .bool c.t.b, .int .i64 c.t.f, .int .i64 c.t.ref.a.1, .int .i64 c.t.ref.a.2, .bool c.t.ref.cf, .bool c.t.ref.rf, .int .i64 c.t.to.a.1, .int .i64 c.t.to.a.2, .bool c.t.to.cf, .bool c.t.to.rf, .slice a' c.t.args.length c.t.args.length] = w5 := ⟨_, rfl⟩
 have hg5 : w4.grownBy w5 (some (B + 1)) := by rw [← hw5]; exact setRow_grown _ _ _
 have hr5 : w5.heap[B + 1]? = some (.cells #[.int .i64 c.kind, .int .i64 c.v.kind, .float .f64 (oneX c.v.x), .string c.v.s, .bool c.v.b, .int .i64 c.v.f, .int .i64 c.t.kind, .int .i64 c.t.op, .float .f64 (oneX c.t.x), .string c.t.s, .bool c.t.b, .int .i64 c.t.f, .int .i64 c.t.ref.a.1, .int .i64 c.t.ref.a.2, .bool c.t.ref.cf, .bool c.t.ref.rf, .int .i64 c.t.to.a.1, .int .i64 c.t.to.a.2, .bool c.t.to.cf, .bool c.t.to.rf, .slice a' c.t.args.length c.t.args.length] 51 (0, 0)) := by rw [← hw5]; exact setRow_heap w4 (B + 1) _ _ _ _ hr4
 have HG4 := Lib.hid hg4
 have HG5 := Lib.hid hg5
 have HR5 := Lib.hid hr5
 have hs3 : B + 1 < w3.heap.size := (Array.getElem?_eq_some_iff.1 hr3).1
 have hth := Lib.hid (there_row hb3 6 15 (by simp))
 have HW4 := Lib.hid hw4
 have HW5 := Lib.hid hw5
 have HB4 := Lib.hid hb4
 have HR4 := Lib.hid hr4
 clear hb2 hr2 hx2 hb3 hr3 hx3 hA hw4 hb4 hr4 hw5 hg4 hg5 hr5
 go_wp2_with (first
  | (refine wpList_store_mid (P := Tryz.prog) rfl 49 _ _ rfl B 6 #[.int .i64 c.t.kind, .int .i64 c.t.op, .float .f64 (oneX c.t.x), .string c.t.s, .bool c.t.b, .int .i64 c.t.f, .int .i64 c.t.ref.a.1, .int .i64 c.t.ref.a.2, .bool c.t.ref.cf, .bool c.t.ref.rf, .int .i64 c.t.to.a.1, .int .i64 c.t.to.a.2, .bool c.t.to.cf, .bool c.t.to.rf, .slice a' c.t.args.length c.t.args.length] rfl rfl hth.out (by kernel_rfl) (by simp [Value.oneCell']) ?_; rw [HW4.out])
  | (refine wpList_load_row (P := Tryz.prog) rfl 51 _ rfl B rfl 51 _ (0, 0) _ HB4.out Tryz.underlying51 rfl (by kernel_rfl) ?_)
  | (refine wpList_store_row (P := Tryz.prog) rfl 51 _ _ rfl (B + 1) #[.int .i64 c.kind, .int .i64 c.v.kind, .float .f64 (oneX c.v.x), .string c.v.s, .bool c.v.b, .int .i64 c.v.f, .int .i64 c.t.kind, .int .i64 c.t.op, .float .f64 (oneX c.t.x), .string c.t.s, .bool c.t.b, .int .i64 c.t.f, .int .i64 c.t.ref.a.1, .int .i64 c.t.ref.a.2, .bool c.t.ref.cf, .bool c.t.ref.rf, .int .i64 c.t.to.a.1, .int .i64 c.t.to.a.2, .bool c.t.to.cf, .bool c.t.to.rf, .slice a' c.t.args.length c.t.args.length] rfl rfl 51 _ HR4.out (by kernel_rfl) rfl (by simp [Value.oneCell']) ?_; rw [HW5.out]))
 (try simp only [Exit.inBlock, Exit.then])
 refine bodyPost_ret (results_cell_row rfl _ _ (B + 1) _ _ _ _ rfl HR5.out Tryz.underlying51 rfl (by kernel_rfl)) rfl ?_
 rw [← hQ]
 refine ⟨a', by rw [copyCV_eq], HA.out.keep (fun b hb hlt => ?_) (fun b o hb hlt => ?_), ?_⟩
 · have := HX2.out.sz; omega
 · have : B + 1 < b := by omega
   exact World.cell?_of_block (w := w3) (a := ⟨b, o, none⟩) ((HG5.out.block b (by have := HG4.out.size; omega) (fun e => by cases e; omega)).trans (HG4.out.block b hlt (fun e => by cases e; omega)))
 · exact ((HX2.out.trans HX3.out).grownB HG4.out (fun m hm => by cases hm; omega)).grownB HG5.out (fun m hm => by cases hm; omega)
end Go.Proofs.YtdoeejhdenifpaaGreatDoor
namespace Go.Proofs.YtdoeejhdenifpaaGreatDoor
open Go.RowKit Go.Sort
theorem stoodAd : Tryz.prog.stoodInHeld 24 = false := by kernel_rfl
theorem undAd : Tryz.prog.underlying 24 = some (.struct (Tryz.prog.fieldsOf 24)) := by kernel_rfl
theorem eqAd (w : World) (a b : Ad) : (Op.equal 24 (adV a) (adV b)).run Tryz.prog w = .ok (decide (a = b)) w := by
 obtain ⟨a1, a2⟩ := a
 obtain ⟨b1, b2⟩ := b
 have h := run_equalIn_struct (P := Tryz.prog) w 9999 24 #[.int .i64 a1, .int .i64 a2] #[.int .i64 b1, .int .i64 b2] undAd stoodAd
 simp only [Op.equal, Op.maxDepth, adV]
 rw [show (10000 : Nat) = 9999 + 1 from rfl, h]
 simp only [Program.fieldsOf, Tryz.underlying24]
 go_simp
 by_cases h1 : a1 = b1 <;> by_cases h2 : a2 = b2 <;> simp [h1, h2]
theorem checkAd (w : World) (em : Bool) (a : Ad) : (Instr.checkKey em 10000 24 (adV a)).run Tryz.prog w = .ok () w := by
 rw [show (10000 : Nat) = 9998 + 1 + 1 from rfl, Instr.checkKey]
 simp only [adV, Sem.run_bind, run_underlying Tryz.underlying24, Result.andThen_ok]
 go_simp
 have h3 : ∀ n W, (Instr.checkKey em 9999 3 (Value.int IntKind.i64 n)).run Tryz.prog W = .ok () W := fun n W => MapKept.run_checkKey (P := Tryz.prog) (w := W) Tryz.underlying3 (by simp [MapKept.IsKey]) em 9998
 simp only [h3, Result.andThen_ok]
theorem adrKey : AdrKey Tryz.prog 24 := ⟨⟨_, Tryz.underlying24⟩, checkAd, eqAd⟩
def zeroC : ContT := ⟨0, ⟨0, 0, ⟨#[]⟩, false, 0⟩, .mk 0 0 0 ⟨#[]⟩ false 0 ⟨(0, 0), false, false⟩ ⟨(0, 0), false, false⟩ []⟩
theorem zeroCon (w : World) : (zeroValue 51).run Tryz.prog w = .ok (contV zeroC none 0 0) w := by kernel_rfl
theorem GridIs.look {w : World} {gb mb : Nat} {M : GM} (h : GridIs w gb mb M) (a : Ad) : ∃ E, MapIs w mb E ∧ (∀ a, lk a E = (lkM a M).map ceV) ∧ (lk a E).getD (contV zeroC none 0 0) = ceV ((lkM a M).getD (zeroC, none)) := by
 obtain ⟨E, hm, he⟩ := h.map
 refine ⟨E, hm, he, ?_⟩
 rw [he a]
 cases lkM a M <;> rfl
theorem GridIs.lookIn {w : World} {gb mb : Nat} {M : GM} (h : GridIs w gb mb M) (a : Ad) : ceIn w ((lkM a M).getD (zeroC, none)) := by
 cases hl : lkM a M with
 | none => exact ⟨by simp [zeroC, smallT, smallL], 0, ⟨rfl, none, 0, rfl, by simp⟩⟩
 | some x => exact h.args _ (lkM_mem hl)
set_option maxRecDepth 100000 in
theorem gnew_any (w : World) : Calls Tryz.prog 35 #[] w fun e w' => e = .returned (.pointer (some ⟨w.heap.size + 1, 0, none⟩)) ∧ GridIs w' (w.heap.size + 1) w.heap.size [] ∧ Gr w w' := by
 have hmm := @run_makeMap Tryz.prog
 go_enter Tryz.func35, Tryz.ntmps35
 go_wp2
 go_ret
 refine ⟨rfl, ⟨by simp, ⟨[], ?_, fun a => rfl⟩, List.Pairwise.nil, (fun x hx => by cases hx), by simp⟩, ((Gr.refl _).alloc _).alloc _⟩
 rw [MapIs_alloc _ _ _ _ (by simp)]; exact MapIs.made w
theorem glen_any (gb mb : Nat) (M : GM) (w : World) (h : GridIs w gb mb M) : Calls Tryz.prog 19 #[.pointer (some ⟨gb, 0, none⟩)] w fun e w' => e = .returned (.int .i64 M.length) ∧ w = w' := by
 have hc := h.cell
 obtain ⟨E, hm, he⟩ := h.map
 have hl : ∀ ty, (Builtin.len_ #[100] ty #[.map (some mb)]).run Tryz.prog w = .ok (.int .i64 M.length) w := fun ty => by rw [← h.len hm he]; exact hm.len Tryz.underlying100
 clear hm he h
 go_enter Tryz.func19, Tryz.ntmps19
 go_wp2
 go_ret
 exact ⟨rfl, rfl⟩
set_option maxRecDepth 100000 in
set_option maxHeartbeats 4000000 in
theorem gget_any (gb mb : Nat) (M : GM) (a : Ad) (w : World) (h : GridIs w gb mb M) : Calls Tryz.prog 15 #[.pointer (some ⟨gb, 0, none⟩), .agg #[.int .i64 a.1, .int .i64 a.2]] w fun e w' =>
    ∃ n a', e = .returned (copyCV ((lkM a M).getD (zeroC, none)).1 a') ∧ ArgsS (fun b => w.heap.size ≤ b) w' n (.slice a' ((lkM a M).getD (zeroC, none)).1.t.args.length ((lkM a M).getD (zeroC, none)).1.t.args.length) (copyL ((lkM a M).getD (zeroC, none)).1.t.args) ∧ Xt w w' := by
 obtain ⟨w0, hw0, hb0, hs0, c0, c1⟩ := box1 w a.1 a.2 24
 have hx0 : Xt w w0 := by rw [← hw0]; exact (Xt.refl _).alloc _
 obtain ⟨hsm, n, hin⟩ := h.lookIn a
 obtain ⟨E, hm, he, hlk⟩ := h.look a
 generalize (lkM a M).getD (zeroC, none) = x at hsm hin hlk ⊢
 obtain ⟨x, xa⟩ := x
 obtain ⟨wS, hwS⟩ : ∃ wS, w0.alloc (.cells #[.int .i64 0, .int .i64 0, .float .f64 0, .string ⟨#[]⟩, .bool false, .int .i64 0, .int .i64 0, .int .i64 0, .float .f64 0, .string ⟨#[]⟩, .bool false, .int .i64 0, .int .i64 0, .int .i64 0, .bool false, .bool false, .int .i64 0, .int .i64 0, .bool false, .bool false, .slice none 0 0] 51) = wS := ⟨_, rfl⟩
 have hxS : Xt w wS := by rw [← hwS]; exact hx0.alloc _
 have hrS : wS.heap[w.heap.size + 1]? = some (.cells #[.int .i64 0, .int .i64 0, .float .f64 0, .string ⟨#[]⟩, .bool false, .int .i64 0, .int .i64 0, .int .i64 0, .float .f64 0, .string ⟨#[]⟩, .bool false, .int .i64 0, .int .i64 0, .int .i64 0, .bool false, .bool false, .int .i64 0, .int .i64 0, .bool false, .bool false, .slice none 0 0] 51 (0, 0)) := by rw [← hwS, ← hs0]; exact (MapKept.heap_alloc w0 _).1
 have hl : (Instr.lookup 100 (.map (some mb)) (.agg #[.int .i64 a.1, .int .i64 a.2]) false).run Tryz.prog wS.drew = .ok (contV x xa x.t.args.length x.t.args.length) wS.drew := by
  have := (hm.of_heap (hxS.block mb hm.lt) : MapIs wS mb E).lookup (w := wS.drew) (P := Tryz.prog) (t := 100) (k := 24) (e := 51) adrKey Tryz.underlying100 zeroCon a
  rw [hlk] at this; exact this
 have hc := h.cell
 have hcS := ((hxS.cells).1 gb 0 h.lt.1).trans hc
 have d0 : wS.cell? ⟨w.heap.size, 0, none⟩ = some (.int .i64 a.1) := by rw [← hwS]; exact (World.cell?_of_block (w := w0) (a := ⟨w.heap.size, 0, none⟩) (Below.heap_alloc w0 _ _ (by show w.heap.size < _; omega))).trans c0
 have d1 : wS.cell? ⟨w.heap.size, 1, none⟩ = some (.int .i64 a.2) := by rw [← hwS]; exact (World.cell?_of_block (w := w0) (a := ⟨w.heap.size, 1, none⟩) (Below.heap_alloc w0 _ _ (by show w.heap.size < _; omega))).trans c1
 have HXS := Lib.hid hxS
 have HRS := Lib.hid hrS
 have HGC := Lib.hid (gcopy_any n x xa x.t.args.length wS.drew hsm (hin.xt hxS.drew))
 clear hm he hlk hb0 hx0 hxS hrS hsm hin h
 go_enter Tryz.func15, Tryz.ntmps15
 go_wp2_with fail
 refine wp_region_still_tail 6 (by kernel_rfl) (by kernel_rfl) ?_
 change wpStill _ _ (World.drew _) _ _ _
 simp only [List.take_succ_cons, List.take_zero, List.drop_succ_cons, List.drop_zero]
 still_step
 still_step
 still_step
 still_step
 still_step
 still_step
 refine wpStill_nil ?_
 change wpList _ _ _ _ _ (World.drew _)
 refine wpList_step (fun K hK => ?_)
 go_simp
 refine HGC.out.mono ?_
 rintro e w5 ⟨a', rfl, hA, hx5⟩
 refine hK _ _ ?_
 clear hK K
 have hr5 := (hx5.block (w.heap.size + 1) ((Array.getElem?_eq_some_iff.1 HRS.out).1)).trans HRS.out
 obtain ⟨w6, hw6⟩ : ∃ w6, w5.setRow (w.heap.size + 1) (copyCV x a').cells = w6 := ⟨_, rfl⟩
 have hg6 : w5.grownBy w6 (some (w.heap.size + 1)) := by rw [← hw6]; exact setRow_grown _ _ _
 have hr6 : w6.heap[w.heap.size + 1]? = some (.cells (copyCV x a').cells 51 (0, 0)) := by rw [← hw6]; exact setRow_heap w5 _ _ _ _ _ hr5
 refine wpList_store_row (P := Tryz.prog) rfl 51 _ _ rfl (w.heap.size + 1) (copyCV x a').cells rfl rfl 51 _ hr5 (by kernel_rfl) rfl (by rw [copyCV_eq]; simp [Value.cells, Value.oneCell']) ?_
 rw [hw6]
 have HR6 := Lib.hid hr6
 have HG6 := Lib.hid hg6
 have HX5 := Lib.hid hx5
 have HA := Lib.hid hA
 clear hr5 hw6 hg6 hr6 hx5 hA
 go_wp2_with fail
 (try simp only [Exit.inBlock, Exit.then])
 refine bodyPost_ret (results_cell_row rfl _ _ (w.heap.size + 1) _ _ _ _ rfl HR6.out Tryz.underlying51 rfl (by kernel_rfl)) rfl ?_
 have hsz : w.heap.size + 1 < wS.heap.size := (Array.getElem?_eq_some_iff.1 HRS.out).1
 have hdr : wS.drew.heap.size = wS.heap.size := rfl
 refine ⟨n, a', rfl, HA.out.keep (fun b hb hlt => ?_) (fun b o hb hlt => ?_), ?_⟩
 · omega
 · exact World.cell?_of_block (w := w5) (a := ⟨b, o, none⟩) (HG6.out.block b hlt (fun e => by cases e; omega))
 · exact ((HXS.out.drew).trans HX5.out).grownB HG6.out (fun m hm => by cases hm; omega)
end Go.Proofs.YtdoeejhdenifpaaGreatDoor
namespace Go.Proofs.YtdoeejhdenifpaaGreatDoor
open Go.RowKit Go.Sort
def ContT.ok (c : ContT) : Prop := c.v.s.size < 4611686018427387904 ∧ c.t.ok ∧ c.v.x < 18446744073709551616
def gvalidB (c : ContT) : Bool :=
 if c.kind == 0 then noValB c.v && noNodeB c.t
 else if c.kind == 1 then noNodeB c.t && (c.v.kind != 0) && vvalidB c.v
 else if c.kind == 2 then noValB c.v && checkT c.t == 0
 else false
set_option maxRecDepth 100000 in
set_option maxHeartbeats 4000000 in
theorem gvalid_0 (n : Nat) (c : ContT) (a : Option Addr) (cap : Nat) (w : World) (hok : c.ok) (hT : Tabs w) (hin : ArgsIn w n (.slice a c.t.args.length cap) c.t.args) (h0 : (c.kind == 0) = true) :
    Calls Tryz.prog 62 #[contV c a c.t.args.length cap] w fun e w' => e = .returned (.bool (noValB c.v && noNodeB c.t)) ∧ Xt w w' := by
 obtain ⟨w0, hw0, hg0, hs0, hC⟩ := boxC w c a c.t.args.length cap 51
 have HG0 := Lib.hid hg0.xt
 have HC := Lib.hid hC
 have HOK := Lib.hid hok
 have HT := Lib.hid hT
 have HIN := Lib.hid hin
 obtain ⟨c0, c1, c2, c3, c4, c5, c6, c7, c8, c9, c10, c11, c12, c13, c14, c15, c16, c17, c18, c19, c20⟩ := hC
 simp only [Nat.zero_add] at c0 c1 c2 c3 c4 c5 c6 c7 c8 c9 c10 c11 c12 c13 c14 c15 c16 c17 c18 c19 c20
 clear hg0 hok hT hin
 have H1 := Lib.hid (noValue_any c.v w0)
 have H2 := Lib.hid (noNode_any c.t a cap)
 generalize noValB c.v = r1 at H1 ⊢
 generalize noNodeB c.t = r2 at H2 ⊢
 go_enter Tryz.func62, Tryz.ntmps62
 go_wp2_with fail
 refine (H1.out).mono ?_
 rintro e w1 ⟨rfl, hg⟩
 have HG1 := Lib.hid (HG0.out.trans hg.xt)
 have hC1 := HC.out.xt hg.xt
 have HC1 := Lib.hid hC1
 clear hg c0 c1 c2 c3 c4 c5 c6 c7 c8 c9 c10 c11 c12 c13 c14 c15 c16 c17 c18 c19 c20
 obtain ⟨c0, c1, c2, c3, c4, c5, c6, c7, c8, c9, c10, c11, c12, c13, c14, c15, c16, c17, c18, c19, c20⟩ := hC1
 simp only [Nat.zero_add] at c0 c1 c2 c3 c4 c5 c6 c7 c8 c9 c10 c11 c12 c13 c14 c15 c16 c17 c18 c19 c20
 clear hw0
 cases r1 with
 | false =>
  go_wp2_with fail
  go_ret
  exact ⟨rfl, HG1.out⟩
 | true =>
  go_wp2_with fail
  refine (H2.out _).mono ?_
  rintro e w2 ⟨rfl, hg⟩
  have HG2 := Lib.hid (HG1.out.trans hg.xt)
  have hC2 := HC1.out.xt hg.xt
  have HC2 := Lib.hid hC2
  clear hg c0 c1 c2 c3 c4 c5 c6 c7 c8 c9 c10 c11 c12 c13 c14 c15 c16 c17 c18 c19 c20
  obtain ⟨c0, c1, c2, c3, c4, c5, c6, c7, c8, c9, c10, c11, c12, c13, c14, c15, c16, c17, c18, c19, c20⟩ := hC2
  simp only [Nat.zero_add] at c0 c1 c2 c3 c4 c5 c6 c7 c8 c9 c10 c11 c12 c13 c14 c15 c16 c17 c18 c19 c20
  cases r2 with
  | false =>
   go_wp2_with fail
   go_ret
   exact ⟨rfl, HG2.out⟩
  | true =>
   go_wp2_with fail
   go_ret
   exact ⟨rfl, HG2.out⟩
set_option maxRecDepth 100000 in
set_option maxHeartbeats 4000000 in
theorem gvalid_1 (n : Nat) (c : ContT) (a : Option Addr) (cap : Nat) (w : World) (hok : c.ok) (hT : Tabs w) (hin : ArgsIn w n (.slice a c.t.args.length cap) c.t.args) (h0 : (c.kind == 0) = false) (h1 : (c.kind == 1) = true) :
    Calls Tryz.prog 62 #[contV c a c.t.args.length cap] w fun e w' => e = .returned (.bool (noNodeB c.t && (c.v.kind != 0) && vvalidB c.v)) ∧ Xt w w' := by
 obtain ⟨w0, hw0, hg0, hs0, hC⟩ := boxC w c a c.t.args.length cap 51
 have HG0 := Lib.hid hg0.xt
 have HC := Lib.hid hC
 have HOK := Lib.hid hok
 have HT := Lib.hid hT
 have HIN := Lib.hid hin
 obtain ⟨c0, c1, c2, c3, c4, c5, c6, c7, c8, c9, c10, c11, c12, c13, c14, c15, c16, c17, c18, c19, c20⟩ := hC
 simp only [Nat.zero_add] at c0 c1 c2 c3 c4 c5 c6 c7 c8 c9 c10 c11 c12 c13 c14 c15 c16 c17 c18 c19 c20
 clear hg0 hok hT hin
 have H1 := Lib.hid (noNode_any c.t a cap w0)
 generalize noNodeB c.t = r1 at H1 ⊢
 generalize hr2 : (c.v.kind != 0) = r2
 generalize hr3 : vvalidB c.v = r3
 have HR3 := Lib.hid hr3
 clear hr3
 go_enter Tryz.func62, Tryz.ntmps62
 go_wp2_with fail
 refine (H1.out).mono ?_
 rintro e w1 ⟨rfl, hg⟩
 have HG1 := Lib.hid (HG0.out.trans hg.xt)
 have hC1 := HC.out.xt hg.xt
 have HC1 := Lib.hid hC1
 clear hg c0 c1 c2 c3 c4 c5 c6 c7 c8 c9 c10 c11 c12 c13 c14 c15 c16 c17 c18 c19 c20
 obtain ⟨c0, c1, c2, c3, c4, c5, c6, c7, c8, c9, c10, c11, c12, c13, c14, c15, c16, c17, c18, c19, c20⟩ := hC1
 simp only [Nat.zero_add] at c0 c1 c2 c3 c4 c5 c6 c7 c8 c9 c10 c11 c12 c13 c14 c15 c16 c17 c18 c19 c20
 clear hw0
 cases r1 with
 | false =>
  go_wp2_with fail
  go_ret
  exact ⟨rfl, HG1.out⟩
 | true =>
  cases r2 with
  | false =>
   go_wp2_with fail
   go_ret
   exact ⟨rfl, HG1.out⟩
  | true =>
   have H3 := Lib.hid (vvalid_any c.v w1 (by have := HOK.out.1; omega) (HT.out.xt HG1.out))
   rw [HR3.out] at H3
   go_wp2_with fail
   refine (H3.out).mono ?_
   rintro e w2 ⟨rfl, hg⟩
   have HG2 := Lib.hid (HG1.out.trans hg)
   have hC2 := HC1.out.xt hg
   have HC2 := Lib.hid hC2
   clear hg c0 c1 c2 c3 c4 c5 c6 c7 c8 c9 c10 c11 c12 c13 c14 c15 c16 c17 c18 c19 c20
   obtain ⟨c0, c1, c2, c3, c4, c5, c6, c7, c8, c9, c10, c11, c12, c13, c14, c15, c16, c17, c18, c19, c20⟩ := hC2
   simp only [Nat.zero_add] at c0 c1 c2 c3 c4 c5 c6 c7 c8 c9 c10 c11 c12 c13 c14 c15 c16 c17 c18 c19 c20
   cases r3 with
   | false =>
    go_wp2_with fail
    go_ret
    exact ⟨rfl, HG2.out⟩
   | true =>
    go_wp2_with fail
    go_ret
    exact ⟨rfl, HG2.out⟩
set_option maxRecDepth 100000 in
set_option maxHeartbeats 4000000 in
theorem gvalid_2 (n : Nat) (c : ContT) (a : Option Addr) (cap : Nat) (w : World) (hok : c.ok) (hT : Tabs w) (hin : ArgsIn w n (.slice a c.t.args.length cap) c.t.args) (h0 : (c.kind == 0) = false) (h1 : (c.kind == 1) = false) (h2 : (c.kind == 2) = true) :
    Calls Tryz.prog 62 #[contV c a c.t.args.length cap] w fun e w' => e = .returned (.bool (noValB c.v && checkT c.t == 0)) ∧ Xt w w' := by
 obtain ⟨w0, hw0, hg0, hs0, hC⟩ := boxC w c a c.t.args.length cap 51
 have HG0 := Lib.hid hg0.xt
 have HC := Lib.hid hC
 have HOK := Lib.hid hok
 have HT := Lib.hid hT
 have HIN := Lib.hid hin
 obtain ⟨c0, c1, c2, c3, c4, c5, c6, c7, c8, c9, c10, c11, c12, c13, c14, c15, c16, c17, c18, c19, c20⟩ := hC
 simp only [Nat.zero_add] at c0 c1 c2 c3 c4 c5 c6 c7 c8 c9 c10 c11 c12 c13 c14 c15 c16 c17 c18 c19 c20
 clear hg0 hok hT hin
 have H1 := Lib.hid (noValue_any c.v w0)
 generalize noValB c.v = r1 at H1 ⊢
 generalize hr2 : checkT c.t = r2
 generalize hz : (r2 == 0) = rz
 have HR2 := Lib.hid hr2
 clear hr2
 go_enter Tryz.func62, Tryz.ntmps62
 go_wp2_with fail
 refine (H1.out).mono ?_
 rintro e w1 ⟨rfl, hg⟩
 have HG1 := Lib.hid (HG0.out.trans hg.xt)
 have hC1 := HC.out.xt hg.xt
 have HC1 := Lib.hid hC1
 clear hg c0 c1 c2 c3 c4 c5 c6 c7 c8 c9 c10 c11 c12 c13 c14 c15 c16 c17 c18 c19 c20
 obtain ⟨c0, c1, c2, c3, c4, c5, c6, c7, c8, c9, c10, c11, c12, c13, c14, c15, c16, c17, c18, c19, c20⟩ := hC1
 simp only [Nat.zero_add] at c0 c1 c2 c3 c4 c5 c6 c7 c8 c9 c10 c11 c12 c13 c14 c15 c16 c17 c18 c19 c20
 clear hw0
 cases r1 with
 | false =>
  go_wp2_with fail
  go_ret
  exact ⟨rfl, HG1.out⟩
 | true =>
  have H2 := Lib.hid (Check_any n c.t a cap w1 HOK.out.2.1 (HT.out.xt HG1.out) (HIN.out.xt HG1.out))
  rw [HR2.out] at H2
  go_wp2_with fail
  refine (H2.out).mono ?_
  rintro e w2 ⟨rfl, hg⟩
  have HG2 := Lib.hid (HG1.out.trans hg)
  have hC2 := HC1.out.xt hg
  have HC2 := Lib.hid hC2
  clear hg c0 c1 c2 c3 c4 c5 c6 c7 c8 c9 c10 c11 c12 c13 c14 c15 c16 c17 c18 c19 c20
  obtain ⟨c0, c1, c2, c3, c4, c5, c6, c7, c8, c9, c10, c11, c12, c13, c14, c15, c16, c17, c18, c19, c20⟩ := hC2
  simp only [Nat.zero_add] at c0 c1 c2 c3 c4 c5 c6 c7 c8 c9 c10 c11 c12 c13 c14 c15 c16 c17 c18 c19 c20
  cases rz with
  | false =>
   go_wp2_with fail
   go_ret
   exact ⟨rfl, HG2.out⟩
  | true =>
   go_wp2_with fail
   go_ret
   exact ⟨rfl, HG2.out⟩
set_option maxRecDepth 100000 in
set_option maxHeartbeats 4000000 in
theorem gvalid_none (n : Nat) (c : ContT) (a : Option Addr) (cap : Nat) (w : World) (hok : c.ok) (hT : Tabs w) (hin : ArgsIn w n (.slice a c.t.args.length cap) c.t.args) (h0 : (c.kind == 0) = false) (h1 : (c.kind == 1) = false) (h2 : (c.kind == 2) = false) :
    Calls Tryz.prog 62 #[contV c a c.t.args.length cap] w fun e w' => e = .returned (.bool (false)) ∧ Xt w w' := by
 obtain ⟨w0, hw0, hg0, hs0, hC⟩ := boxC w c a c.t.args.length cap 51
 have HG0 := Lib.hid hg0.xt
 have HC := Lib.hid hC
 have HOK := Lib.hid hok
 have HT := Lib.hid hT
 have HIN := Lib.hid hin
 obtain ⟨c0, c1, c2, c3, c4, c5, c6, c7, c8, c9, c10, c11, c12, c13, c14, c15, c16, c17, c18, c19, c20⟩ := hC
 simp only [Nat.zero_add] at c0 c1 c2 c3 c4 c5 c6 c7 c8 c9 c10 c11 c12 c13 c14 c15 c16 c17 c18 c19 c20
 clear hg0 hok hT hin
 go_enter Tryz.func62, Tryz.ntmps62
 go_wp2_with fail
 go_ret
 exact ⟨rfl, HG0.out⟩
theorem gvalid_any (n : Nat) (c : ContT) (a : Option Addr) (cap : Nat) (w : World) (hok : c.ok) (hT : Tabs w) (hin : ArgsIn w n (.slice a c.t.args.length cap) c.t.args) :
    Calls Tryz.prog 62 #[contV c a c.t.args.length cap] w fun e w' => e = .returned (.bool (gvalidB c)) ∧ Xt w w' := by
 unfold gvalidB
 by_cases h0 : (c.kind == 0) = true
 · rw [if_pos h0]; exact gvalid_0 n c a cap w hok hT hin h0
 rw [if_neg h0]
 have h0 := Bool.eq_false_iff.2 h0
 by_cases h1 : (c.kind == 1) = true
 · rw [if_pos h1]; exact gvalid_1 n c a cap w hok hT hin h0 h1
 rw [if_neg h1]
 have h1 := Bool.eq_false_iff.2 h1
 by_cases h2 : (c.kind == 2) = true
 · rw [if_pos h2]; exact gvalid_2 n c a cap w hok hT hin h0 h1 h2
 rw [if_neg h2]
 exact gvalid_none n c a cap w hok hT hin h0 h1 (Bool.eq_false_iff.2 h2)
end Go.Proofs.YtdoeejhdenifpaaGreatDoor
namespace Go.Proofs.YtdoeejhdenifpaaGreatDoor
open Go.ChangeShapes Go.WideShapes Go.ChangeAt Go.RowKit Go.Joins Go.Deep
theorem Tryz.own' : ownKnob Tryz.prog.godebug = none := by kernel_rfl
theorem Tryz.laidOut' : laidOutB Tryz.prog = true := by kernel_rfl
theorem Tryz.cellsInt : Tryz.prog.cellsOf 3 = 1 := by kernel_rfl
theorem Tryz.cellsBool : Tryz.prog.cellsOf 4 = 1 := by kernel_rfl
theorem Tryz.cellsF64 : Tryz.prog.cellsOf 42 = 1 := by kernel_rfl
theorem Tryz.cellsStr : Tryz.prog.cellsOf 9 = 1 := by kernel_rfl
theorem Tryz.cellsAddr : Tryz.prog.cellsOf 24 = 2 := by kernel_rfl
theorem Tryz.cellsRef : Tryz.prog.cellsOf 46 = 4 := by kernel_rfl
theorem Tryz.cellsValue : Tryz.prog.cellsOf 44 = 5 := by kernel_rfl
theorem Tryz.cellsNode : Tryz.prog.cellsOf 49 = 15 := by kernel_rfl
theorem Tryz.cellsNodes : Tryz.prog.cellsOf 47 = 1 := by kernel_rfl
theorem Tryz.cellsContent : Tryz.prog.cellsOf 51 = 21 := by kernel_rfl
theorem ArgsIn.up {w : World} : ∀ {n : Nat} {av : Value} {l : List NodeT}, ArgsIn w n av l → ArgsIn w (n + 1) av l
 | 0, _, _, h => by obtain ⟨rfl, a, cap, rfl, hc⟩ := h; exact ⟨a, cap, rfl, Nat.zero_le _, hc, fun h => absurd rfl h⟩
 | n + 1, _, _, h => by
  obtain ⟨a, cap, rfl, h1, h2, h3⟩ := h
  refine ⟨a, cap, rfl, h1, h2, fun hne => ?_⟩
  obtain ⟨b, off, rfl, hc⟩ := h3 hne
  exact ⟨b, off, rfl, fun k t ht => let ⟨av', q1, q2⟩ := hc k t ht; ⟨av', q1, q2.up⟩⟩
theorem size_reach {s : ByteArray} (h : s.data.toList.length ≤ reachBytes) : s.size < 4611686018427387904 := by
 have e : s.size = s.data.toList.length := by rw [Array.length_toList]; rfl
 unfold reachBytes at h
 omega
section
variable {H : Type} {enc : TypeId × Value → H} {W : World} {base : Nat} {spare : Nat → Bool} {held : Bool}
theorem trod_fl {P : Program} {k : FloatKind} {ty : TypeId} {n : Nat} {cs : List Value} {x : DataW H × List MemPlace} (ht : P.underlying ty = some (.float k)) (h : DataW.trod enc P W base spare held n ty cs = some x) : ∃ v, cs = [.float k v] ∧ (Lit.float k v).wf = true := by
 cases n with
 | zero => simp [DataW.trod] at h
 | succ n =>
  unfold DataW.trod at h
  rw [ht] at h
  split at h <;> simp_all
theorem open_f64 {n : Nat} {cs : List Value} {x : DataW H × List MemPlace} (h : DataW.trod enc Tryz.prog W base spare held n 42 cs = some x) : ∃ v, cs = [.float .f64 v] ∧ v < 18446744073709551616 := by
 obtain ⟨v, h1, h2⟩ := trod_fl Tryz.underlying42 h
 exact ⟨v, h1, by simpa [Lit.wf] using h2⟩
set_option maxRecDepth 100000 in
theorem open_ad {n : Nat} {cs : List Value} {x : DataW H × List MemPlace} (h : DataW.trod enc Tryz.prog W base spare held n 24 cs = some x) : ∃ a : Ad, cs = adC a := by
 obtain ⟨y0, y1, m, hx, hl, h0, h1⟩ := trod_struct2 Tryz.underlying24 h
 rw [Tryz.cellsAddr] at hl
 match cs, hl with
 | [c0, c1], _ =>
  have g0 : DataW.trod enc Tryz.prog W base spare held m 3 [c0] = some y0 := by simpa [Tryz.cellsInt] using h0
  have g1 : DataW.trod enc Tryz.prog W base spare held m 3 [c1] = some y1 := by simpa [Tryz.cellsInt] using h1
  obtain ⟨a, e0, _, _⟩ := DataW.trod_int Tryz.underlying3 g0
  obtain ⟨b, e1, _, _⟩ := DataW.trod_int Tryz.underlying3 g1
  simp at e0 e1
  subst e0 e1
  exact ⟨(a, b), rfl⟩
set_option maxRecDepth 100000 in
theorem open_ref {n : Nat} {cs : List Value} {x : DataW H × List MemPlace} (h : DataW.trod enc Tryz.prog W base spare held n 46 cs = some x) : ∃ r : RefT, cs = [.int .i64 r.a.1, .int .i64 r.a.2, .bool r.cf, .bool r.rf] := by
 obtain ⟨xs, m, _, rfl, hl, hlen, hf⟩ := DataW.trod_struct Tryz.underlying46 h
 rw [Tryz.cellsRef] at hl
 match xs, hlen with
 | [y0, y1, y2], _ =>
  match cs, hl with
  | [c0, c1, c2, c3], _ =>
   have g0 : DataW.trod enc Tryz.prog W base spare held m 24 [c0, c1] = some y0 := by simpa [Tryz.cellsAddr] using hf 0 _ rfl
   have g1 : DataW.trod enc Tryz.prog W base spare held m 4 [c2] = some y1 := by simpa [Tryz.cellsBool] using hf 1 _ rfl
   have g2 : DataW.trod enc Tryz.prog W base spare held m 4 [c3] = some y2 := by simpa [Tryz.cellsBool] using hf 2 _ rfl
   obtain ⟨a, ea⟩ := open_ad g0
   obtain ⟨b1, e1, _⟩ := DataW.trod_bool Tryz.underlying4 g1
   obtain ⟨b2, e2, _⟩ := DataW.trod_bool Tryz.underlying4 g2
   simp only [adC, List.cons.injEq, and_true] at ea e1 e2
   obtain ⟨rfl, rfl⟩ := ea
   subst e1 e2
   exact ⟨⟨a, b1, b2⟩, rfl⟩
theorem list_of {α : Type} {p : Nat → α → Prop} : ∀ (n : Nat), (∀ i, i < n → ∃ x, p i x) → ∃ l : List α, l.length = n ∧ ∀ i x, l[i]? = some x → p i x
 | 0, _ => ⟨[], rfl, fun i x h => by simp at h⟩
 | n + 1, h => by
  obtain ⟨l, h1, h2⟩ := list_of n (fun i hi => h i (by omega))
  obtain ⟨x, hx⟩ := h n (by omega)
  refine ⟨l ++ [x], by simp [h1], fun i y hy => ?_⟩
  rcases Nat.lt_or_ge i n with hi | hi
  · rw [List.getElem?_append_left (by omega)] at hy; exact h2 i y hy
  · have : i = n := by
     have := (List.getElem?_eq_some_iff.1 hy).1
     simp [h1] at this; omega
    subst this
    rw [List.getElem?_append_right (by omega), h1, Nat.sub_self] at hy
    simp at hy; subst hy; exact hx
theorem weights_all_mem {P : Program} {e : TypeId} : ∀ {l : List (DataW H)} {d : DataW H} {q : Nat}, d ∈ l → q ∈ d.weights P e → q ∈ DataW.weightsAll P e l
 | x :: r, d, q, hd, hq => by
  simp only [DataW.weightsAll, List.mem_append]
  rcases List.mem_cons.1 hd with rfl | hd
  · exact Or.inl hq
  · exact Or.inr (weights_all_mem hd hq)
theorem okL_of : ∀ {l : List NodeT}, (∀ (i : Nat) (t : NodeT), l[i]? = some t → t.ok) → okL l
 | [], _ => by simp [okL]
 | t :: r, h => by simp only [okL]; exact ⟨h 0 t rfl, okL_of (fun i u hu => h (i + 1) u (by simpa using hu))⟩
theorem smallL_of : ∀ {l : List NodeT}, (∀ (i : Nat) (t : NodeT), l[i]? = some t → smallT t) → smallL l
 | [], _ => by simp [smallL]
 | t :: r, h => by simp only [smallL]; exact ⟨h 0 t rfl, smallL_of (fun i u hu => h (i + 1) u (by simpa using hu))⟩
set_option maxRecDepth 100000 in
set_option maxHeartbeats 1000000 in
theorem open_node : ∀ (n : Nat) {cs : List Value} {x : DataW H × List MemPlace}, DataW.trod enc Tryz.prog W base spare held n 49 cs = some x → (∀ q ∈ x.1.weights Tryz.prog 49, q ≤ reachBytes) → ∃ (t : NodeT) (av : Value), cs = nodeC t av ∧ ArgsIn W n av t.args ∧ t.ok ∧ smallT t := by
 intro n
 induction n using Nat.strongRecOn with
 | ind n ih =>
  intro cs x h hz
  obtain ⟨xs, m, hm, rfl, hl, hlen, hf⟩ := DataW.trod_struct Tryz.underlying49 h
  rw [Tryz.cellsNode] at hl
  match xs, hlen with
  | [y0, y1, y2, y3, y4, y5, y6, y7, y8], _ =>
   match cs, hl with
   | [c0, c1, c2, c3, c4, c5, c6, c7, c8, c9, c10, c11, c12, c13, c14], _ =>
    have g0 : DataW.trod enc Tryz.prog W base spare held m 3 [c0] = some y0 := by simpa [Tryz.cellsInt] using hf 0 _ rfl
    have g1 : DataW.trod enc Tryz.prog W base spare held m 3 [c1] = some y1 := by simpa [Tryz.cellsInt] using hf 1 _ rfl
    have g2 : DataW.trod enc Tryz.prog W base spare held m 42 [c2] = some y2 := by simpa [Tryz.cellsF64] using hf 2 _ rfl
    have g3 : DataW.trod enc Tryz.prog W base spare held m 9 [c3] = some y3 := by simpa [Tryz.cellsStr] using hf 3 _ rfl
    have g4 : DataW.trod enc Tryz.prog W base spare held m 4 [c4] = some y4 := by simpa [Tryz.cellsBool] using hf 4 _ rfl
    have g5 : DataW.trod enc Tryz.prog W base spare held m 3 [c5] = some y5 := by simpa [Tryz.cellsInt] using hf 5 _ rfl
    have g6 : DataW.trod enc Tryz.prog W base spare held m 46 [c6, c7, c8, c9] = some y6 := by simpa [Tryz.cellsRef] using hf 6 _ rfl
    have g7 : DataW.trod enc Tryz.prog W base spare held m 46 [c10, c11, c12, c13] = some y7 := by simpa [Tryz.cellsRef] using hf 7 _ rfl
    have g8 : DataW.trod enc Tryz.prog W base spare held m 47 [c14] = some y8 := by simpa [Tryz.cellsNodes] using hf 8 _ rfl
    obtain ⟨k, e0, _, _⟩ := DataW.trod_int Tryz.underlying3 g0
    obtain ⟨op, e1, _, _⟩ := DataW.trod_int Tryz.underlying3 g1
    obtain ⟨fx, e2, hfx⟩ := open_f64 g2
    have hz3 : ∀ q ∈ y3.1.weights Tryz.prog 9, q ≤ reachBytes := fun q hq => hz q (by simp [DataW.weights, Tryz.underlying49, DataW.weightsEach, hq])
    have hz8 : ∀ q ∈ y8.1.weights Tryz.prog 47, q ≤ reachBytes := fun q hq => hz q (by simp [DataW.weights, Tryz.underlying49, DataW.weightsEach, hq])
    obtain ⟨s, e3, es3, ws⟩ := DataW.trod_string Tryz.underlying9 g3
    rw [es3] at hz3
    obtain ⟨b, e4, _⟩ := DataW.trod_bool Tryz.underlying4 g4
    obtain ⟨f, e5, _, _⟩ := DataW.trod_int Tryz.underlying3 g5
    obtain ⟨r1, e6⟩ := open_ref g6
    obtain ⟨r2, e7⟩ := open_ref g7
    simp only [List.cons.injEq, and_true] at e0 e1 e2 e3 e4 e5 e6 e7
    obtain ⟨rfl, rfl, rfl, rfl⟩ := e6
    obtain ⟨rfl, rfl, rfl, rfl⟩ := e7
    subst e0 e1 e2 e3 e4 e5
    have hs : s.size < 4611686018427387904 := size_reach (hz3 s.data.toList.length (by simp [DataW.weights]))
    have harg : ∃ l : List NodeT, ArgsIn W n c14 l ∧ okL l ∧ l.length ≤ 1099511627744 ∧ smallL l := by
     rcases DataW.trod_slice Tryz.underlying47 g8 with ⟨h0, _⟩ | ⟨a, len, cap, elems, rest, q, hq, hcs, hx, hb, hlc, hcap, hle, hel, _, _⟩
     · cases h0
       rw [hm]
       exact ⟨[], ⟨none, 0, rfl, by simp, by omega, fun h => absurd rfl h⟩, by simp [okL], by simp, by simp [smallL]⟩
     · cases hcs
       rw [Tryz.cellsNode] at hel
       rw [hx] at hz8
       have hlen128 : len ≤ 1099511627744 := by
        have h := hz8 ((elems.length + rest.length) * Tryz.prog.bytesOf 49) (by
         simp only [DataW.weights, Tryz.underlying47, List.length_map, List.mem_cons, true_or])
        rw [show Tryz.prog.bytesOf 49 = 128 by kernel_rfl] at h
        unfold reachBytes at h
        omega
       have each : ∀ i, i < len → ∃ u : NodeT, ∃ av : Value, (∀ (j : Nat) (c : Value), (nodeC u av)[j]? = some c → W.cell? (a.add (i * 15 + j)) = some c) ∧ ArgsIn W q av u.args ∧ u.ok ∧ smallT u := by
        intro i hil
        have hi := hel i hil
        rw [List.getElem?_eq_getElem (by omega)] at hi
        obtain ⟨cs', h1, h2⟩ := Option.bind_eq_some_iff.1 hi
        obtain ⟨u, av, rfl, hin, hok, hsu⟩ := ih q (by omega) h2 (fun z hq => hz8 z (by
         simp only [DataW.weights, Tryz.underlying47, List.mem_cons, List.mem_append]
         exact Or.inr (Or.inl (weights_all_mem (List.mem_map.2 ⟨_, List.getElem_mem (by omega), rfl⟩) hq))))
        obtain ⟨_, hlen, hcell⟩ := World.cells?_some h1
        refine ⟨u, av, fun j c hj => ?_, hin, hok, hsu⟩
        have hjs : j < 15 := (List.getElem?_eq_some_iff.1 hj).1
        rw [← add_add, hcell j hjs, hj]
       obtain ⟨l, hl1, hl2⟩ := list_of len each
       refine ⟨l, ?_, okL_of fun i t ht => (let ⟨_, _, _, h, _⟩ := hl2 i t ht; h), by omega, smallL_of fun i t ht => (let ⟨_, _, _, _, h⟩ := hl2 i t ht; h)⟩
       rw [hm, hq]
       refine ⟨some a, cap, by rw [hl1], by omega, by unfold maxLen at hcap; omega, fun hne => ?_⟩
       obtain ⟨bb, o, spot⟩ := a
       obtain ⟨y, hy⟩ : ∃ y, l[0]? = some y := by
        cases l with
        | nil => exact absurd rfl hne
        | cons y _ => exact ⟨y, rfl⟩
       obtain ⟨av0, hc0, _⟩ := hl2 0 y hy
       have hspot : spot = none := by simpa [Addr.add] using World.cell?_spot (hc0 0 _ rfl)
       subst hspot
       refine ⟨bb, o, rfl, fun k t ht => ?_⟩
       obtain ⟨av, hcell, hin, _⟩ := hl2 k t ht
       refine ⟨av, fun i u hu => ?_, hin.up⟩
       have := hcell i u hu
       rw [Addr.add_lit] at this
       rwa [← Nat.add_assoc] at this
    obtain ⟨l, hin, hok, hln, hsl⟩ := harg
    exact ⟨.mk k op fx s b f r1 r2 l, c14, rfl, hin, by simp only [NodeT.ok]; exact ⟨hs, hfx, hok⟩, by simp only [smallT]; exact ⟨hln, hsl⟩⟩
set_option maxRecDepth 100000 in
theorem open_content {n : Nat} {cs : List Value} {x : DataW H × List MemPlace} (h : DataW.trod enc Tryz.prog W base spare held n 51 cs = some x) (hz : ∀ q ∈ x.1.weights Tryz.prog 51, q ≤ reachBytes) : ∃ (c : ContT) (a : Option Addr) (cap d : Nat), Value.agg cs.toArray = contV c a c.t.args.length cap ∧ ArgsIn W d (.slice a c.t.args.length cap) c.t.args ∧ c.ok ∧ smallT c.t := by
 obtain ⟨xs, m, hm, rfl, hl, hlen, hf⟩ := DataW.trod_struct Tryz.underlying51 h
 rw [Tryz.cellsContent] at hl
 match xs, hlen with
 | [y0, y1, y2], _ =>
  match cs, hl with
  | [c0, v0, v1, v2, v3, v4, n0, n1, n2, n3, n4, n5, n6, n7, n8, n9, n10, n11, n12, n13, n14], _ =>
   have g0 : DataW.trod enc Tryz.prog W base spare held m 3 [c0] = some y0 := by simpa [Tryz.cellsInt] using hf 0 _ rfl
   have g1 : DataW.trod enc Tryz.prog W base spare held m 44 [v0, v1, v2, v3, v4] = some y1 := by simpa [Tryz.cellsValue] using hf 1 _ rfl
   have g2 : DataW.trod enc Tryz.prog W base spare held m 49 [n0, n1, n2, n3, n4, n5, n6, n7, n8, n9, n10, n11, n12, n13, n14] = some y2 := by simpa [Tryz.cellsNode] using hf 2 _ rfl
   obtain ⟨k, e0, _, _⟩ := DataW.trod_int Tryz.underlying3 g0
   have hz1 : ∀ q ∈ y1.1.weights Tryz.prog 44, q ≤ reachBytes := fun q hq => hz q (by simp [DataW.weights, Tryz.underlying51, DataW.weightsEach, hq])
   have hz2 : ∀ q ∈ y2.1.weights Tryz.prog 49, q ≤ reachBytes := fun q hq => hz q (by simp [DataW.weights, Tryz.underlying51, DataW.weightsEach, hq])
   obtain ⟨zs, m2, _, rfl, hl2, hlen2, hf2⟩ := DataW.trod_struct Tryz.underlying44 g1
   obtain ⟨t, av, et, hin, hok, hsm⟩ := open_node m g2 hz2
   match zs, hlen2 with
   | [z0, z1, z2, z3, z4], _ =>
    have p0 : DataW.trod enc Tryz.prog W base spare held m2 3 [v0] = some z0 := by simpa [Tryz.cellsInt] using hf2 0 _ rfl
    have p1 : DataW.trod enc Tryz.prog W base spare held m2 42 [v1] = some z1 := by simpa [Tryz.cellsF64] using hf2 1 _ rfl
    have p2 : DataW.trod enc Tryz.prog W base spare held m2 9 [v2] = some z2 := by simpa [Tryz.cellsStr] using hf2 2 _ rfl
    have p3 : DataW.trod enc Tryz.prog W base spare held m2 4 [v3] = some z3 := by simpa [Tryz.cellsBool] using hf2 3 _ rfl
    have p4 : DataW.trod enc Tryz.prog W base spare held m2 3 [v4] = some z4 := by simpa [Tryz.cellsInt] using hf2 4 _ rfl
    obtain ⟨vk, f0, _, _⟩ := DataW.trod_int Tryz.underlying3 p0
    obtain ⟨vx, f1, hvx⟩ := open_f64 p1
    obtain ⟨vs, f2, es2, ws⟩ := DataW.trod_string Tryz.underlying9 p2
    have hws : vs.size < 4611686018427387904 := size_reach (hz1 vs.data.toList.length (by simp [DataW.weights, Tryz.underlying44, DataW.weightsEach, es2]))
    obtain ⟨vb, f3, _⟩ := DataW.trod_bool Tryz.underlying4 p3
    obtain ⟨vf, f4, _, _⟩ := DataW.trod_int Tryz.underlying3 p4
    obtain ⟨a, cap, rfl, _, _⟩ := hin.shape
    simp only [nodeC, List.cons.injEq, and_true] at e0 f0 f1 f2 f3 f4 et
    obtain ⟨rfl, rfl, rfl, rfl, rfl, rfl, rfl, rfl, rfl, rfl, rfl, rfl, rfl, rfl, rfl⟩ := et
    subst e0 f0 f1 f2 f3 f4
    exact ⟨⟨k, ⟨vk, vx, vs, vb, vf⟩, t⟩, a, cap, m, rfl, hin, ⟨hws, hok, hvx⟩, hsm⟩
end
end Go.Proofs.YtdoeejhdenifpaaGreatDoor
/- The laid tables of unicode/utf8, and what comes in, opened. -/
namespace Go.Proofs.YtdoeejhdenifpaaGreatDoor
open Go.ChangeShapes Go.WideShapes Go.ChangeAt Go.RowKit Go.Joins Go.Deep Go.Shelf
noncomputable def laidWorld (os : Os) : World :=
 let w0 := World.holding Tryz.prog os ⟨#[], #[], []⟩
 let put (h : Array Obj) (g : Nat) (cs : Array Value) : Array Obj := h.modify g fun
  | .cells _ t frozen => .cells cs t frozen
  | o => o
 let h1 := put w0.heap 1 (Lib.firstTab.map fun z => Value.int .u8 z).toArray
 let h2 := put h1 2 ((List.range 16).flatMap fun i => [Value.int .u8 (Lib.accLo i), Value.int .u8 (Lib.accHi i)]).toArray
 { w0 with heap := h2 }
theorem acc_is : (Rows.laid_unicode_utf8_acceptRanges : DataW Unit) = Lib.acceptData := by kernel_rfl
theorem fst_is : (Rows.laid_unicode_utf8_first : DataW Unit) = Lib.firstData := by kernel_rfl
abbrev laidL : List (String × DataW Unit) := [("unicode/utf8.acceptRanges", Rows.laid_unicode_utf8_acceptRanges), ("unicode/utf8.first", Rows.laid_unicode_utf8_first)]
theorem laid_met (os : Os) (args : Array Value) : laidMet Tryz.prog laidL ((laidWorld os).forCall (fun _ _ => 0) ⟨#[], args, []⟩).memory :=
 (LaidIn.of_run (l := [("unicode/utf8.acceptRanges", Rows.laid_unicode_utf8_acceptRanges), ("unicode/utf8.first", Rows.laid_unicode_utf8_first)]) [2, 1] 8 (by kernel_rfl) (by kernel_rfl) (by kernel_rfl) (by kernel_rfl)).met
theorem tabs_of {W : World} (hL : laidMetH Tryz.prog laidL W) : Tabs W := by
 have h1 := Lib.laidMet.reads hL (.head _)
 have h2 := Lib.laidMet.reads hL (.tail _ (.head _))
 rw [acc_is] at h1
 rw [fst_is] at h2
 exact utf8Tabs_of_readsT (U8Types.of196 Tryz.valid8) ⟨by kernel_rfl, by kernel_rfl, by kernel_rfl, by kernel_rfl, by kernel_rfl, by kernel_rfl, by kernel_rfl⟩ h2 h1
theorem laid_metH (os : Os) (args : Array Value) : laidMetH Tryz.prog laidL ((laidWorld os).forCall (fun _ _ => 0) ⟨#[], args, []⟩).memory :=
 laidMetH_of_parts (laid_met os args) (by kernel_rfl)
end Go.Proofs.YtdoeejhdenifpaaGreatDoor
/- formula.Copy's rounds, with the rows that its lists lie in (made by mk52.py). -/
namespace Go.Proofs.YtdoeejhdenifpaaGreatDoor
open Go.RowKit Go.Sort
def NodeRow (w : World) (b : Nat) : Prop := ∃ (cur : Array Value) (cap : Nat), w.heap[b]? = some (.cells cur 49 (0, 0)) ∧ cur.size = cap * 15
theorem NodeRow.of_heap {w w' : World} {b : Nat} (h : NodeRow w b) (e : w'.heap[b]? = w.heap[b]?) : NodeRow w' b := let ⟨cur, cap, h1, h2⟩ := h; ⟨cur, cap, e.trans h1, h2⟩
structure CopyRowsR (wr : World) (S : Nat) (n : Nat) (ob : Option Nat) (l : List NodeT) (R : List (NodeT × Value)) : Prop where
 fst : R.map Prod.fst = copyL l
 args : ∀ (k : Nat) (r : NodeT × Value), R[k]? = some r → ∃ n', n = n' + 1 ∧ ArgsS (fun b => (S ≤ b ∧ ob ≠ some b) ∧ NodeRow wr b) wr n' r.2 r.1.args
structure CopyStR (w : World) (n : Nat) (t2 : NodeT) (l : List NodeT) (wr : World) (i : Nat) (va : Option Addr) (vn vc : Nat) : Prop where
 box : NodeAt wr w.heap.size 0 t2 va vn vc
 f14 : wr.frozen? ⟨w.heap.size, 14, none⟩ = false
 res : ∃ cs, wr.heap[w.heap.size + 1]? = some (.cells cs 49 (0, 0)) ∧ cs.size = 15
 ob : ∀ g, (Value.slice va vn vc).ownBlock = some g → w.heap.size + 2 ≤ g
 rows : ∃ R, wr.ownsRow 0 49 15 (.slice va vn vc) i (R.flatMap rowC) ∧ CopyRowsR wr (w.heap.size + 2) n (Value.slice va vn vc).ownBlock (l.take i) R
 xt : Xt w wr
theorem copy_startR {w w0 : World} {t : NodeT} {a : Option Addr} {m cap : Nat} (n ox : Nat) (l : List NodeT) (hc : NodeAt w0 w.heap.size 0 t a m cap) (hs : w0.heap.size = w.heap.size + 1) (hf : w0.frozen? ⟨w.heap.size, 14, none⟩ = false) (hg : Gr w w0) :
    CopyStR w n (.mk t.kind t.op ox t.s t.b t.f t.ref t.to t.args) l (((w0.setCell ⟨w.heap.size, 2, none⟩ (.float .f64 ox)).setCell ⟨w.heap.size, 14, none⟩ (.slice none 0 0)).alloc (.cells #[.int .i64 0, .int .i64 0, .float .f64 0, .string ⟨#[]⟩, .bool false, .int .i64 0, .int .i64 0, .int .i64 0, .bool false, .bool false, .int .i64 0, .int .i64 0, .bool false, .bool false, .slice none 0 0] 49)) 0 none 0 0 := by
 obtain ⟨w1, hw1⟩ : ∃ w1, w0.setCell ⟨w.heap.size, 2, none⟩ (.float .f64 ox) = w1 := ⟨_, rfl⟩
 rw [hw1]
 obtain ⟨w2, hw2⟩ : ∃ w2, w1.setCell ⟨w.heap.size, 14, none⟩ (.slice none 0 0) = w2 := ⟨_, rfl⟩
 rw [hw2]
 have s1 : w1.heap.size = w.heap.size + 1 := by rw [← hw1]; simpa using hs
 have s2 : w2.heap.size = w.heap.size + 1 := by rw [← hw2]; simpa using s1
 have k1 : ∀ o v, o ≠ 2 → w0.cell? ⟨w.heap.size, o, none⟩ = some v → w1.cell? ⟨w.heap.size, o, none⟩ = some v := fun o v ho h => by
  rw [← hw1]; exact (World.cell?_setCell_other w0 _ _ _ (by intro e; cases e; exact ho rfl)).trans h
 have k2 : ∀ o v, o ≠ 14 → w1.cell? ⟨w.heap.size, o, none⟩ = some v → w2.cell? ⟨w.heap.size, o, none⟩ = some v := fun o v ho h => by
  rw [← hw2]; exact (World.cell?_setCell_other w1 _ _ _ (by intro e; cases e; exact ho rfl)).trans h
 have k3 : ∀ o v (ob : Obj), w2.cell? ⟨w.heap.size, o, none⟩ = some v → (w2.alloc ob).cell? ⟨w.heap.size, o, none⟩ = some v := fun o v ob h =>
  (World.cell?_of_block (w := w2) (a := ⟨w.heap.size, o, none⟩) (Below.heap_alloc w2 ob _ (by show w.heap.size < _; omega))).trans h
 have x1 : Xt w w1 := by rw [← hw1]; exact hg.xt.grownB (setCell_grown _ _ _ _) (fun m hm => by cases hm; exact Nat.le_refl _)
 have x2 : Xt w w2 := by rw [← hw2]; exact x1.grownB (setCell_grown _ _ _ _) (fun m hm => by cases hm; exact Nat.le_refl _)
 refine ⟨⟨?_, ?_, ?_, ?_, ?_, ?_, ?_, ?_, ?_, ?_, ?_, ?_, ?_, ?_, ?_⟩, ?_, ?_, fun g hg => (by cases hg), ⟨[], ?_, ?_, fun k r hk => (by simp at hk)⟩, x2.alloc _⟩
 · exact k3 _ _ _ (k2 _ _ (by omega) (k1 _ _ (by omega) hc.c0))
 · exact k3 _ _ _ (k2 _ _ (by omega) (k1 _ _ (by omega) hc.c1))
 · refine k3 _ _ _ (k2 _ _ (by omega) ?_)
   rw [← hw1, Nat.zero_add]; exact World.cell?_setCell_same' w0 _ _ (by have := hc.c2; rw [Nat.zero_add] at this; rw [this]; rfl)
 · exact k3 _ _ _ (k2 _ _ (by omega) (k1 _ _ (by omega) hc.c3))
 · exact k3 _ _ _ (k2 _ _ (by omega) (k1 _ _ (by omega) hc.c4))
 · exact k3 _ _ _ (k2 _ _ (by omega) (k1 _ _ (by omega) hc.c5))
 · exact k3 _ _ _ (k2 _ _ (by omega) (k1 _ _ (by omega) hc.c6))
 · exact k3 _ _ _ (k2 _ _ (by omega) (k1 _ _ (by omega) hc.c7))
 · exact k3 _ _ _ (k2 _ _ (by omega) (k1 _ _ (by omega) hc.c8))
 · exact k3 _ _ _ (k2 _ _ (by omega) (k1 _ _ (by omega) hc.c9))
 · exact k3 _ _ _ (k2 _ _ (by omega) (k1 _ _ (by omega) hc.c10))
 · exact k3 _ _ _ (k2 _ _ (by omega) (k1 _ _ (by omega) hc.c11))
 · exact k3 _ _ _ (k2 _ _ (by omega) (k1 _ _ (by omega) hc.c12))
 · exact k3 _ _ _ (k2 _ _ (by omega) (k1 _ _ (by omega) hc.c13))
 · refine k3 _ _ _ ?_
   have h14 := k1 _ _ (by omega) hc.c14
   rw [Nat.zero_add] at h14
   rw [← hw2, Nat.zero_add]; exact World.cell?_setCell_same' w1 _ _ (by rw [h14]; rfl)
 · have q1 : w1.frozen? ⟨w.heap.size, 14, none⟩ = false := by rw [← hw1]; simp [hf]
   have q2 : w2.frozen? ⟨w.heap.size, 14, none⟩ = false := by rw [← hw2]; simp [q1]
   exact (World.frozen?_of_block (w := w2) (a := ⟨w.heap.size, 14, none⟩) (Below.heap_alloc w2 _ _ (by show w.heap.size < _; omega))).trans q2
 · rw [← s2]; exact ⟨_, (MapKept.heap_alloc w2 _).1, rfl⟩
 · exact World.ownsRow_nil _ _ _ _
 · rfl
end Go.Proofs.YtdoeejhdenifpaaGreatDoor
/- A list of copies that grows in a node's args: what is known of it round by round; lists of one's own. -/
namespace Go.Proofs.YtdoeejhdenifpaaGreatDoor
open Go.RowKit Go.Sort
def OwnIn (S : Nat → Prop) (w : World) : Nat → Value → List NodeT → Prop
 | 0, av, l => l = [] ∧ ∃ a, av = .slice a 0 0
 | n + 1, av, l => ∃ a cap, av = .slice a l.length cap ∧ l.length ≤ cap ∧ cap ≤ 9223372036854775807 ∧ (0 < cap → ∃ b cur K, a = some ⟨b, 0, none⟩ ∧ S b ∧ w.heap[b]? = some (.cells cur 49 (0, 0)) ∧ cur.size = K * 15 ∧ cap ≤ K ∧
     ∀ k t, l[k]? = some t → ∃ av', (∀ i u, (nodeC t av')[i]? = some u → w.cell? ⟨b, k * 15 + i, none⟩ = some u) ∧ OwnIn S w n av' t.args)
theorem OwnIn.args {S : Nat → Prop} {w : World} : ∀ {n : Nat} {av : Value} {l : List NodeT}, OwnIn S w n av l → ArgsIn w n av l
 | 0, _, _, h => by obtain ⟨rfl, a, rfl⟩ := h; exact ⟨rfl, a, 0, rfl, by omega⟩
 | n + 1, _, _, h => by
  obtain ⟨a, cap, rfl, h1, h2, h3⟩ := h
  refine ⟨a, cap, rfl, h1, h2, fun hne => ?_⟩
  have hpos := List.length_pos_iff.2 hne
  obtain ⟨b, cur, K, rfl, _, _, _, _, hc⟩ := h3 (by omega)
  exact ⟨b, 0, rfl, fun k t ht => let ⟨av', q1, q2⟩ := hc k t ht; ⟨av', by simpa only [Nat.zero_add] using q1, q2.args⟩⟩
theorem OwnIn.keep {S S' : Nat → Prop} {w w' : World} (hS : ∀ b, S b → b < w.heap.size → S' b) (hk : ∀ b, S b → b < w.heap.size → w'.heap[b]? = w.heap[b]?) : ∀ {n : Nat} {av : Value} {l : List NodeT}, OwnIn S w n av l → OwnIn S' w' n av l
 | 0, _, _, h => h
 | n + 1, _, _, h => by
  obtain ⟨a, cap, rfl, h1, h2, h3⟩ := h
  refine ⟨a, cap, rfl, h1, h2, fun hpos => ?_⟩
  obtain ⟨b, cur, K, rfl, hb, hr, hK, hcK, hc⟩ := h3 hpos
  have hlt : b < w.heap.size := (Array.getElem?_eq_some_iff.1 hr).1
  exact ⟨b, cur, K, rfl, hS b hb hlt, (hk b hb hlt).trans hr, hK, hcK, fun k t ht => let ⟨av', q1, q2⟩ := hc k t ht; ⟨av', fun i u hu => (World.cell?_of_block (w := w) (a := ⟨b, k * 15 + i, none⟩) (hk b hb hlt)).trans (q1 i u hu), OwnIn.keep hS hk q2⟩⟩
theorem OwnIn.shape {S : Nat → Prop} {w : World} {n : Nat} {av : Value} {l : List NodeT} (h : OwnIn S w n av l) : ∃ a cap, av = .slice a l.length cap ∧ l.length ≤ cap ∧ cap ≤ 9223372036854775807 := h.args.shape
structure GRows (wr : World) (M : Nat) (g : NodeT → NodeT) (n : Nat) (ob : Option Nat) (l : List NodeT) (R : List (NodeT × Value)) : Prop where
 fst : R.map Prod.fst = l.map g
 args : ∀ (k : Nat) (r : NodeT × Value), R[k]? = some r → ∃ n', n = n' + 1 ∧ OwnIn (fun b => M ≤ b ∧ ob ≠ some b) wr n' r.2 r.1.args
structure GSt (w ws : World) (O M : Nat) (g : NodeT → NodeT) (n : Nat) (t2 : NodeT) (l : List NodeT) (wr : World) (i : Nat) (va : Option Addr) (vn vc : Nat) : Prop where
 lo : w.heap.size ≤ O ∧ O < M ∧ M = ws.heap.size ∧ M ≤ wr.heap.size
 box : NodeAt wr O 0 t2 va vn vc
 f14 : wr.frozen? ⟨O, 14, none⟩ = false
 none : i = 0 → vc = 0
 ob : ∀ q, (Value.slice va vn vc).ownBlock = some q → M ≤ q
 rows : ∃ R, wr.ownsRow 0 49 15 (.slice va vn vc) i (R.flatMap rowC) ∧ GRows wr M g n (Value.slice va vn vc).ownBlock (l.take i) R
 keep : ∀ b, b < M → b ≠ O → wr.heap[b]? = ws.heap[b]?
 xt : Xt w wr
theorem GSt.lenR {R : List (NodeT × Value)} {g : NodeT → NodeT} {l : List NodeT} {i : Nat} (h : R.map Prod.fst = (l.take i).map g) (hi : i ≤ l.length) : R.length = i := by
 have := congrArg List.length h
 simp at this; omega
end Go.Proofs.YtdoeejhdenifpaaGreatDoor
namespace Go.Proofs.YtdoeejhdenifpaaGreatDoor
open Go.RowKit Go.Sort
end Go.Proofs.YtdoeejhdenifpaaGreatDoor
/- Lists that their owner writes over. -/
namespace Go.Proofs.YtdoeejhdenifpaaGreatDoor
open Go.RowKit Go.Sort
def Ov (S : Nat → Prop) (w : World) : Nat → Value → Prop
 | 0, av => ∃ a, av = .slice a 0 0
 | n + 1, av => ∃ a m cap, av = .slice a m cap ∧ m ≤ cap ∧ m ≤ 1099511627744 ∧ cap ≤ 9223372036854775807 ∧ (0 < cap → ∃ b cur K, a = some ⟨b, 0, none⟩ ∧ S b ∧ w.heap[b]? = some (.cells cur 49 (0, 0)) ∧ cur.size = K * 15 ∧ cap ≤ K ∧
     ∀ k, k < m → ∃ u av', (∀ i v, (nodeC u av')[i]? = some v → w.cell? ⟨b, k * 15 + i, none⟩ = some v) ∧ Ov S w n av')
theorem Ov.nil {S : Nat → Prop} {w : World} {a : Option Addr} : ∀ n, Ov S w n (.slice a 0 0)
 | 0 => ⟨a, rfl⟩
 | _ + 1 => ⟨a, 0, 0, rfl, Nat.le_refl _, by omega, by omega, fun h => absurd h (Nat.lt_irrefl _)⟩
theorem Ov.shape {S : Nat → Prop} {w : World} {n : Nat} {av : Value} (h : Ov S w n av) : ∃ a m cap, av = .slice a m cap ∧ m ≤ cap ∧ m ≤ 1099511627744 ∧ cap ≤ 9223372036854775807 := by
 cases n with
 | zero => obtain ⟨a, rfl⟩ := h; exact ⟨a, 0, 0, rfl, Nat.le_refl _, by omega, by omega⟩
 | succ n => obtain ⟨a, m, cap, rfl, h1, h2, h3, _⟩ := h; exact ⟨a, m, cap, rfl, h1, h2, h3⟩
structure OvW (S : Nat → Prop) (w w' : World) : Prop where
 os : w'.os = w.os
 tape : w'.tape = w.tape
 output : w'.output = w.output
 size : w.heap.size ≤ w'.heap.size
 block : ∀ b, b < w.heap.size → ¬ S b → w'.heap[b]? = w.heap[b]?
 keep : ∀ n av, Ov S w n av → Ov S w' n av
theorem OvW.trans {S : Nat → Prop} {a b c : World} (h : OvW S a b) (k : OvW S b c) : OvW S a c :=
 ⟨k.os.trans h.os, k.tape.trans h.tape, k.output.trans h.output, Nat.le_trans h.size k.size, fun i hi hn => (k.block i (Nat.lt_of_lt_of_le hi h.size) hn).trans (h.block i hi hn), fun n av q => k.keep n av (h.keep n av q)⟩
theorem Ov.of_heap {S : Nat → Prop} {w w' : World} (hk : ∀ b, S b → b < w.heap.size → w'.heap[b]? = w.heap[b]?) : ∀ {n : Nat} {av : Value}, Ov S w n av → Ov S w' n av
 | 0, _, h => h
 | n + 1, _, h => by
  obtain ⟨a, m, cap, rfl, h1, h2, h4, h3⟩ := h
  refine ⟨a, m, cap, rfl, h1, h2, h4, fun hpos => ?_⟩
  obtain ⟨b, cur, K, rfl, hb, hr, hK, hcK, hc⟩ := h3 hpos
  have hlt : b < w.heap.size := (Array.getElem?_eq_some_iff.1 hr).1
  exact ⟨b, cur, K, rfl, hb, (hk b hb hlt).trans hr, hK, hcK, fun k hkm => let ⟨u, av', q1, q2⟩ := hc k hkm; ⟨u, av', fun i v hv => (World.cell?_of_block (w := w) (a := ⟨b, k * 15 + i, none⟩) (hk b hb hlt)).trans (q1 i v hv), Ov.of_heap hk q2⟩⟩
theorem OvW.of_xt {S : Nat → Prop} {w w' : World} (h : Xt w w') : OvW S w w' :=
 ⟨h.os, h.tape, h.output, h.size, fun b hb _ => h.block b hb, fun _ _ q => q.of_heap (fun b _ hb => h.block b hb)⟩
theorem setCells_rowC {T : TypeId} (b : Nat) : ∀ (vs : List Value) (o : Nat) (w : World) (cur : Array Value), w.heap[b]? = some (.cells cur T (0, 0)) → ∃ cur', (w.setCells b o vs).heap[b]? = some (.cells cur' T (0, 0)) ∧ cur'.size = cur.size
 | [], _, _, cur, h => ⟨cur, h, rfl⟩
 | v :: r, o, w, cur, h => by
  rw [World.setCells]
  obtain ⟨cur', h1, h2⟩ := setCells_rowC b r (o + 1) _ _ (heap_setCell_same w b o cur T v h)
  exact ⟨cur', h1, by simpa using h2⟩
theorem setCells_far (b : Nat) : ∀ (vs : List Value) (o : Nat) (w : World) (k : Nat), k ≠ b → (w.setCells b o vs).heap[k]? = w.heap[k]?
 | [], _, _, _, _ => rfl
 | v :: r, o, w, k, h => by
  rw [World.setCells]
  exact (setCells_far b r (o + 1) _ k h).trans (Below.heap_setCell _ _ _ _ h)
theorem setCells_size (b : Nat) : ∀ (vs : List Value) (o : Nat) (w : World), (w.setCells b o vs).heap.size = w.heap.size ∧ (w.setCells b o vs).os = w.os ∧ (w.setCells b o vs).tape = w.tape ∧ (w.setCells b o vs).output = w.output
 | [], _, _ => ⟨rfl, rfl, rfl, rfl⟩
 | v :: r, o, w => by
  rw [World.setCells]
  obtain ⟨h1, h2, h3, h4⟩ := setCells_size b r (o + 1) (w.setCell ⟨b, o, none⟩ v)
  exact ⟨h1.trans (by simp), h2, h3, h4⟩
def leafT (k : Int) (s : ByteArray) : NodeT := .mk k 0 0 s false 0 zR zR []
theorem Ov.written {S : Nat → Prop} {w : World} {b k : Nat} {u : NodeT} {av0 : Value} {w' : World} (hav : ∀ n, Ov S w n (.slice none 0 0))
    (hfar : ∀ j, j ≠ b → w'.heap[j]? = w.heap[j]?) (hrow : ∀ cur, w.heap[b]? = some (.cells cur 49 (0, 0)) → ∃ cur', w'.heap[b]? = some (.cells cur' 49 (0, 0)) ∧ cur'.size = cur.size)
    (hel : ∀ (k' : Nat) (u' : NodeT) (av' : Value), (∀ i v, (nodeC u' av')[i]? = some v → w.cell? ⟨b, k' * 15 + i, none⟩ = some v) → ∃ u2, (∀ i v, (nodeC u2 av')[i]? = some v → w'.cell? ⟨b, k' * 15 + i, none⟩ = some v) ∨ (∀ i v, (nodeC u2 (.slice none 0 0))[i]? = some v → w'.cell? ⟨b, k' * 15 + i, none⟩ = some v)) : ∀ {n : Nat} {av : Value}, Ov S w n av → Ov S w' n av
 | 0, _, h => h
 | n + 1, _, h => by
  obtain ⟨a, m, cap, rfl, h1, h2, h4, h3⟩ := h
  refine ⟨a, m, cap, rfl, h1, h2, h4, fun hpos => ?_⟩
  obtain ⟨b', cur, K, rfl, hb, hr, hK, hcK, hc⟩ := h3 hpos
  by_cases e : b' = b
  · subst e
    obtain ⟨cur', hr', hs'⟩ := hrow cur hr
    refine ⟨b', cur', K, rfl, hb, hr', hs'.trans hK, hcK, fun k' hk' => ?_⟩
    obtain ⟨u', av', q1, q2⟩ := hc k' hk'
    obtain ⟨u2, q | q⟩ := hel k' u' av' q1
    · exact ⟨u2, av', q, Ov.written (k := k) (u := u) (av0 := av0) hav hfar hrow hel q2⟩
    · exact ⟨u2, _, q, Ov.nil n⟩
  · exact ⟨b', cur, K, rfl, hb, (hfar b' e).trans hr, hK, hcK, fun k' hk' => let ⟨u', av', q1, q2⟩ := hc k' hk'; ⟨u', av', fun i v hv => (World.cell?_of_block (w := w) (a := ⟨b', k' * 15 + i, none⟩) (hfar b' e)).trans (q1 i v hv), Ov.written (k := k) (u := u) (av0 := av0) hav hfar hrow hel q2⟩⟩
theorem row_thereN {w : World} {b k K : Nat} {cur : Array Value} {T : TypeId} (hr : w.heap[b]? = some (.cells cur T (0, 0))) (hK : cur.size = K * 15) (hk : k < K) : w.there b (k * 15) 15 := fun j hj => by
 have hlt : k * 15 + j < cur.size := by omega
 constructor
 · have : w.cell? ⟨b, k * 15 + j, none⟩ = cur[k * 15 + j]? := by simp [World.cell?, hr]
   rw [this, Array.getElem?_eq_getElem hlt]; rfl
 · simp [World.frozen?, hr]
theorem leaf_len (u : NodeT) (av : Value) : (nodeC u av).length = 15 := rfl
theorem OvW.store {S : Nat → Prop} {w : World} {b k K : Nat} {cur : Array Value} (hS : S b) (hr : w.heap[b]? = some (.cells cur 49 (0, 0))) (hK : cur.size = K * 15) (hk : k < K) (u : NodeT) : OvW S w (w.setCells b (k * 15) (nodeC u (.slice none 0 0))) := by
 obtain ⟨s1, s2, s3, s4⟩ := setCells_size b (nodeC u (.slice none 0 0)) (k * 15) w
 have ht := row_thereN hr hK hk
 refine ⟨s2, s3, s4, by omega, fun j _ hn => setCells_far b _ _ w j (fun e => hn (e ▸ hS)), fun n av h => Ov.written (k := k) (u := u) (av0 := .slice none 0 0) (fun _ => Ov.nil _) (fun j hj => setCells_far b _ _ w j hj) (fun cur h => setCells_rowC b _ _ w cur h) (fun k' u' av' q => ?_) h⟩
 by_cases e : k' = k
 · subst e
   exact ⟨u, Or.inr (World.rangeAt_setCells_same w b (k' * 15) _ ht)⟩
 · refine ⟨u', Or.inl (fun i v hv => World.rangeAt_setCells_apart (b' := b) (o' := k' * 15) (cs := nodeC u' av') q b (k * 15) _ ?_ i v hv)⟩
   right; rw [leaf_len, leaf_len]; omega
theorem OvW.kind {S : Nat → Prop} {w : World} {b k K : Nat} {cur : Array Value} (hS : S b) (hr : w.heap[b]? = some (.cells cur 49 (0, 0))) (hK : cur.size = K * 15) (hk : k < K) (z : Int) : OvW S w (w.setCell ⟨b, k * 15, none⟩ (.int .i64 z)) := by
 have ht := row_thereN hr hK hk
 refine ⟨rfl, rfl, rfl, by simp, fun j _ hn => Below.heap_setCell _ _ _ _ (fun e => hn (e ▸ hS)), fun n av h => Ov.written (k := k) (u := leafT 0 ⟨#[]⟩) (av0 := .slice none 0 0) (fun _ => Ov.nil _) (fun j hj => Below.heap_setCell _ _ _ _ hj) (fun cur h => ⟨_, heap_setCell_same w b (k * 15) cur _ _ h, by simp⟩) (fun k' u' av' q => ?_) h⟩
 by_cases e : k' = k
 · subst e
   obtain ⟨kk, o, x, s, bb, f, r, g, l⟩ := u'
   refine ⟨.mk z o x s bb f r g l, Or.inl (fun i v hv => ?_)⟩
   by_cases h0 : i = 0
   · subst h0
     obtain ⟨y, hy⟩ := Option.isSome_iff_exists.1 (ht 0 (by omega)).1
     have : v = .int .i64 z := by simpa [nodeC, NodeT.kind] using hv.symm
     rw [this]
     exact World.cell?_setCell_same w _ _ hy
   · rw [World.cell?_setCell_other w _ _ _ (fun e => by have := congrArg Addr.off e; simp at this; omega)]
     refine q i v ?_
     rw [← hv]
     obtain ⟨j, rfl⟩ : ∃ j, i = j + 1 := ⟨i - 1, by omega⟩
     rfl
 · refine ⟨u', Or.inl (fun i v hv => ?_)⟩
   have hi : i < 15 := (List.getElem?_eq_some_iff.1 hv).1
   rw [World.cell?_setCell_other w _ _ _ (fun e2 => by have := congrArg Addr.off e2; simp at this; omega)]
   exact q i v hv
end Go.Proofs.YtdoeejhdenifpaaGreatDoor
/- Lists of one's own whose parts have nothing in common. -/
namespace Go.Proofs.YtdoeejhdenifpaaGreatDoor
open Go.RowKit Go.Sort
def SepIn (S : Nat → Prop) (w : World) : Nat → Value → List NodeT → Prop
 | 0, av, l => l = [] ∧ ∃ a, av = .slice a 0 0
 | n + 1, av, l => ∃ a cap, av = .slice a l.length cap ∧ l.length ≤ cap ∧ cap ≤ 9223372036854775807 ∧ (0 < cap → ∃ b cur K, ∃ T : Nat → Nat → Prop, a = some ⟨b, 0, none⟩ ∧ S b ∧ w.heap[b]? = some (.cells cur 49 (0, 0)) ∧ cur.size = K * 15 ∧ cap ≤ K ∧
     (∀ k c, T k c → S c ∧ c ≠ b) ∧ (∀ k k' c, k ≠ k' → T k c → ¬ T k' c) ∧
     ∀ k t, l[k]? = some t → ∃ av', (∀ i u, (nodeC t av')[i]? = some u → w.cell? ⟨b, k * 15 + i, none⟩ = some u) ∧ SepIn (T k) w n av' t.args)
theorem SepIn.own {w : World} : ∀ {S : Nat → Prop} {n : Nat} {av : Value} {l : List NodeT}, SepIn S w n av l → OwnIn S w n av l
 | _, 0, _, _, h => h
 | S, n + 1, _, _, h => by
  obtain ⟨a, cap, rfl, h1, h2, h3⟩ := h
  refine ⟨a, cap, rfl, h1, h2, fun hpos => ?_⟩
  obtain ⟨b, cur, K, T, rfl, hb, hr, hK, hcK, hT, _, hc⟩ := h3 hpos
  exact ⟨b, cur, K, rfl, hb, hr, hK, hcK, fun k t ht => let ⟨av', q1, q2⟩ := hc k t ht; ⟨av', q1, q2.own.keep (fun c hc _ => (hT k c hc).1) (fun _ _ _ => rfl)⟩⟩
theorem SepIn.keep {w w' : World} : ∀ {S : Nat → Prop} {n : Nat} {av : Value} {l : List NodeT}, (∀ b, S b → b < w.heap.size → w'.heap[b]? = w.heap[b]?) → SepIn S w n av l → SepIn S w' n av l
 | _, 0, _, _, _, h => h
 | S, n + 1, _, _, hk, h => by
  obtain ⟨a, cap, rfl, h1, h2, h3⟩ := h
  refine ⟨a, cap, rfl, h1, h2, fun hpos => ?_⟩
  obtain ⟨b, cur, K, T, rfl, hb, hr, hK, hcK, hT, hD, hc⟩ := h3 hpos
  have hlt : b < w.heap.size := (Array.getElem?_eq_some_iff.1 hr).1
  exact ⟨b, cur, K, T, rfl, hb, (hk b hb hlt).trans hr, hK, hcK, hT, hD, fun k t ht => let ⟨av', q1, q2⟩ := hc k t ht; ⟨av', fun i u hu => (World.cell?_of_block (w := w) (a := ⟨b, k * 15 + i, none⟩) (hk b hb hlt)).trans (q1 i u hu), q2.keep (fun c hc => hk c (hT k c hc).1)⟩⟩
theorem SepIn.weak {w : World} {S S' : Nat → Prop} (hS : ∀ b, S b → b < w.heap.size → S' b) : ∀ {n : Nat} {av : Value} {l : List NodeT}, SepIn S w n av l → SepIn (fun b => S' b) w n av l
 | 0, _, _, h => h
 | n + 1, _, _, h => by
  obtain ⟨a, cap, rfl, h1, h2, h3⟩ := h
  refine ⟨a, cap, rfl, h1, h2, fun hpos => ?_⟩
  obtain ⟨b, cur, K, T, rfl, hb, hr, hK, hcK, hT, hD, hc⟩ := h3 hpos
  have hlt : b < w.heap.size := (Array.getElem?_eq_some_iff.1 hr).1
  exact ⟨b, cur, K, fun k c => T k c ∧ c < w.heap.size, rfl, hS b hb hlt, hr, hK, hcK, fun k c h => ⟨hS c (hT k c h.1).1 h.2, (hT k c h.1).2⟩, fun k k' c hne h h' => hD k k' c hne h.1 h'.1, fun k t ht => let ⟨av', q1, q2⟩ := hc k t ht; ⟨av', q1, SepIn.weak (S := T k) (S' := fun c => T k c ∧ c < w.heap.size) (fun c h hl => ⟨h, hl⟩) q2⟩⟩
structure SRows (wr : World) (M : Nat) (g : NodeT → NodeT) (n : Nat) (ob : Option Nat) (l : List NodeT) (R : List (NodeT × Value)) : Prop where
 fst : R.map Prod.fst = l.map g
 args : ∃ lo hi : Nat → Nat, (∀ (k : Nat) (r : NodeT × Value), R[k]? = some r → ∃ n', n = n' + 1 ∧ SepIn (fun b => lo k ≤ b ∧ b < hi k) wr n' r.2 r.1.args) ∧ (∀ k, k < R.length → M ≤ lo k ∧ hi k ≤ wr.heap.size ∧ ∀ q, ob = some q → ¬ (lo k ≤ q ∧ q < hi k)) ∧ (∀ k k', k < k' → k' < R.length → hi k ≤ lo k')
structure SSt (w ws : World) (O M : Nat) (g : NodeT → NodeT) (n : Nat) (t2 : NodeT) (l : List NodeT) (wr : World) (i : Nat) (va : Option Addr) (vn vc : Nat) : Prop where
 lo : w.heap.size ≤ O ∧ O < M ∧ M = ws.heap.size ∧ M ≤ wr.heap.size
 box : NodeAt wr O 0 t2 va vn vc
 f14 : wr.frozen? ⟨O, 14, none⟩ = false
 none : i = 0 → vc = 0
 ob : ∀ q, (Value.slice va vn vc).ownBlock = some q → M ≤ q
 rows : ∃ R, wr.ownsRow 0 49 15 (.slice va vn vc) i (R.flatMap rowC) ∧ SRows wr M g n (Value.slice va vn vc).ownBlock (l.take i) R
 keep : ∀ b, b < M → b ≠ O → wr.heap[b]? = ws.heap[b]?
 xt : Xt w wr
theorem sep_start {w ws : World} {O : Nat} (g : NodeT → NodeT) (n : Nat) {t2 : NodeT} (l : List NodeT) (h1 : w.heap.size ≤ O) (h2 : O < ws.heap.size) (hb : NodeAt ws O 0 t2 none 0 0) (hf : ws.frozen? ⟨O, 14, none⟩ = false) (hx : Xt w ws) :
    SSt w ws O ws.heap.size g n t2 l ws 0 none 0 0 :=
 ⟨⟨h1, h2, rfl, Nat.le_refl _⟩, hb, hf, fun _ => rfl, fun q hq => (by cases hq), ⟨[], World.ownsRow_nil _ _ _ _, rfl, fun _ => 0, fun _ => 0, fun k r hk => (by simp at hk), fun k hk => (by simp at hk), fun k k' _ hk => (by simp at hk)⟩, fun _ _ _ => rfl, hx⟩
theorem SSt.lenR {R : List (NodeT × Value)} {g : NodeT → NodeT} {l : List NodeT} {i : Nat} (h : R.map Prod.fst = (l.take i).map g) (hi : i ≤ l.length) : R.length = i := by
 have := congrArg List.length h
 simp at this; omega
theorem sep_push {w ws wr w6 : World} {O M n n' i : Nat} {g : NodeT → NodeT} {t2 x : NodeT} {l : List NodeT} {va a' : Option Addr} {vn vc c' : Nat} (hn : n = n' + 1) (h : SSt w ws O M g n t2 l wr i va vn vc) (hx : l[i]? = some x) (hl : l.length ≤ 1099511627744) (h6 : Xt wr w6)
    (hA : SepIn (fun b => wr.heap.size ≤ b ∧ b < w6.heap.size) w6 n' (.slice a' (g x).args.length c') (g x).args) (wA : World)
    (hwA : w6.alloc (.cells #[.int .i64 (g x).kind, .int .i64 (g x).op, .float .f64 (g x).x, .string (g x).s, .bool (g x).b, .int .i64 (g x).f, .int .i64 (g x).ref.a.1, .int .i64 (g x).ref.a.2, .bool (g x).ref.cf, .bool (g x).ref.rf, .int .i64 (g x).to.a.1, .int .i64 (g x).to.a.2, .bool (g x).to.cf, .bool (g x).to.rf, .slice a' (g x).args.length c'] 49) = wA) :
    ∃ va' vn' vc' w7, (Builtin.append_ #[47, 47] 47 #[.slice va vn vc, .slice (some ⟨w6.heap.size, 0, none⟩) 1 1]).run Tryz.prog wA = .ok (.slice va' vn' vc') w7 ∧ (w6.cell? ⟨O, 14, none⟩ = some (.slice va vn vc) ∧ wA.cell? ⟨O, 14, none⟩ = some (.slice va vn vc) ∧ w7.cell? ⟨O, 14, none⟩ = some (.slice va vn vc)) ∧ w7.frozen? ⟨O, 14, none⟩ = false ∧
     (∀ b, b < wr.heap.size → (b < M ∧ b ≠ O ∨ b < w.heap.size) → w6.heap[b]? = wr.heap[b]? ∧ wA.heap[b]? = wr.heap[b]? ∧ w7.heap[b]? = wr.heap[b]? ∧ (w7.setCell ⟨O, 14, none⟩ (.slice va' vn' vc')).heap[b]? = wr.heap[b]?) ∧
     (∀ b, wr.heap.size ≤ b → b < wA.heap.size → w7.heap[b]? = wA.heap[b]? ∧ (w7.setCell ⟨O, 14, none⟩ (.slice va' vn' vc')).heap[b]? = wA.heap[b]?) ∧
     SSt w ws O M g n t2 l (w7.setCell ⟨O, 14, none⟩ (.slice va' vn' vc')) (i + 1) va' vn' vc' := by
 obtain ⟨i0, hi, hz0, hz1, hz2⟩ := info_parts infoNode
 obtain ⟨⟨hO1, hO2, hM, hMr⟩, hbox, hf14, hnone, hob, ⟨R, hown, hRf, lo, hi', hRa, hRb, hRc⟩, hkeep, hxt⟩ := h
 have hil : i < l.length := (List.getElem?_eq_some_iff.1 hx).1
 have hBr : O < wr.heap.size := by omega
 have h6s := h6.sz
 have hxtA : Xt wr wA := by rw [← hwA]; exact h6.alloc _
 have hAs : wA.heap.size = w6.heap.size + 1 := by rw [← hwA]; simp
 have hRl : R.length = i := SSt.lenR hRf (by omega)
 have hownA : wA.ownsRow 0 49 15 (.slice va vn vc) i (R.flatMap rowC) :=
  World.ownsRow.kept hown (row := none) ⟨hxtA.os, hxtA.tape, hxtA.output, hxtA.size, fun k hk _ => hxtA.block k hk⟩ (by
   cases (Value.slice va vn vc).ownBlock with
   | none => exact Or.inl rfl
   | some q => exact Or.inr (by simp))
 have hnews : ∀ (j : Nat) (u : Value), (nodeC (g x) (.slice a' (g x).args.length c'))[j]? = some u → wA.cell? ((⟨w6.heap.size, 0, none⟩ : Addr).add j) = some u := by
  rw [← hwA]
  exact news_at w6 (nodeC (g x) (.slice a' (g x).args.length c')) 49 (b := w6.heap.size) rfl
 obtain ⟨v', w7, hpush, hown7, hg7, hwh⟩ := run_append_where (P := Tryz.prog) wA 47 47 49 i0 _ 15 128 Tryz.underlying47 hi hz0 hz1 hz2 rfl (by decide) (.slice va vn vc) i (R.flatMap rowC) hownA ⟨w6.heap.size, 0, none⟩ 1 1 (nodeC (g x) (.slice a' (g x).args.length c')) rfl hnews (nodeC_one _ _ rfl) (by unfold maxLen; omega) (by omega)
 obtain ⟨va', vc', rfl, hvc1, hvc2⟩ := ownsRow_base hown7
 have hobl : ∀ q, (Value.slice va vn vc).ownBlock = some q → q < wr.heap.size := fun q hq => (World.ownsRow.lt hown q hq).2
 have hob' : ∀ q, (Value.slice va' (i + 1) vc').ownBlock = some q → M ≤ q ∧ q < w7.heap.size := by
  intro q hq
  have hlt := (World.ownsRow.lt hown7 q hq).2
  rcases hwh with e | e
  · rw [e] at hq; exact ⟨hob q hq, hlt⟩
  · have := e q hq; exact ⟨by omega, hlt⟩
 have hx7 : Xt w w7 := (hxt.trans hxtA).grownB hg7 (fun m hm => by have := hob m hm; omega)
 have hn0 : (Value.slice va vn vc).ownBlock ≠ some O := fun e => by have := hob _ e; omega
 have k7h : ∀ b, b < wr.heap.size → (Value.slice va vn vc).ownBlock ≠ some b → w7.heap[b]? = wr.heap[b]? := fun b hb hne =>
  (hg7.block b (by omega) (fun e => hne e.symm)).trans (hxtA.block b hb)
 have k7 : ∀ b o, b < wr.heap.size → (Value.slice va vn vc).ownBlock ≠ some b → w7.cell? ⟨b, o, none⟩ = wr.cell? ⟨b, o, none⟩ := fun b o hb hne =>
  World.cell?_of_block (w := wr) (a := ⟨b, o, none⟩) (k7h b hb hne)
 have hc14 := (k7 O 14 hBr hn0).trans hbox.c14
 have hcell : ∀ o v, o ≠ 14 → wr.cell? ⟨O, o, none⟩ = some v → (w7.setCell ⟨O, 14, none⟩ (.slice va' (i + 1) vc')).cell? ⟨O, o, none⟩ = some v := fun o v ho hv =>
  (World.cell?_setCell_other w7 _ _ _ (by intro e; cases e; exact ho rfl)).trans ((k7 _ o hBr hn0).trans hv)
 have hf7 : w7.frozen? ⟨O, 14, none⟩ = false :=
  (World.frozen?_of_block (w := wr) (a := ⟨O, 14, none⟩) (k7h _ hBr hn0)).trans hf14
 have k8 : ∀ b, b < wr.heap.size → b ≠ O → (Value.slice va vn vc).ownBlock ≠ some b → (w7.setCell ⟨O, 14, none⟩ (.slice va' (i + 1) vc')).heap[b]? = wr.heap[b]? := fun b hb hne hob =>
  (Below.heap_setCell _ _ _ _ hne).trans (k7h b hb hob)
 have hsz7 : M ≤ w7.heap.size := by have := hg7.size; omega
 refine ⟨va', i + 1, vc', w7, hpush, ⟨((h6.cells).1 _ _ hBr).trans hbox.c14, ((hxtA.cells).1 _ _ hBr).trans hbox.c14, hc14⟩, hf7, fun b hb hor => ?_, fun b hb hl => ?_, ⟨⟨hO1, hO2, hM, by simpa using hsz7⟩, ?_, ?_, fun e => by omega, fun q hq => (hob' q hq).1, ?_, fun b hb hne => (k8 b (by omega) hne (fun e => by have := hob b e; omega)).trans (hkeep b hb hne), hx7.grownB (setCell_grown _ _ _ _) (fun m hm => by cases hm; exact hO1)⟩⟩
 · have hbM : b < M := by rcases hor with h | h <;> omega
   have hbO : b ≠ O := by rcases hor with h | h <;> omega
   exact ⟨h6.block b hb, hxtA.block b hb, k7h b hb (fun e => by have := hob b e; omega), k8 b hb hbO (fun e => by have := hob b e; omega)⟩
 · have e7 : w7.heap[b]? = wA.heap[b]? := hg7.block b hl (fun e => by have := hobl b e.symm; omega)
   exact ⟨e7, (Below.heap_setCell _ _ _ _ (by show b ≠ O; omega)).trans e7⟩
 · refine ⟨?_, ?_, ?_, ?_, ?_, ?_, ?_, ?_, ?_, ?_, ?_, ?_, ?_, ?_, ?_⟩
   · exact hcell _ _ (by omega) hbox.c0
   · exact hcell _ _ (by omega) hbox.c1
   · exact hcell _ _ (by omega) hbox.c2
   · exact hcell _ _ (by omega) hbox.c3
   · exact hcell _ _ (by omega) hbox.c4
   · exact hcell _ _ (by omega) hbox.c5
   · exact hcell _ _ (by omega) hbox.c6
   · exact hcell _ _ (by omega) hbox.c7
   · exact hcell _ _ (by omega) hbox.c8
   · exact hcell _ _ (by omega) hbox.c9
   · exact hcell _ _ (by omega) hbox.c10
   · exact hcell _ _ (by omega) hbox.c11
   · exact hcell _ _ (by omega) hbox.c12
   · exact hcell _ _ (by omega) hbox.c13
   · rw [Nat.zero_add]; exact World.cell?_setCell_same' w7 _ _ (by rw [hc14]; rfl)
 · simp [hf7]
 · have e7 : (R ++ [(g x, Value.slice a' (g x).args.length c')]).flatMap rowC = R.flatMap rowC ++ nodeC (g x) (.slice a' (g x).args.length c') := by simp [rowC]
   have hobn : ∀ b, b < w6.heap.size → (Value.slice va vn vc).ownBlock ≠ some b → (Value.slice va' (i + 1) vc').ownBlock ≠ some b := by
    intro b hb hne e
    rcases hwh with e' | e'
    · rw [e'] at e; exact hne e
    · have := e' b e; omega
   refine ⟨R ++ [(g x, .slice a' (g x).args.length c')], ?_, ?_, fun k => if k < i then lo k else wr.heap.size, fun k => if k < i then hi' k else w6.heap.size, ?_, ?_, ?_⟩
   · rw [e7]
     exact ownsRow_setCell_other hown7 (a := ⟨O, 14, none⟩) (fun e => by have := (hob' _ e).1; simp at this; omega) _
   · rw [List.map_append, hRf, List.take_add_one, hx]; simp
   · intro k r hk
     by_cases hkl : k < R.length
     · rw [List.getElem?_append_left hkl] at hk
       obtain ⟨n1, hn1', hAk⟩ := hRa k r hk
       obtain ⟨b1, b2, b3⟩ := hRb k hkl
       have hki : k < i := by omega
       simp only [hki, if_true]
       exact ⟨n1, hn1', hAk.keep (fun b hb hlt => k8 b hlt (by omega) (fun e => b3 b e hb))⟩
     · rw [List.getElem?_append_right (by omega)] at hk
       have hk0 : k - R.length = 0 := by
        rcases Nat.eq_zero_or_pos (k - R.length) with e | e
        · exact e
        · rw [List.getElem?_eq_none (by simp; omega)] at hk; cases hk
       rw [hk0] at hk
       simp only [List.getElem?_cons_zero, Option.some.injEq] at hk
       subst hk
       have hki : ¬ k < i := by omega
       simp only [hki, if_false]
       refine ⟨n', hn, hA.keep (fun b hb hlt => ?_)⟩
       refine (Below.heap_setCell _ _ _ _ (by show b ≠ O; omega)).trans ((hg7.block b (by omega) (fun e => by have := hobl b e.symm; omega)).trans ?_)
       rw [← hwA]
       exact Below.heap_alloc w6 _ b hlt
   · intro k hk
     have hsz8 : (w7.setCell ⟨O, 14, none⟩ (.slice va' (i + 1) vc')).heap.size = w7.heap.size := by simp
     have hs7 := hg7.size
     by_cases hki : k < i
     · obtain ⟨b1, b2, b3⟩ := hRb k (by omega)
       simp only [hki, if_true]
       refine ⟨b1, by omega, fun q hq hb => ?_⟩
       rcases hwh with e' | e'
       · rw [e'] at hq; exact b3 q hq hb
       · have := e' q hq; omega
     · simp only [hki, if_false]
       refine ⟨hMr, by omega, fun q hq hb => ?_⟩
       rcases hwh with e' | e'
       · rw [e'] at hq; have := hobl q hq; omega
       · have := e' q hq; omega
   · intro k k' hkk hk'
     simp only [List.length_append, List.length_cons, List.length_nil] at hk'
     by_cases hki' : k' < i
     · have hki : k < i := by omega
       simp only [hki, hki', if_true]
       exact hRc k k' hkk (by omega)
     · have hki : k < i := by omega
       obtain ⟨b1, b2, b3⟩ := hRb k (by omega)
       simp only [hki, hki', if_true, if_false]
       exact b2
theorem sep_end {w ws wr w' : World} {O M n : Nat} {g : NodeT → NodeT} {t2 : NodeT} {l : List NodeT} {va : Option Addr} {vn vc : Nat} (h : SSt w ws O M g n t2 l wr l.length va vn vc) (hk : ∀ b, M ≤ b → b < wr.heap.size → w'.heap[b]? = wr.heap[b]?) :
    vn = l.length ∧ l.length ≤ vc ∧ vc ≤ 9223372036854775807 ∧ ∀ c, c = vc ∨ c = l.length → SepIn (fun b => M ≤ b ∧ b < wr.heap.size) w' n (.slice va l.length c) (l.map g) := by
 obtain ⟨_, _, _, hnone, hob, ⟨R, hown, hRf, lo, hi', hRa, hRb, hRc⟩, _⟩ := h
 obtain ⟨a2, c2, e, h1, h2⟩ := ownsRow_base hown
 cases e
 refine ⟨rfl, h1, h2, fun c hc => ?_⟩
 rw [List.take_length] at hRf
 have hRl : R.length = l.length := by have := congrArg List.length hRf; simpa using this
 have hcl : (l.map g).length = l.length := by simp
 have hcv : l.length ≤ c ∧ c ≤ vc := by rcases hc with e | e <;> omega
 cases n with
 | zero =>
  cases R with
  | nil =>
   have : l = [] := List.eq_nil_of_length_eq_zero (by rw [← hRl]; rfl)
   subst this
   have hv := hnone rfl
   have hc0 : c = 0 := by omega
   subst hc0
   exact ⟨rfl, va, rfl⟩
  | cons r R => obtain ⟨n', hn, _⟩ := hRa 0 r rfl; cases hn
 | succ n =>
  refine ⟨va, c, by rw [hcl], by rw [hcl]; omega, by omega, fun hpos => ?_⟩
  rcases hown.2 with ⟨e0, h0⟩ | ⟨q, cap, cur, e, _, hgc, _, _, hgs, _⟩
  · simp only [Value.slice.injEq] at e0; omega
  · cases e
    have hg2 := hob q rfl
    have hgl := (World.ownsRow.lt hown q rfl).2
    refine ⟨q, cur, vc, fun k c => k < R.length ∧ lo k ≤ c ∧ c < hi' k, rfl, ⟨hg2, hgl⟩, (hk q hg2 hgl).trans hgc, hgs, hcv.2, fun k c hc => ?_, fun k k' c hne h h' => ?_, fun k t ht => ?_⟩
    · obtain ⟨b1, b2, b3⟩ := hRb k hc.1
      exact ⟨⟨by omega, by omega⟩, fun e => b3 q rfl (by subst e; exact hc.2)⟩
    · rcases Nat.lt_or_gt_of_ne hne with e | e
      · have := hRc k k' e h'.1; omega
      · have := hRc k' k e h.1; omega
    rw [← hRf, List.getElem?_map] at ht
    obtain ⟨r, hr, rfl⟩ := Option.map_eq_some_iff.1 ht
    obtain ⟨n', hn', hA⟩ := hRa k r hr
    cases hn'
    refine ⟨r.2, fun i u hu => ?_, ((hA.keep (w' := w') (fun b hb hlt => hk b (by have := (hRb k (List.getElem?_eq_some_iff.1 hr).1).1; omega) hlt)).weak (fun b hb _ => ⟨(List.getElem?_eq_some_iff.1 hr).1, hb.1, hb.2⟩))⟩
    have hi : i < 15 := (List.getElem?_eq_some_iff.1 hu).1
    have hf := rflat_at rowC 15 rowC_len R k i r hr hi
    have := World.ownsRow.cells hown (g := q) rfl (k * 15 + i) u (hf.trans hu)
    rw [World.cell?_of_block (w := wr) (a := ⟨q, k * 15 + i, none⟩) (hk q hg2 hgl)]
    rw [← this, Addr.add_lit, Nat.zero_add]
end Go.Proofs.YtdoeejhdenifpaaGreatDoor
/- move: where a line is brought; where those from one to another one are. -/
namespace Go.Proofs.YtdoeejhdenifpaaGreatDoor
open Go.RowKit Go.Sort
structure LinT where
 at_ : Int
 n : Int
 many : Int
abbrev linV (l : LinT) : Value := .agg #[.int .i64 l.at_, .int .i64 l.n, .int .i64 l.many]
def lineF (l : LinT) (k : Int) : Int × Bool :=
 if k < l.at_ then (k, true) else if 0 ≤ l.n then (wrap64 (k + l.n), decide (wrap64 (k + l.n) ≤ l.many)) else (wrap64 (k + l.n), decide (wrap64 (l.at_ - l.n) ≤ k))
set_option maxRecDepth 100000 in
set_option maxHeartbeats 2000000 in
theorem line_any (l : LinT) (k : Int) (w : World) :
    Calls Tryz.prog 147 #[linV l, .int .i64 k] w fun e w' => e = .returned (.tuple #[.int .i64 (lineF l k).1, .bool (lineF l k).2]) ∧ Gr w w' := by
 obtain ⟨a, n, m⟩ := l
 unfold lineF
 simp only
 obtain ⟨w0, hw0⟩ : ∃ w0, w.alloc (.cells #[.int .i64 a, .int .i64 n, .int .i64 m] 147) = w0 := ⟨_, rfl⟩
 have hr : w0.heap[w.heap.size]? = some (.cells #[.int .i64 a, .int .i64 n, .int .i64 m] 147 (0, 0)) := by rw [← hw0]; exact (MapKept.heap_alloc w _).1
 have c0 : w0.cell? ⟨w.heap.size, 0, none⟩ = some (.int .i64 a) := by simp [World.cell?, hr]
 have c1 : w0.cell? ⟨w.heap.size, 1, none⟩ = some (.int .i64 n) := by simp [World.cell?, hr]
 have c2 : w0.cell? ⟨w.heap.size, 2, none⟩ = some (.int .i64 m) := by simp [World.cell?, hr]
 have HG : Hid (Gr w w0) := by unfold Hid; rw [← hw0]; exact (Gr.refl _).alloc _
 clear hr
 by_cases h1 : k < a
 · rw [if_pos h1]
   go_enter Tryz.func147, Tryz.ntmps147
   go_wp2_with fail
   go_ret2
   exact ⟨rfl, HG.out⟩
 rw [if_neg h1]
 by_cases h2 : 0 ≤ n
 · rw [if_pos h2]
   obtain ⟨s, hs⟩ : ∃ s, wrap64 (k + n) = s := ⟨_, rfl⟩
   go_enter Tryz.func147, Tryz.ntmps147
   go_wp2_with fail
   go_quiet (fail)
   go_wp2_with fail
   go_ret2
   exact ⟨by simp [hs], HG.out.drewN _⟩
 · rw [if_neg h2]
   obtain ⟨s, hs⟩ : ∃ s, wrap64 (k + n) = s := ⟨_, rfl⟩
   obtain ⟨q, hq⟩ : ∃ q, wrap64 (a - n) = q := ⟨_, rfl⟩
   go_enter Tryz.func147, Tryz.ntmps147
   go_wp2_with fail
   go_quiet (fail)
   go_wp2_with fail
   go_ret2
   exact ⟨by simp [hs, hq], HG.out.drewN _⟩
def spanG (l : LinT) : Nat → Int → Int → Int → Int × Int
 | 0, _, f, t => (f, t)
 | n + 1, k, f, t => if (lineF l k).2 = true then spanG l n (k + 1) (if f = 0 then (lineF l k).1 else f) (lineF l k).1 else spanG l n (k + 1) f t
def spanF (l : LinT) (a b : Int) : Int × Int × Bool := ((spanG l (b - a + 1).toNat a 0 0).1, (spanG l (b - a + 1).toNat a 0 0).2, decide (0 < (spanG l (b - a + 1).toNat a 0 0).1))
theorem spanG_step {l : LinT} {k b f t : Int} (h : k ≤ b) : spanG l (b - k + 1).toNat k f t = if (lineF l k).2 = true then spanG l (b - (k + 1) + 1).toNat (k + 1) (if f = 0 then (lineF l k).1 else f) (lineF l k).1 else spanG l (b - (k + 1) + 1).toNat (k + 1) f t := by
 have e : (b - k + 1).toNat = (b - (k + 1) + 1).toNat + 1 := by omega
 rw [e]; rfl
theorem spanG_end {l : LinT} {k b f t : Int} (h : b < k) : spanG l (b - k + 1).toNat k f t = (f, t) := by
 have e : (b - k + 1).toNat = 0 := by omega
 rw [e]; rfl
set_option maxRecDepth 100000 in
set_option maxHeartbeats 4000000 in
theorem span_any (l : LinT) (a b : Int) (w : World) (ha : -4611686018427387904 ≤ a) (hb : b ≤ 4611686018427387904) :
    Calls Tryz.prog 149 #[linV l, .int .i64 a, .int .i64 b] w fun e w' => e = .returned (.tuple #[.int .i64 (spanF l a b).1, .int .i64 (spanF l a b).2.1, .bool (spanF l a b).2.2]) ∧ Gr w w' := by
 obtain ⟨w0, hw0⟩ : ∃ w0, w.alloc (.cells #[.int .i64 l.at_, .int .i64 l.n, .int .i64 l.many] 147) = w0 := ⟨_, rfl⟩
 have hr : w0.heap[w.heap.size]? = some (.cells #[.int .i64 l.at_, .int .i64 l.n, .int .i64 l.many] 147 (0, 0)) := by rw [← hw0]; exact (MapKept.heap_alloc w _).1
 have c0 : w0.cell? ⟨w.heap.size, 0, none⟩ = some (.int .i64 l.at_) := by simp [World.cell?, hr]
 have c1 : w0.cell? ⟨w.heap.size, 1, none⟩ = some (.int .i64 l.n) := by simp [World.cell?, hr]
 have c2 : w0.cell? ⟨w.heap.size, 2, none⟩ = some (.int .i64 l.many) := by simp [World.cell?, hr]
 have HG : Hid (Gr w w0) := by unfold Hid; rw [← hw0]; exact (Gr.refl _).alloc _
 have hs0 : w0.heap.size = w.heap.size + 1 := by rw [← hw0]; simp
 unfold spanF
 obtain ⟨r, hr0⟩ : ∃ r, spanG l (b - a + 1).toNat a 0 0 = r := ⟨_, rfl⟩
 have HR := Lib.hid hr0
 rw [hr0]
 clear hr hr0
 go_enter Tryz.func149, Tryz.ntmps149
 go_wp2_with fail
 clear hw0
 go_loopw [9, 10, 11] (fun s9 s10 s11 wr => ∃ k f t : Int, -4611686018427387904 ≤ k ∧ s11 = .int .i64 k ∧ s9 = .int .i64 f ∧ s10 = .int .i64 t ∧ Hid (spanG l (b - k + 1).toNat k f t = r) ∧ Hid (Gr w0 wr)) (fun _ _ s11 _ => (b + 1 - intOf s11).toNat)
 case atStart => exact ⟨a, 0, 0, ha, rfl, rfl, rfl, HR, Gr.refl _⟩
 case round =>
  obtain ⟨k, f, t, hk, rfl, rfl, rfl, HS, HGr⟩ := hrel
  have k0 := ((HGr.out.xt.cells).1 w.heap.size 0 (by omega)).trans c0
  have k1 := ((HGr.out.xt.cells).1 w.heap.size 1 (by omega)).trans c1
  have k2 := ((HGr.out.xt.cells).1 w.heap.size 2 (by omega)).trans c2
  by_cases hlt : k ≤ b
  · have hst := HS.out
    rw [spanG_step hlt] at hst
    have HST := Lib.hid hst
    have HC := Lib.hid (line_any l k wr)
    generalize lineF l k = lf at HC HST
    obtain ⟨m, ok⟩ := lf
    simp only at HC HST
    have hadd : wrap64 (k + 1) = k + 1 := by unfold wrap64; omega
    clear hst
    go_wp2_with fail
    refine (HC.out).mono ?_
    rintro e w2 ⟨rfl, hg2⟩
    have HG2 := Lib.hid (HGr.out.trans hg2)
    clear hg2 k0 k1 k2
    cases ok
    · have HN : Hid (spanG l (b - (k + 1) + 1).toNat (k + 1) f t = r) := by have h := HST.out; unfold Hid; simpa using h
      go_wp2_with fail
      go_roundw
      case rel => exact ⟨k + 1, f, t, by omega, rfl, rfl, rfl, HN, HG2.out⟩
      case measure => simp [intOf]; omega
    · by_cases hf : f = 0
      · subst hf
        have HN : Hid (spanG l (b - (k + 1) + 1).toNat (k + 1) m m = r) := by have h := HST.out; unfold Hid; simpa using h
        go_wp2_with fail
        go_roundw
        case rel => exact ⟨k + 1, m, m, by omega, rfl, rfl, rfl, HN, HG2.out⟩
        case measure => simp [intOf]; omega
      · have hfb : (f == 0) = false := by simpa using hf
        have HN : Hid (spanG l (b - (k + 1) + 1).toNat (k + 1) f m = r) := by have h := HST.out; unfold Hid; simpa [hf] using h
        go_wp2_with fail
        go_roundw
        case rel => exact ⟨k + 1, f, m, by omega, rfl, rfl, rfl, HN, HG2.out⟩
        case measure => simp [intOf]; omega
  · have hE := HS.out
    rw [spanG_end (by omega)] at hE
    have HE := Lib.hid hE
    clear hE
    go_wp2_with fail
    refine bodyPost_ret (v := .tuple #[.int .i64 f, .int .i64 t, .bool (decide (0 < f))]) (by simp [results]) rfl ?_
    exact ⟨by rw [← HE.out], HG.out.trans HGr.out⟩
end Go.Proofs.YtdoeejhdenifpaaGreatDoor
/- move: the roads of lines put in or taken out (closures). -/
namespace Go.Proofs.YtdoeejhdenifpaaGreatDoor
open Go.RowKit Go.Sort
theorem rowX {w w' : World} (hx : Xt w w') {b : Nat} {o : Obj} (h : w.heap[b]? = some o) : w'.heap[b]? = some o := (hx.block b (Array.getElem?_eq_some_iff.1 h).1).trans h
structure LinAt (w : World) (pc pl : Nat) (cols : Bool) (l : LinT) : Prop where
 c : w.cell? ⟨pc, 0, none⟩ = some (.bool cols)
 c0 : w.cell? ⟨pl, 0, none⟩ = some (.int .i64 l.at_)
 c1 : w.cell? ⟨pl, 1, none⟩ = some (.int .i64 l.n)
 c2 : w.cell? ⟨pl, 2, none⟩ = some (.int .i64 l.many)
theorem LinAt.xt {w w' : World} {pc pl : Nat} {cols : Bool} {l : LinT} (h : LinAt w pc pl cols l) (hx : Xt w w') : LinAt w' pc pl cols l :=
 ⟨((hx.cells).1 _ _ (World.block_lt_of_cell? w _ h.c)).trans h.c, ((hx.cells).1 _ _ (World.block_lt_of_cell? w _ h.c0)).trans h.c0, ((hx.cells).1 _ _ (World.block_lt_of_cell? w _ h.c1)).trans h.c1, ((hx.cells).1 _ _ (World.block_lt_of_cell? w _ h.c2)).trans h.c2⟩
def cellF (cols : Bool) (l : LinT) (a : Int × Int) : (Int × Int) × Bool := if cols = true then (((lineF l a.1).1, a.2), (lineF l a.1).2) else ((a.1, (lineF l a.2).1), (lineF l a.2).2)
theorem cells2 {w : World} {b : Nat} {u v : Value} {T : TypeId} (h : w.heap[b]? = some (.cells #[u, v] T (0, 0))) : w.cell? ⟨b, 0, none⟩ = some u ∧ w.cell? ⟨b, 1, none⟩ = some v ∧ w.frozen? ⟨b, 0, none⟩ = false ∧ w.frozen? ⟨b, 1, none⟩ = false := by
 refine ⟨?_, ?_, ?_, ?_⟩ <;> simp [World.cell?, World.frozen?, h]
set_option maxRecDepth 100000 in
set_option maxHeartbeats 4000000 in
theorem road1_any (cols : Bool) (l : LinT) (a : Int × Int) (pc pl : Nat) (w : World) (h : LinAt w pc pl cols l) :
    Calls Tryz.prog 146 #[.agg #[.int .i64 a.1, .int .i64 a.2], .pointer (some ⟨pc, 0, none⟩), .pointer (some ⟨pl, 0, none⟩)] w fun e w' => e = .returned (.tuple #[.agg #[.int .i64 (cellF cols l a).1.1, .int .i64 (cellF cols l a).1.2], .bool (cellF cols l a).2]) ∧ Xt w w' := by
 obtain ⟨B, hB⟩ : ∃ B, w.heap.size = B := ⟨_, rfl⟩
 obtain ⟨w0, hw0⟩ : ∃ w0, w.alloc (.cells #[.int .i64 a.1, .int .i64 a.2] 24) = w0 := ⟨_, rfl⟩
 have hs0 : w0.heap.size = B + 1 := by rw [← hw0, ← hB]; simp
 obtain ⟨w1, hw1⟩ : ∃ w1, w0.alloc (.cells #[.int .i64 0, .int .i64 0] 24) = w1 := ⟨_, rfl⟩
 have hx1 : Xt w w1 := by rw [← hw1, ← hw0]; exact ((Xt.refl w).alloc _).alloc _
 have HB : Hid (w1.heap[B]? = some (.cells #[.int .i64 a.1, .int .i64 a.2] 24 (0, 0))) := by
  unfold Hid; rw [← hw1]; exact (Below.heap_alloc w0 _ _ (by omega)).trans (by rw [← hw0, ← hB]; exact (MapKept.heap_alloc w _).1)
 have HR : Hid (w1.heap[B + 1]? = some (.cells #[.int .i64 0, .int .i64 0] 24 (0, 0))) := by
  unfold Hid; rw [← hw1, ← hs0]; exact (MapKept.heap_alloc w0 _).1
 obtain ⟨c, c0, c1, c2⟩ := h.xt hx1
 obtain ⟨b0, b1, f0, f1⟩ := cells2 HB.out
 have HX1 := Lib.hid hx1
 have hBB := Lib.hid hB
 clear hx1 h
 unfold cellF
 cases cols
 ·
  have HC := Lib.hid (line_any l a.2)
  generalize lineF l a.2 = r at HC ⊢
  obtain ⟨m, ok⟩ := r
  go_enter Tryz.func146, Tryz.ntmps146
  go_wp2_with fail
  refine (HC.out _).mono ?_
  rintro e w2 ⟨rfl, hg2⟩
  have hb2 := rowX hg2.xt HB.out
  have hr2 := rowX hg2.xt HR.out
  obtain ⟨b0, b1, f0, f1⟩ := cells2 hb2
  obtain ⟨r0, r1, g0, g1⟩ := cells2 hr2
  have HX2 := Lib.hid (HX1.out.trans hg2.xt)
  obtain ⟨w3, hw3⟩ : ∃ w3, w2.setCell ⟨B, 1, none⟩ (.int .i64 m) = w3 := ⟨_, rfl⟩
  have hb3 : w3.heap[B]? = some (.cells #[.int .i64 a.1, .int .i64 m] 24 (0, 0)) := by rw [← hw3]; exact setCell_row hb2 1 _
  have hr3 : w3.heap[B + 1]? = some (.cells #[.int .i64 0, .int .i64 0] 24 (0, 0)) := by rw [← hw3]; exact (Below.heap_setCell _ _ _ _ (by simp)).trans hr2
  have hx3 : Xt w w3 := by rw [← hw3]; exact HX2.out.grownB (setCell_grown _ _ _ _) (fun q hq => by cases hq; rw [hBB.out]; exact Nat.le_refl _)
  obtain ⟨d0, d1, _, _⟩ := cells2 hb3
  obtain ⟨e0, e1, g2, g3⟩ := cells2 hr3
  have hrow : ((w3.setCell ⟨B + 1, 0, none⟩ (.int .i64 a.1)).setCell ⟨B + 1, 1, none⟩ (.int .i64 m)).heap[B + 1]? = some (.cells #[.int .i64 a.1, .int .i64 m] 24 (0, 0)) := setCell_row (setCell_row hr3 0 _) 1 _
  have hxe : Xt w ((w3.setCell ⟨B + 1, 0, none⟩ (.int .i64 a.1)).setCell ⟨B + 1, 1, none⟩ (.int .i64 m)) := (hx3.grownB (setCell_grown _ _ _ _) (fun q hq => by cases hq; rw [hBB.out]; omega)).grownB (setCell_grown _ _ _ _) (fun q hq => by cases hq; rw [hBB.out]; omega)
  clear hw0 hw1 c c0 c1 c2 hb2 hr2 hg2
  go_wp2_with fail
  (try simp only [Exit.inBlock, Exit.then])
  refine bodyPost_ret (v := .tuple #[.agg #[.int .i64 a.1, .int .i64 m], .bool ok]) ?_ rfl ⟨rfl, hxe⟩
  rw [results_cell_tmp rfl]
  show ((asAddr (.pointer (some ⟨B + 1, 0, none⟩))).run _ _).andThen _ = _
  simp only [asAddr, Sem.run_pure, Result.andThen_ok, run_loadVar_row _ _ _ 24 _ _ _ hrow Tryz.underlying24 rfl (by kernel_rfl)]
  rfl
 ·
  have HC := Lib.hid (line_any l a.1)
  generalize lineF l a.1 = r at HC ⊢
  obtain ⟨m, ok⟩ := r
  go_enter Tryz.func146, Tryz.ntmps146
  go_wp2_with fail
  refine (HC.out _).mono ?_
  rintro e w2 ⟨rfl, hg2⟩
  have hb2 := rowX hg2.xt HB.out
  have hr2 := rowX hg2.xt HR.out
  obtain ⟨b0, b1, f0, f1⟩ := cells2 hb2
  obtain ⟨r0, r1, g0, g1⟩ := cells2 hr2
  have HX2 := Lib.hid (HX1.out.trans hg2.xt)
  obtain ⟨w3, hw3⟩ : ∃ w3, w2.setCell ⟨B, 0, none⟩ (.int .i64 m) = w3 := ⟨_, rfl⟩
  have hb3 : w3.heap[B]? = some (.cells #[.int .i64 m, .int .i64 a.2] 24 (0, 0)) := by rw [← hw3]; exact setCell_row hb2 0 _
  have hr3 : w3.heap[B + 1]? = some (.cells #[.int .i64 0, .int .i64 0] 24 (0, 0)) := by rw [← hw3]; exact (Below.heap_setCell _ _ _ _ (by simp)).trans hr2
  have hx3 : Xt w w3 := by rw [← hw3]; exact HX2.out.grownB (setCell_grown _ _ _ _) (fun q hq => by cases hq; rw [hBB.out]; exact Nat.le_refl _)
  obtain ⟨d0, d1, _, _⟩ := cells2 hb3
  obtain ⟨e0, e1, g2, g3⟩ := cells2 hr3
  have hrow : ((w3.setCell ⟨B + 1, 0, none⟩ (.int .i64 m)).setCell ⟨B + 1, 1, none⟩ (.int .i64 a.2)).heap[B + 1]? = some (.cells #[.int .i64 m, .int .i64 a.2] 24 (0, 0)) := setCell_row (setCell_row hr3 0 _) 1 _
  have hxe : Xt w ((w3.setCell ⟨B + 1, 0, none⟩ (.int .i64 m)).setCell ⟨B + 1, 1, none⟩ (.int .i64 a.2)) := (hx3.grownB (setCell_grown _ _ _ _) (fun q hq => by cases hq; rw [hBB.out]; omega)).grownB (setCell_grown _ _ _ _) (fun q hq => by cases hq; rw [hBB.out]; omega)
  clear hw0 hw1 c c0 c1 c2 hb2 hr2 hg2
  go_wp2_with fail
  (try simp only [Exit.inBlock, Exit.then])
  refine bodyPost_ret (v := .tuple #[.agg #[.int .i64 m, .int .i64 a.2], .bool ok]) ?_ rfl ⟨rfl, hxe⟩
  rw [results_cell_tmp rfl]
  show ((asAddr (.pointer (some ⟨B + 1, 0, none⟩))).run _ _).andThen _ = _
  simp only [asAddr, Sem.run_pure, Result.andThen_ok, run_loadVar_row _ _ _ 24 _ _ _ hrow Tryz.underlying24 rfl (by kernel_rfl)]
  rfl
end Go.Proofs.YtdoeejhdenifpaaGreatDoor
