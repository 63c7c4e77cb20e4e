import Derived.Test.YtdoeejhdenifpaaGreatDoorB3
import Derived.Laws.Rows
import Derived.Lib.Bytealg
import Derived.Lib.Hide
set_option maxRecDepth 100000
set_option maxHeartbeats 16000000
namespace Go.Proofs.YtdoeejhdenifpaaGreatDoor
section
open Go.RowKit Go.Sort
def z9N (s : List UInt8) : Int × Int :=
 if s = [78, 65] then (0, 0) else
 if s = [65, 66, 83] then (1, 1) else
 if s = [73, 78, 84] then (1, 1) else
 if s = [73, 83, 66, 76, 65, 78, 75] then (1, 1) else
 if s = [73, 83, 69, 82, 82, 79, 82] then (1, 1) else
 if s = [73, 83, 78, 85, 77, 66, 69, 82] then (1, 1) else
 if s = [73, 83, 84, 69, 88, 84] then (1, 1) else
 if s = [76, 69, 78] then (1, 1) else
 if s = [78, 79, 84] then (1, 1) else
 if s = [83, 73, 71, 78] then (1, 1) else
 if s = [83, 73, 78, 71, 76, 69] then (1, 1) else
 if s = [83, 81, 82, 84] then (1, 1) else
 if s = [84, 82, 85, 78, 67] then (1, 1) else
 if s = [86, 65, 76, 85, 69] then (1, 1) else
 if s = [69, 88, 65, 67, 84] then (2, 2) else
 if s = [73, 70, 69, 82, 82, 79, 82] then (2, 2) else
 if s = [76, 65, 82, 71, 69] then (2, 2) else
 if s = [76, 69, 70, 84] then (2, 2) else
 if s = [77, 79, 68] then (2, 2) else
 if s = [80, 69, 82, 67, 69, 78, 84, 73, 76, 69] then (2, 2) else
 if s = [80, 79, 87, 69, 82] then (2, 2) else
 if s = [82, 69, 80, 84] then (2, 2) else
 if s = [82, 73, 71, 72, 84] then (2, 2) else
 if s = [82, 79, 85, 78, 68] then (2, 2) else
 if s = [82, 79, 85, 78, 68, 68, 79, 87, 78] then (2, 2) else
 if s = [82, 79, 85, 78, 68, 69, 86, 69, 78] then (2, 2) else
 if s = [82, 79, 85, 78, 68, 85, 80] then (2, 2) else
 if s = [83, 77, 65, 76, 76] then (2, 2) else
 if s = [83, 85, 77, 80, 82, 79, 68, 85, 67, 84] then (2, 2) else
 if s = [84, 69, 88, 84] then (2, 2) else
 if s = [73, 70] then (2, 3) else
 if s = [82, 65, 78, 75] then (2, 3) else
 if s = [67, 79, 85, 78, 84, 73, 70] then (3, 3) else
 if s = [70, 85, 83, 69, 68] then (3, 3) else
 if s = [77, 73, 68] then (3, 3) else
 if s = [65, 78, 68] then (1, 256) else
 if s = [65, 86, 69, 82, 65, 71, 69] then (1, 256) else
 if s = [67, 79, 85, 78, 84] then (1, 256) else
 if s = [67, 79, 85, 78, 84, 65] then (1, 256) else
 if s = [74, 79, 73, 78] then (1, 256) else
 if s = [77, 65, 88] then (1, 256) else
 if s = [77, 69, 68, 73, 65, 78] then (1, 256) else
 if s = [77, 73, 78] then (1, 256) else
 if s = [77, 79, 68, 69] then (1, 256) else
 if s = [79, 82] then (1, 256) else
 if s = [83, 84, 68, 69, 86] then (1, 256) else
 if s = [83, 84, 68, 69, 86, 80] then (1, 256) else
 if s = [83, 85, 77] then (1, 256) else
 if s = [83, 85, 77, 83, 81] then (1, 256) else
 if s = [86, 65, 82] then (1, 256) else
 if s = [86, 65, 82, 80] then (1, 256) else
 if s = [67, 72, 79, 79, 83, 69] then (2, 256) else
 (-1, -1)
theorem zND (s : ByteArray) (w : World) : Calls Tryz.prog 175 #[s] w fun e w' => e = .returned (.agg #[(z9N s.toList).1, (z9N s.toList).2]) /\ Gr w w' := by
 cases f0 : s.toList == [78, 65];cases f1 : s.toList == [65, 66, 83];cases f2 : s.toList == [73, 78, 84];cases f3 : s.toList == [73, 83, 66, 76, 65, 78, 75];cases f4 : s.toList == [73, 83, 69, 82, 82, 79, 82];cases f5 : s.toList == [73, 83, 78, 85, 77, 66, 69, 82];cases f6 : s.toList == [73, 83, 84, 69, 88, 84];cases f7 : s.toList == [76, 69, 78];cases f8 : s.toList == [78, 79, 84];cases f9 : s.toList == [83, 73, 71, 78];cases f10 : s.toList == [83, 73, 78, 71, 76, 69];cases f11 : s.toList == [83, 81, 82, 84];cases f12 : s.toList == [84, 82, 85, 78, 67];cases f13 : s.toList == [86, 65, 76, 85, 69];cases f14 : s.toList == [69, 88, 65, 67, 84];cases f15 : s.toList == [73, 70, 69, 82, 82, 79, 82];cases f16 : s.toList == [76, 65, 82, 71, 69];cases f17 : s.toList == [76, 69, 70, 84];cases f18 : s.toList == [77, 79, 68];cases f19 : s.toList == [80, 69, 82, 67, 69, 78, 84, 73, 76, 69];cases f20 : s.toList == [80, 79, 87, 69, 82];cases f21 : s.toList == [82, 69, 80, 84];cases f22 : s.toList == [82, 73, 71, 72, 84];cases f23 : s.toList == [82, 79, 85, 78, 68];cases f24 : s.toList == [82, 79, 85, 78, 68, 68, 79, 87, 78];cases f25 : s.toList == [82, 79, 85, 78, 68, 69, 86, 69, 78];cases f26 : s.toList == [82, 79, 85, 78, 68, 85, 80];cases f27 : s.toList == [83, 77, 65, 76, 76];cases f28 : s.toList == [83, 85, 77, 80, 82, 79, 68, 85, 67, 84];cases f29 : s.toList == [84, 69, 88, 84];cases f30 : s.toList == [73, 70];cases f31 : s.toList == [82, 65, 78, 75];cases f32 : s.toList == [67, 79, 85, 78, 84, 73, 70];cases f33 : s.toList == [70, 85, 83, 69, 68];cases f34 : s.toList == [77, 73, 68];cases f35 : s.toList == [65, 78, 68];cases f36 : s.toList == [65, 86, 69, 82, 65, 71, 69];cases f37 : s.toList == [67, 79, 85, 78, 84];cases f38 : s.toList == [67, 79, 85, 78, 84, 65];cases f39 : s.toList == [74, 79, 73, 78];cases f40 : s.toList == [77, 65, 88];cases f41 : s.toList == [77, 69, 68, 73, 65, 78];cases f42 : s.toList == [77, 73, 78];cases f43 : s.toList == [77, 79, 68, 69];cases f44 : s.toList == [79, 82];cases f45 : s.toList == [83, 84, 68, 69, 86];cases f46 : s.toList == [83, 84, 68, 69, 86, 80];cases f47 : s.toList == [83, 85, 77];cases f48 : s.toList == [83, 85, 77, 83, 81];cases f49 : s.toList == [86, 65, 82];cases f50 : s.toList == [86, 65, 82, 80];cases f51 : s.toList == [67, 72, 79, 79, 83, 69]
 have e : z9N s.toList = (-1, -1) := (by unfold z9N; (iterate 52 refine Eq.trans (if_neg (ne_of_beq_false (by assumption))) ?_); rfl);rw [e]; clear e
 all_goals go_enter Tryz.func175, Tryz.ntmps175
 all_goals go_wp2_with fail
 all_goals (try simp only [Exit.inBlock, Exit.then])
 all_goals refine p_ (t_ rfl _ _ w.heap.size _ _ _ _ rfl (heap_alloc_new _ _) Tryz.underlying196 rfl (by kernel_rfl)) rfl ⟨?_, (Gr.refl _).alloc _⟩
 all_goals first | rfl | (rw [eq_of_beq ‹(s.toList == _) = true›]; rfl)
def jrj (s : List UInt8) : Int × Int × Bool := if (z9N s).1 < 0 then (0, 0, false) else ((z9N s).1, (z9N s).2, true)
theorem z6f (s : ByteArray) (w : World) :
    Calls Tryz.prog 161 #[s] w fun e w' => e = .returned (.tuple #[(jrj s.toList).1, .int .i64 (jrj s.toList).2.1, .bool (jrj s.toList).2.2]) /\ Gr w w' := by
 have hc := zND s w;have HC := h_ hc;generalize hn : jrj s.toList = ans;have HA := h_ hn;unfold jrj at HA;generalize z9N s.toList = tk at HC HA;obtain ⟨t1, t2⟩ := tk;simp only at HA;clear hc hn;go_enter Tryz.func161, Tryz.ntmps161;go_wp2_with fail;refine (HC.out).mono ?_;rintro e w1 ⟨rfl, hg1⟩;obtain ⟨w2, hw2⟩ := e_ (w1.alloc (.cells #[t1, t2] 196));have hg2 : Gr w1 w2 := (by rw [<- hw2]; exact (Gr.refl _).alloc _);have e0 : w2.cell? ⟨w1.heap.size, 0, none⟩ = some (.int .i64 t1) := (by rw [<- hw2]; simp);have e1 : w2.cell? ⟨w1.heap.size, 1, none⟩ = some (.int .i64 t2) := (by rw [<- hw2]; simp);have HG2 := h_ (hg1.trans hg2)
 clear hg2 hg1;go_wp2_with fail
 . go_ret3
   refine ⟨?_, HG2.out⟩;rw [<- HA.out, if_pos (by assumption)];rfl
 . have i0 : (0 : Int) < (2 : Int) := (by decide);have i1 : (1 : Int) < (2 : Int) := by decide
   go_quiet (fail)
   go_wp2_with fail
   go_ret3
   refine ⟨?_, HG2.out.drewN _⟩;rw [<- HA.out, if_neg (by omega)];rfl
theorem zzc (c r : Int) (w : World) : Calls Tryz.prog 63 #[.agg #[c, r]] w fun e w' => e = .returned (.bool (y8L c r)) /\ Gr w w' :=
 (zpQ c r w).mono fun _ _ ⟨h1, h2⟩ => ⟨h1, h2 ▸ (Gr.refl _).alloc _⟩
theorem jfv (a1 a2 b1 b2 : Int) (w : World) :
    Calls Tryz.prog 40 #[.agg #[a1, a2, b1, b2]] w fun e w' => e = .returned (.bool (y8L a1 a2 && y8L b1 b2 && decide (a1 <= b1) && decide (a2 <= b2))) /\ Gr w w' := by
 generalize hn : (y8L a1 a2 && y8L b1 b2 && decide (a1 <= b1) && decide (a2 <= b2)) = ans;have HA := h_ hn;clear hn;obtain ⟨w0, hw0⟩ := e_ (w.alloc (.cells #[a1, a2, b1, b2] 26));have hg0 : Gr w w0 := (by rw [<- hw0]; exact (Gr.refl _).alloc _);have hs0 : w0.heap.size = w.heap.size + 1 := (by rw [<- hw0]; simp);have c0 : w0.cell? ⟨w.heap.size, 0, none⟩ = some (.int .i64 a1) := (by rw [<- hw0]; simp);have c1 : w0.cell? ⟨w.heap.size, 1, none⟩ = some (.int .i64 a2) := (by rw [<- hw0]; simp);have c2 : w0.cell? ⟨w.heap.size, 2, none⟩ = some (.int .i64 b1) := by rw [<- hw0]; simp
 have c3 : w0.cell? ⟨w.heap.size, 3, none⟩ = some (.int .i64 b2) := (by rw [<- hw0]; simp);have HG0 := h_ hg0;have H1 := h_ (zzc a1 a2);have H2 := h_ (zzc b1 b2);clear hg0;generalize hv1 : y8L a1 a2 = v1 at H1 HA;generalize hv2 : y8L b1 b2 = v2 at H2 HA;clear hv1 hv2;go_enter Tryz.func40, Tryz.ntmps40;go_wp2_with fail;refine (H1.out _).mono ?_;rintro e w1 ⟨rfl, hg1⟩;have kk := fun o => (hg1.xt.cells).1 w.heap.size o (by omega);have k0 := (kk 0).trans c0;have k1 := (kk 1).trans c1;have k2 := (kk 2).trans c2;have k3 := (kk 3).trans c3;have hs1 : w.heap.size < w1.heap.size := (by have := hg1.xt.sz; omega);have HG1 := h_ hg1;clear hg1 kk c0 c1 c2 c3 hw0
 cases v1 with
 | false =>
  go_wp2_with fail;go_ret;exact ⟨by rw [<- HA.out]; simp, HG0.out.trans HG1.out⟩
 | true =>
  go_wp2_with fail;refine (H2.out _).mono ?_;rintro e w2 ⟨rfl, hg2⟩;have kk := fun o => (hg2.xt.cells).1 w.heap.size o (by omega);have l0 := (kk 0).trans k0;have l1 := (kk 1).trans k1;have l2 := (kk 2).trans k2;have l3 := (kk 3).trans k3;have HG2 := h_ hg2;clear hg2 kk k0 k1 k2 k3;cases v2 with
  | false =>
   go_wp2_with fail;go_ret;exact ⟨by rw [<- HA.out]; simp, (HG0.out.trans HG1.out).trans HG2.out⟩
  | true =>
   go_wp2_with fail
   all_goals (go_ret; exact ⟨by rw [<- HA.out]; first | (simp [*]; done) | (simp [*]; omega), (HG0.out.trans HG1.out).trans HG2.out⟩)
def zPp (x : Nat) : Int := if ordX x x != some .eq then 9223372036854775807 else if jRl x = true then wrap64 (wrap64 (-(wrap64 (absX x))) - 1) else wrap64 (absX x)
inductive KeyV where
 | n (p : Int) | s (l : List UInt8) | b (b : Bool) | f (f : Int) | o
def keyV (v : ValT) : Int × KeyV := (v.kind, if (v.kind == 1) = true then .n (zPp v.x) else if (v.kind == 2) = true then .s v.s.data.toList else if (v.kind == 3) = true then .b v.b else if (v.kind == 4) = true then .f v.f else .o)
noncomputable def zpY (a b : ValT) : Bool := @decide (keyV a = keyV b) (Classical.propDecidable _)
end
end Go.Proofs.YtdoeejhdenifpaaGreatDoor
