import Derived.Test.YtdoeejhdenifpaaGreatDoorZ1
import Derived.Deep.MidRow
import Derived.Laws.Tables
import Derived.OwnWalkIn
import Derived.BigFrameIn
import Derived.Test.YtdoeejhdenifpaaGreatDoorA7
import Derived.Test.YtdoeejhdenifpaaGreatDoorM6
import Derived.Test.YtdoeejhdenifpaaGreatDoorA5
import Derived.Deep.Cut
import Derived.Test.YtdoeejhdenifpaaGreatDoorA6
import Derived.Test.YtdoeejhdenifpaaGreatDoorA2
import Derived.Deep.RegionHeld3
/- The laws of rows (loads and stores of many cells), for the fenced walk. -/
namespace Go.Proofs.YtdoeejhdenifpaaGreatDoor
open Go.RowKit
theorem run_equalIn_func_nil {P : Program} (w : World) (d : Nat) (t : TypeId) (ps rs : Array TypeId) (v : Bool) (fn : Fn) (fi ca : Array Value) (h : P.underlying t = some (.func ps rs v)) :
    (Op.equalIn (d + 1) t (.func fn fi ca) .nilFunc).run P w = .ok false w := by simp [Op.equalIn, run_underlying h]
theorem run_eql_func_nil {P : Program} (w : World) (t : TypeId) (ps rs : Array TypeId) (v : Bool) (fn : Fn) (fi ca : Array Value) (h : P.underlying t = some (.func ps rs v)) :
    (binOp .eql t (.func fn fi ca) .nilFunc).run P w = .ok (.bool false) w := by
 simp only [binOp]
 simp [show Op.equal t (.func fn fi ca) .nilFunc = Op.equalIn (9999 + 1) t (.func fn fi ca) .nilFunc from rfl, run_equalIn_func_nil w 9999 t ps rs v fn fi ca h]
theorem exec_load_row {P : Program} {o : Oper} {a : Act} {w : World} (ty : TypeId) (x : Operand) (ho : o.op = .load ty x) (g : Nat) (hx : a.eval x = .pointer (some ⟨g, 0, none⟩)) (t : TypeId) (cs : Array Value) (fr : Nat × Nat) (d : TypeDesc) (hg : w.heap[g]? = some (.cells cs t fr))
    (hu : P.underlying ty = some d) (hd : (match d with | .struct _ | .array _ _ => true | _ => false) = true) (hi : (P.info? ty).map (·.size) = some cs.size) : (execOp a.eval o).run P w = .ok (.value (.agg cs)) w := by
 unfold execOp
 simp only [ho, hx, Instr.loadAt, Instr.sureAddr, Sem.run_bind, Sem.run_pure, Result.andThen_ok, run_loadVar_row w g t ty cs fr d hg hu hd hi]
theorem exec_load_mid {P : Program} {o : Oper} {a : Act} {w : World} (ty : TypeId) (x : Operand) (ho : o.op = .load ty x) (b off : Nat) (hx : a.eval x = .pointer (some ⟨b, off, none⟩)) (cs : List Value) (d : TypeDesc) (hc : w.rangeAt b off cs)
    (hu : P.underlying ty = some d) (hd : d.isRow = true) (hi : (P.info? ty).map (·.size) = some cs.length) : (execOp a.eval o).run P w = .ok (.value (.agg cs.toArray)) w := by
 unfold execOp
 simp only [ho, hx, Instr.loadAt, Instr.sureAddr, Sem.run_bind, Sem.run_pure, Result.andThen_ok, run_loadVar_mid w b off ty cs d hc hu hd hi]
section
variable {F : Fence} {n : Nat} {P : Program} {o : Oper} {a : Act} {w : World} {K : Act → World → Prop} {Q : Exit → Act → World → Prop}
theorem wpIn_load_row (ty : TypeId) (x : Operand) (ho : o.op = .load ty x) (g : Nat) (hx : a.eval x = .pointer (some ⟨g, 0, none⟩)) (t : TypeId) (cs : Array Value) (fr : Nat × Nat) (d : TypeDesc) (hg : w.heap[g]? = some (.cells cs t fr))
    (hu : P.underlying ty = some d) (hd : (match d with | .struct _ | .array _ _ => true | _ => false) = true) (hi : (P.info? ty).map (·.size) = some cs.size)
    (h : K (a.put o.dst (.agg cs)) w) : o.wpIn F n P a w K Q := by
 refine ⟨fun f hf => ?_, ?_⟩
 · simp [Oper.about, ho] at hf
 · rw [Oper.semAt_plain F _ _ (by rw [ho]; intro c hc'; cases hc')]
   unfold execOp
   simp only [ho, hx, Instr.loadAt, Instr.sureAddr, Sem.run_bind, Sem.run_pure, Result.andThen_ok, run_loadVar_row w g t ty cs fr d hg hu hd hi]
   exact h
theorem wpIn_store_row (ty : TypeId) (x y : Operand) (ho : o.op = .store ty x y) (g : Nat) (cells : Array Value) (hx : a.eval x = .pointer (some ⟨g, 0, none⟩)) (hy : a.eval y = .agg cells)
    (t : TypeId) (old : Array Value) (hg : w.heap[g]? = some (.cells old t (0, 0))) (hi : (P.info? ty).map (·.size) = some cells.size)
    (hold : old.size = cells.size) (h1 : cells.all (·.oneCell') = true)
    (h : K (a.put o.dst undef) (w.setRow g cells)) : o.wpIn F n P a w K Q := by
 refine ⟨fun f hf => ?_, ?_⟩
 · simp [Oper.about, ho] at hf
 · rw [Oper.semAt_plain F _ _ (by rw [ho]; intro c hc'; cases hc')]
   unfold execOp
   simp only [ho, hx, hy, Instr.storeAt, Instr.sureAddr, Sem.run_bind, Sem.run_pure, Result.andThen_ok, run_storeVar_row w g t ty old cells hg hi hold h1]
   exact h
end
section
variable {F : Fence} {n : Nat} {P : Program} {ops : Array Oper} {rest : List Oper} {o : Oper} {a : Act} {w : World} {Q : Exit → Act → World → Prop}
theorem wpListIn_store_row (hgd : o.guard = none) (ty : TypeId) (x y : Operand) (ho : o.op = .store ty x y) (g : Nat) (cells : Array Value) (hx : a.eval x = .pointer (some ⟨g, 0, none⟩)) (hy : a.eval y = .agg cells)
    (t : TypeId) (old : Array Value) (hg : w.heap[g]? = some (.cells old t (0, 0))) (hi : (P.info? ty).map (·.size) = some cells.size)
    (hold : old.size = cells.size) (h1 : cells.all (·.oneCell') = true)
    (h : wpListIn F n P ops Q rest (a.put o.dst undef) (w.setRow g cells)) : wpListIn F n P ops Q (o :: rest) a w :=
 wpListIn_plain hgd fun _ hK => wpIn_store_row ty x y ho g cells hx hy t old hg hi hold h1 (hK _ _ h)
end
end Go.Proofs.YtdoeejhdenifpaaGreatDoor
/- addr: a cell as a formula names it when it is copied so far (made by mkt1.py). -/
namespace Go.Proofs.YtdoeejhdenifpaaGreatDoor
open Go.RowKit Go.Sort Go.MapKept
attribute [local go_sem] Oper.semAt_some
theorem cells4R {w : World} {b : Nat} {v0 v1 v2 v3 : Value} {T : TypeId} (h : w.heap[b]? = some (.cells #[v0, v1, v2, v3] T (0, 0))) :
    w.cell? ⟨b, 0, none⟩ = some v0 ∧ w.cell? ⟨b, 1, none⟩ = some v1 ∧ w.cell? ⟨b, 2, none⟩ = some v2 ∧ w.cell? ⟨b, 3, none⟩ = some v3 ∧ w.frozen? ⟨b, 0, none⟩ = false ∧ w.frozen? ⟨b, 1, none⟩ = false ∧ w.frozen? ⟨b, 2, none⟩ = false ∧ w.frozen? ⟨b, 3, none⟩ = false := by
 refine ⟨?_, ?_, ?_, ?_, ?_, ?_, ?_, ?_⟩ <;> simp [World.cell?, World.frozen?, h]
set_option maxHeartbeats 2000000 in
theorem amoved_any (n b : Int) (fx : Bool) (w : World) :
    Calls Tryz.prog 178 #[.int .i64 n, .int .i64 b, .bool fx] w fun e w' => e = .returned (.int .i64 (shN n b fx)) ∧ w = w' := by
 unfold shN
 cases fx
 · simp only [Bool.false_eq_true, if_false]
   by_cases h1 : 1048576 < b
   · rw [if_pos h1]
     go_enter Tryz.func178, Tryz.ntmps178
     go_wp2
     go_ret
     exact ⟨rfl, rfl⟩
   · rw [if_neg h1]
     by_cases h2 : b < -1048576
     · rw [if_pos h2]
       go_enter Tryz.func178, Tryz.ntmps178
       go_wp2
       go_ret
       exact ⟨rfl, rfl⟩
     · rw [if_neg h2]
       obtain ⟨s, hs⟩ : ∃ s, wrap64 (n + b) = s := ⟨_, rfl⟩
       go_enter Tryz.func178, Tryz.ntmps178
       go_wp2
       go_ret
       exact ⟨by simp, rfl⟩
 · simp only [if_true]
   go_enter Tryz.func178, Tryz.ntmps178
   go_wp2
   go_ret
   exact ⟨rfl, rfl⟩
set_option maxRecDepth 100000 in
set_option maxHeartbeats 4000000 in
theorem ashift_any (x : RefT) (cc rr : Int) (w : World) :
    Calls Tryz.prog 164 #[.agg #[.int .i64 x.a.1, .int .i64 x.a.2, .bool x.cf, .bool x.rf], .int .i64 cc, .int .i64 rr] w fun e w' => e = .returned (.tuple #[.agg #[.int .i64 (shR cc rr x).a.1, .int .i64 (shR cc rr x).a.2, .bool (shR cc rr x).cf, .bool (shR cc rr x).rf], .bool (shB cc rr x)]) ∧ Xt w w' := by
 obtain ⟨B, hB⟩ : ∃ B, w.heap.size = B := ⟨_, rfl⟩
 obtain ⟨w0, hw0⟩ : ∃ w0, w.alloc (.cells #[.int .i64 x.a.1, .int .i64 x.a.2, .bool x.cf, .bool x.rf] 46) = w0 := ⟨_, rfl⟩
 have hs0 : w0.heap.size = B + 1 := by rw [← hw0, ← hB]; simp
 obtain ⟨w1, hw1⟩ : ∃ w1, w0.alloc (.cells #[.int .i64 0, .int .i64 0, .bool false, .bool false] 46) = w1 := ⟨_, rfl⟩
 have HX1 : Hid (Xt w w1) := by unfold Hid; rw [← hw1, ← hw0]; exact ((Xt.refl w).alloc _).alloc _
 have HR0 : Hid (w1.heap[B]? = some (.cells #[.int .i64 x.a.1, .int .i64 x.a.2, .bool x.cf, .bool x.rf] 46 (0, 0))) := rowX (w := w0) (by rw [← hw1]; exact (Xt.refl _).alloc _) (by rw [← hw0, ← hB]; exact (MapKept.heap_alloc w _).1)
 have HR1 : Hid (w1.heap[B + 1]? = some (.cells #[.int .i64 0, .int .i64 0, .bool false, .bool false] 46 (0, 0))) := by unfold Hid; rw [← hw1, ← hs0]; exact (MapKept.heap_alloc w0 _).1
 have hone : Hid (∀ (A : World) (b o : Nat) (u : Value), w.heap.size ≤ b → Xt w A → Xt w (A.setCell ⟨b, o, none⟩ u)) := Lib.hid fun A b o u hb h => h.grownB (setCell_grown _ _ _ _) (fun q hq => by cases hq; exact hb)
 have honeR : Hid (∀ (A : World) (b : Nat) (cs : Array Value), w.heap.size ≤ b → Xt w A → Xt w (A.setRow b cs)) := Lib.hid fun A b cs hb h => h.grownB (setRow_grown _ _ _) (fun q hq => by cases hq; exact hb)
 obtain ⟨b0, b1, b2, b3, f0, f1, _, _⟩ := cells4R HR0.out
 obtain ⟨y0, y1, y2, y3, g0, g1, g2, g3⟩ := cells4R HR1.out
 unfold shR shB
 cases hv : validB x.a.1 x.a.2
 · have HV1 := Lib.hid (valid_any x.a.1 x.a.2 w1)
   rw [hv] at HV1
   simp only [Bool.false_and, Bool.false_eq_true, if_false]
   clear hv
   go_enter Tryz.func164, Tryz.ntmps164
   go_wp2_with (first
    | (go_at_call 63; refine (HV1.out).mono ?_; rintro e w2 ⟨rfl, hg2⟩; have HX2 : Hid (Xt w1 w2) := (by unfold Hid; rw [hg2]; exact (Xt.refl _).alloc _); obtain ⟨y0, y1, y2, y3, g0, g1, g2, g3⟩ := cells4R (rowX HX2.out HR1.out); clear hg2))
   (try simp only [Exit.inBlock, Exit.then])
   have hrowE : ((((w2.setCell ⟨B + 1, 0, none⟩ (.int .i64 0)).setCell ⟨B + 1, 1, none⟩ (.int .i64 0)).setCell ⟨B + 1, 2, none⟩ (.bool false)).setCell ⟨B + 1, 3, none⟩ (.bool false)).heap[B + 1]? = some (.cells #[.int .i64 0, .int .i64 0, .bool false, .bool false] 46 (0, 0)) := (setCell_row (setCell_row (setCell_row (setCell_row (rowX HX2.out HR1.out) 0 (.int .i64 0)) 1 (.int .i64 0)) 2 (.bool false)) 3 (.bool false))
   have hxE : Xt w ((((w2.setCell ⟨B + 1, 0, none⟩ (.int .i64 0)).setCell ⟨B + 1, 1, none⟩ (.int .i64 0)).setCell ⟨B + 1, 2, none⟩ (.bool false)).setCell ⟨B + 1, 3, none⟩ (.bool false)) := (hone.out _ (B + 1) 3 (.bool false) (by omega) (hone.out _ (B + 1) 2 (.bool false) (by omega) (hone.out _ (B + 1) 1 (.int .i64 0) (by omega) (hone.out _ (B + 1) 0 (.int .i64 0) (by omega) (HX1.out.trans HX2.out)))))
   refine bodyPost_ret (v := .tuple #[.agg #[.int .i64 0, .int .i64 0, .bool false, .bool false], .bool false]) ?_ rfl ?_
   · rw [results_cell_tmp rfl]
     show ((asAddr (.pointer (some ⟨B + 1, 0, none⟩))).run _ _).andThen _ = _
     simp only [asAddr, Sem.run_pure, Result.andThen_ok, run_loadVar_row _ _ _ 46 #[.int .i64 0, .int .i64 0, .bool false, .bool false] _ _ hrowE Tryz.underlying46 rfl (by kernel_rfl)]
     rfl
   · exact ⟨rfl, hxE⟩
 · have HV1 := Lib.hid (valid_any x.a.1 x.a.2 w1)
   rw [hv] at HV1
   obtain ⟨m1, hm1⟩ : ∃ m, shN x.a.1 cc x.cf = m := ⟨_, rfl⟩
   obtain ⟨m2, hm2⟩ : ∃ m, shN x.a.2 rr x.rf = m := ⟨_, rfl⟩
   have HM1 := Lib.hid (fun V => amoved_any x.a.1 cc x.cf V)
   have HM2 := Lib.hid (fun V => amoved_any x.a.2 rr x.rf V)
   rw [hm1] at HM1
   rw [hm2] at HM2
   simp only [shA, Bool.true_and, hm1, hm2]
   obtain ⟨vb, hvb⟩ : ∃ v, validB m1 m2 = v := ⟨_, rfl⟩
   rw [hvb]
   have HVB := Lib.hid hvb
   have hk1 : True := trivial
   clear hv hm1 hm2 hvb
   go_enter Tryz.func164, Tryz.ntmps164
   go_wp2_with (first
    | (go_at_call 63; have hk0 := hk1; clear hk1 hk0; refine (HV1.out).mono ?_; rintro e w2 ⟨rfl, hg2⟩; have HX2 : Hid (Xt w1 w2) := (by unfold Hid; rw [hg2]; exact (Xt.refl _).alloc _); have HRB := Lib.hid (rowX HX2.out HR0.out); clear hg2))
   obtain ⟨z0, z1, z2, z3, f0, f1, _, _⟩ := cells4R HRB.out
   clear b0 b1 b2 b3 y0 y1 y2 y3 g0 g1 g2 g3
   refine wp_region_held_drew (S := fun V => V.cell? ⟨B, 2, none⟩ = some (.bool x.cf) ∧ V.cell? ⟨B, 3, none⟩ = some (.bool x.rf)) (by kernel_rfl) ⟨z2, z3⟩ (fun hHeld => ?_)
   refine tkH 0 ?_ ?_ ?_
   rotate_left
   · intro V hSw; obtain ⟨k2, k3⟩ := hSw; go_simp; first | done | with_reducible rfl
   try simp only [Act.put, nm]
   refine tkH 1 ?_ ?_ ?_
   rotate_left
   · intro V hSw; obtain ⟨k2, k3⟩ := hSw; go_simp; first | done | with_reducible rfl
   try simp only [Act.put, nm]
   refine tkH 3 ?_ ?_ ?_
   rotate_left
   · intro V hSw; obtain ⟨k2, k3⟩ := hSw; go_simp; first | done | with_reducible rfl
   try simp only [Act.put, nm]
   refine tkH 4 ?_ ?_ ?_
   rotate_left
   · intro V hSw; obtain ⟨k2, k3⟩ := hSw; go_simp; first | done | with_reducible rfl
   try simp only [Act.put, nm]
   refine tkH 5 ?_ ?_ ?_
   rotate_left
   · intro V hSw; obtain ⟨k2, k3⟩ := hSw; go_simp; first | done | with_reducible rfl
   try simp only [Act.put, nm]
   refine tkH 7 ?_ ?_ ?_
   rotate_left
   · intro V hSw; obtain ⟨k2, k3⟩ := hSw; go_simp; first | done | with_reducible rfl
   try simp only [Act.put, nm]
   refine tkH 8 ?_ ?_ ?_
   rotate_left
   · intro V hSw; obtain ⟨k2, k3⟩ := hSw; go_simp; first | done | with_reducible rfl
   try simp only [Act.put, nm]
   refine tkH 10 ?_ ?_ ?_
   rotate_left
   · intro V hSw; obtain ⟨k2, k3⟩ := hSw; go_simp; first | done | with_reducible rfl
   try simp only [Act.put, nm]
   refine tkH 11 ?_ ?_ ?_
   rotate_left
   · intro V hSw; obtain ⟨k2, k3⟩ := hSw; go_simp; first | done | with_reducible rfl
   try simp only [Act.put, nm]
   refine tkH 12 ?_ ?_ ?_
   rotate_left
   · intro V hSw; obtain ⟨k2, k3⟩ := hSw; go_simp; first | done | with_reducible rfl
   try simp only [Act.put, nm]
   refine wpAnyH_ready (rs := [2, 9]) (by kernel_rfl) (by simp) ?_
   refine AllReadyH.cons (o := _) rfl (fun K hK => ?_) (AllReadyH.cons (o := _) rfl (fun K hK => ?_) AllReadyH.nil)
   · go_simp
     refine hK.out _ _ hHeld (fun hHe => ?_)
     clear hK K
     try simp only [Act.put, nm]
     refine wpAnyH_ready (rs := [6, 9]) (by kernel_rfl) (by simp) ?_
     refine AllReadyH.cons (o := _) rfl (fun K hK => ?_) (AllReadyH.cons (o := _) rfl (fun K hK => ?_) AllReadyH.nil)
     · go_simp
       refine (HM1.out _).mono ?_
       rintro e w' ⟨rfl, rfl⟩
       refine hK.out _ _ hHeld (fun hHe => ?_)
       clear hK K
       try simp only [Act.put, nm]
       refine rdH 9 (fun K hK => ?_)
       go_simp
       refine hK.out _ _ hHeld (fun hHe => ?_)
       clear hK K
       try simp only [Act.put, nm]
       refine rdH 13 (fun K hK => ?_)
       go_simp
       refine (HM2.out _).mono ?_
       rintro e w' ⟨rfl, rfl⟩
       refine hK.out _ _ hHeld (fun hHe => ?_)
       clear hK K
       try simp only [Act.put, nm]
       refine tkH 14 ?_ ?_ ?_
       rotate_left
       · intro V hSw; obtain ⟨k2, k3⟩ := hSw; go_simp; first | done | with_reducible rfl
       try simp only [Act.put, nm]
       refine tkH 15 ?_ ?_ ?_
       rotate_left
       · intro V hSw; obtain ⟨k2, k3⟩ := hSw; go_simp; first | done | with_reducible rfl
       try simp only [Act.put, nm]
       refine rdH 16 (fun K hK => ?_)
       go_simp
       refine hK.out _ _ ?_ (fun hHe => ?_)
       · exact ⟨(World.cell?_setCell_other _ _ _ _ (by simp)).trans ((World.cell?_setCell_other _ _ _ _ (by simp)).trans z2), (World.cell?_setCell_other _ _ _ _ (by simp)).trans ((World.cell?_setCell_other _ _ _ _ (by simp)).trans z3)⟩
       clear hK K
       refine wpAnyH_done (by kernel_rfl) ?_ _
       obtain ⟨wS, hwS⟩ : ∃ wS, ((w2.setCell ⟨B, 0, none⟩ (.int .i64 m1)).setCell ⟨B, 1, none⟩ (.int .i64 m2)).drew = wS := ⟨_, rfl⟩
       have HRS : Hid (wS.heap[B]? = some (.cells #[.int .i64 m1, .int .i64 m2, .bool x.cf, .bool x.rf] 46 (0, 0))) := (by unfold Hid; rw [← hwS]; exact setCell_row (setCell_row HRB.out 0 _) 1 _)
       have HRE : Hid (wS.heap[B + 1]? = some (.cells #[.int .i64 0, .int .i64 0, .bool false, .bool false] 46 (0, 0))) := (by unfold Hid; rw [← hwS]; exact (Below.heap_setCell _ _ _ _ (by simp)).trans ((Below.heap_setCell _ _ _ _ (by simp)).trans (rowX HX2.out HR1.out)))
       have HXS : Hid (Xt w wS) := (by unfold Hid; rw [← hwS]; exact (hone.out _ _ _ _ (by omega) (hone.out _ _ _ _ (by omega) (HX1.out.trans HX2.out))).drew)
       rw [hwS]
       clear hwS z0 z1 z2 z3 f0 f1
       obtain ⟨x0, x1, x2, x3, h0, h1, _, _⟩ := cells4R HRS.out
       have HV2 := Lib.hid (valid_any m1 m2 wS)
       rw [HVB.out] at HV2
       cases vb
       · try simp only [Bool.false_eq_true, if_false]
         go_wp2_with (first
          | (go_at_call 63; refine (HV2.out).mono ?_; rintro e w3 ⟨rfl, hg3⟩; have HX3 : Hid (Xt wS w3) := (by unfold Hid; rw [hg3]; exact (Xt.refl _).alloc _); obtain ⟨x0, x1, x2, x3, h0, h1, _, _⟩ := cells4R (rowX HX3.out HRS.out); obtain ⟨y0, y1, y2, y3, g0, g1, g2, g3⟩ := cells4R (rowX HX3.out HRE.out); clear hg3))
         (try simp only [Exit.inBlock, Exit.then])
         have hrowE : ((((w3.setCell ⟨B + 1, 0, none⟩ (.int .i64 0)).setCell ⟨B + 1, 1, none⟩ (.int .i64 0)).setCell ⟨B + 1, 2, none⟩ (.bool false)).setCell ⟨B + 1, 3, none⟩ (.bool false)).heap[B + 1]? = some (.cells #[.int .i64 0, .int .i64 0, .bool false, .bool false] 46 (0, 0)) := (setCell_row (setCell_row (setCell_row (setCell_row (rowX HX3.out HRE.out) 0 (.int .i64 0)) 1 (.int .i64 0)) 2 (.bool false)) 3 (.bool false))
         have hxE : Xt w ((((w3.setCell ⟨B + 1, 0, none⟩ (.int .i64 0)).setCell ⟨B + 1, 1, none⟩ (.int .i64 0)).setCell ⟨B + 1, 2, none⟩ (.bool false)).setCell ⟨B + 1, 3, none⟩ (.bool false)) := (hone.out _ (B + 1) 3 (.bool false) (by omega) (hone.out _ (B + 1) 2 (.bool false) (by omega) (hone.out _ (B + 1) 1 (.int .i64 0) (by omega) (hone.out _ (B + 1) 0 (.int .i64 0) (by omega) (HXS.out.trans HX3.out)))))
         refine bodyPost_ret (v := .tuple #[.agg #[.int .i64 0, .int .i64 0, .bool false, .bool false], .bool false]) ?_ rfl ?_
         · rw [results_cell_tmp rfl]
           show ((asAddr (.pointer (some ⟨B + 1, 0, none⟩))).run _ _).andThen _ = _
           simp only [asAddr, Sem.run_pure, Result.andThen_ok, run_loadVar_row _ _ _ 46 #[.int .i64 0, .int .i64 0, .bool false, .bool false] _ _ hrowE Tryz.underlying46 rfl (by kernel_rfl)]
           rfl
         · exact ⟨rfl, hxE⟩
       · try simp only [if_true]
         go_wp2_with (first
          | (go_at_call 63; refine (HV2.out).mono ?_; rintro e w3 ⟨rfl, hg3⟩; have HX3 : Hid (Xt wS w3) := (by unfold Hid; rw [hg3]; exact (Xt.refl _).alloc _); obtain ⟨x0, x1, x2, x3, h0, h1, _, _⟩ := cells4R (rowX HX3.out HRS.out); obtain ⟨y0, y1, y2, y3, g0, g1, g2, g3⟩ := cells4R (rowX HX3.out HRE.out); clear hg3))
         (try simp only [Exit.inBlock, Exit.then])
         have hrowE : ((((w3.setCell ⟨B + 1, 0, none⟩ (.int .i64 m1)).setCell ⟨B + 1, 1, none⟩ (.int .i64 m2)).setCell ⟨B + 1, 2, none⟩ (.bool x.cf)).setCell ⟨B + 1, 3, none⟩ (.bool x.rf)).heap[B + 1]? = some (.cells #[.int .i64 m1, .int .i64 m2, .bool x.cf, .bool x.rf] 46 (0, 0)) := (setCell_row (setCell_row (setCell_row (setCell_row (rowX HX3.out HRE.out) 0 (.int .i64 m1)) 1 (.int .i64 m2)) 2 (.bool x.cf)) 3 (.bool x.rf))
         have hxE : Xt w ((((w3.setCell ⟨B + 1, 0, none⟩ (.int .i64 m1)).setCell ⟨B + 1, 1, none⟩ (.int .i64 m2)).setCell ⟨B + 1, 2, none⟩ (.bool x.cf)).setCell ⟨B + 1, 3, none⟩ (.bool x.rf)) := (hone.out _ (B + 1) 3 (.bool x.rf) (by omega) (hone.out _ (B + 1) 2 (.bool x.cf) (by omega) (hone.out _ (B + 1) 1 (.int .i64 m2) (by omega) (hone.out _ (B + 1) 0 (.int .i64 m1) (by omega) (HXS.out.trans HX3.out)))))
         refine bodyPost_ret (v := .tuple #[.agg #[.int .i64 m1, .int .i64 m2, .bool x.cf, .bool x.rf], .bool true]) ?_ rfl ?_
         · rw [results_cell_tmp rfl]
           show ((asAddr (.pointer (some ⟨B + 1, 0, none⟩))).run _ _).andThen _ = _
           simp only [asAddr, Sem.run_pure, Result.andThen_ok, run_loadVar_row _ _ _ 46 #[.int .i64 m1, .int .i64 m2, .bool x.cf, .bool x.rf] _ _ hrowE Tryz.underlying46 rfl (by kernel_rfl)]
           rfl
         · exact ⟨rfl, hxE⟩
     · go_simp
       refine hK.out _ _ hHeld (fun hHe => ?_)
       clear hK K
       try simp only [Act.put, nm]
       refine rdH 6 (fun K hK => ?_)
       go_simp
       refine (HM1.out _).mono ?_
       rintro e w' ⟨rfl, rfl⟩
       refine hK.out _ _ hHeld (fun hHe => ?_)
       clear hK K
       try simp only [Act.put, nm]
       refine rdH 13 (fun K hK => ?_)
       go_simp
       refine (HM2.out _).mono ?_
       rintro e w' ⟨rfl, rfl⟩
       refine hK.out _ _ hHeld (fun hHe => ?_)
       clear hK K
       try simp only [Act.put, nm]
       refine tkH 14 ?_ ?_ ?_
       rotate_left
       · intro V hSw; obtain ⟨k2, k3⟩ := hSw; go_simp; first | done | with_reducible rfl
       try simp only [Act.put, nm]
       refine tkH 15 ?_ ?_ ?_
       rotate_left
       · intro V hSw; obtain ⟨k2, k3⟩ := hSw; go_simp; first | done | with_reducible rfl
       try simp only [Act.put, nm]
       refine rdH 16 (fun K hK => ?_)
       go_simp
       refine hK.out _ _ ?_ (fun hHe => ?_)
       · exact ⟨(World.cell?_setCell_other _ _ _ _ (by simp)).trans ((World.cell?_setCell_other _ _ _ _ (by simp)).trans z2), (World.cell?_setCell_other _ _ _ _ (by simp)).trans ((World.cell?_setCell_other _ _ _ _ (by simp)).trans z3)⟩
       clear hK K
       refine wpAnyH_done (by kernel_rfl) ?_ _
       obtain ⟨wS, hwS⟩ : ∃ wS, ((w2.setCell ⟨B, 0, none⟩ (.int .i64 m1)).setCell ⟨B, 1, none⟩ (.int .i64 m2)).drew = wS := ⟨_, rfl⟩
       have HRS : Hid (wS.heap[B]? = some (.cells #[.int .i64 m1, .int .i64 m2, .bool x.cf, .bool x.rf] 46 (0, 0))) := (by unfold Hid; rw [← hwS]; exact setCell_row (setCell_row HRB.out 0 _) 1 _)
       have HRE : Hid (wS.heap[B + 1]? = some (.cells #[.int .i64 0, .int .i64 0, .bool false, .bool false] 46 (0, 0))) := (by unfold Hid; rw [← hwS]; exact (Below.heap_setCell _ _ _ _ (by simp)).trans ((Below.heap_setCell _ _ _ _ (by simp)).trans (rowX HX2.out HR1.out)))
       have HXS : Hid (Xt w wS) := (by unfold Hid; rw [← hwS]; exact (hone.out _ _ _ _ (by omega) (hone.out _ _ _ _ (by omega) (HX1.out.trans HX2.out))).drew)
       rw [hwS]
       clear hwS z0 z1 z2 z3 f0 f1
       obtain ⟨x0, x1, x2, x3, h0, h1, _, _⟩ := cells4R HRS.out
       have HV2 := Lib.hid (valid_any m1 m2 wS)
       rw [HVB.out] at HV2
       cases vb
       · try simp only [Bool.false_eq_true, if_false]
         go_wp2_with (first
          | (go_at_call 63; refine (HV2.out).mono ?_; rintro e w3 ⟨rfl, hg3⟩; have HX3 : Hid (Xt wS w3) := (by unfold Hid; rw [hg3]; exact (Xt.refl _).alloc _); obtain ⟨x0, x1, x2, x3, h0, h1, _, _⟩ := cells4R (rowX HX3.out HRS.out); obtain ⟨y0, y1, y2, y3, g0, g1, g2, g3⟩ := cells4R (rowX HX3.out HRE.out); clear hg3))
         (try simp only [Exit.inBlock, Exit.then])
         have hrowE : ((((w3.setCell ⟨B + 1, 0, none⟩ (.int .i64 0)).setCell ⟨B + 1, 1, none⟩ (.int .i64 0)).setCell ⟨B + 1, 2, none⟩ (.bool false)).setCell ⟨B + 1, 3, none⟩ (.bool false)).heap[B + 1]? = some (.cells #[.int .i64 0, .int .i64 0, .bool false, .bool false] 46 (0, 0)) := (setCell_row (setCell_row (setCell_row (setCell_row (rowX HX3.out HRE.out) 0 (.int .i64 0)) 1 (.int .i64 0)) 2 (.bool false)) 3 (.bool false))
         have hxE : Xt w ((((w3.setCell ⟨B + 1, 0, none⟩ (.int .i64 0)).setCell ⟨B + 1, 1, none⟩ (.int .i64 0)).setCell ⟨B + 1, 2, none⟩ (.bool false)).setCell ⟨B + 1, 3, none⟩ (.bool false)) := (hone.out _ (B + 1) 3 (.bool false) (by omega) (hone.out _ (B + 1) 2 (.bool false) (by omega) (hone.out _ (B + 1) 1 (.int .i64 0) (by omega) (hone.out _ (B + 1) 0 (.int .i64 0) (by omega) (HXS.out.trans HX3.out)))))
         refine bodyPost_ret (v := .tuple #[.agg #[.int .i64 0, .int .i64 0, .bool false, .bool false], .bool false]) ?_ rfl ?_
         · rw [results_cell_tmp rfl]
           show ((asAddr (.pointer (some ⟨B + 1, 0, none⟩))).run _ _).andThen _ = _
           simp only [asAddr, Sem.run_pure, Result.andThen_ok, run_loadVar_row _ _ _ 46 #[.int .i64 0, .int .i64 0, .bool false, .bool false] _ _ hrowE Tryz.underlying46 rfl (by kernel_rfl)]
           rfl
         · exact ⟨rfl, hxE⟩
       · try simp only [if_true]
         go_wp2_with (first
          | (go_at_call 63; refine (HV2.out).mono ?_; rintro e w3 ⟨rfl, hg3⟩; have HX3 : Hid (Xt wS w3) := (by unfold Hid; rw [hg3]; exact (Xt.refl _).alloc _); obtain ⟨x0, x1, x2, x3, h0, h1, _, _⟩ := cells4R (rowX HX3.out HRS.out); obtain ⟨y0, y1, y2, y3, g0, g1, g2, g3⟩ := cells4R (rowX HX3.out HRE.out); clear hg3))
         (try simp only [Exit.inBlock, Exit.then])
         have hrowE : ((((w3.setCell ⟨B + 1, 0, none⟩ (.int .i64 m1)).setCell ⟨B + 1, 1, none⟩ (.int .i64 m2)).setCell ⟨B + 1, 2, none⟩ (.bool x.cf)).setCell ⟨B + 1, 3, none⟩ (.bool x.rf)).heap[B + 1]? = some (.cells #[.int .i64 m1, .int .i64 m2, .bool x.cf, .bool x.rf] 46 (0, 0)) := (setCell_row (setCell_row (setCell_row (setCell_row (rowX HX3.out HRE.out) 0 (.int .i64 m1)) 1 (.int .i64 m2)) 2 (.bool x.cf)) 3 (.bool x.rf))
         have hxE : Xt w ((((w3.setCell ⟨B + 1, 0, none⟩ (.int .i64 m1)).setCell ⟨B + 1, 1, none⟩ (.int .i64 m2)).setCell ⟨B + 1, 2, none⟩ (.bool x.cf)).setCell ⟨B + 1, 3, none⟩ (.bool x.rf)) := (hone.out _ (B + 1) 3 (.bool x.rf) (by omega) (hone.out _ (B + 1) 2 (.bool x.cf) (by omega) (hone.out _ (B + 1) 1 (.int .i64 m2) (by omega) (hone.out _ (B + 1) 0 (.int .i64 m1) (by omega) (HXS.out.trans HX3.out)))))
         refine bodyPost_ret (v := .tuple #[.agg #[.int .i64 m1, .int .i64 m2, .bool x.cf, .bool x.rf], .bool true]) ?_ rfl ?_
         · rw [results_cell_tmp rfl]
           show ((asAddr (.pointer (some ⟨B + 1, 0, none⟩))).run _ _).andThen _ = _
           simp only [asAddr, Sem.run_pure, Result.andThen_ok, run_loadVar_row _ _ _ 46 #[.int .i64 m1, .int .i64 m2, .bool x.cf, .bool x.rf] _ _ hrowE Tryz.underlying46 rfl (by kernel_rfl)]
           rfl
         · exact ⟨rfl, hxE⟩
   · go_simp
     refine hK.out _ _ hHeld (fun hHe => ?_)
     clear hK K
     try simp only [Act.put, nm]
     refine rdH 2 (fun K hK => ?_)
     go_simp
     refine hK.out _ _ hHeld (fun hHe => ?_)
     clear hK K
     try simp only [Act.put, nm]
     refine rdH 6 (fun K hK => ?_)
     go_simp
     refine (HM1.out _).mono ?_
     rintro e w' ⟨rfl, rfl⟩
     refine hK.out _ _ hHeld (fun hHe => ?_)
     clear hK K
     try simp only [Act.put, nm]
     refine rdH 13 (fun K hK => ?_)
     go_simp
     refine (HM2.out _).mono ?_
     rintro e w' ⟨rfl, rfl⟩
     refine hK.out _ _ hHeld (fun hHe => ?_)
     clear hK K
     try simp only [Act.put, nm]
     refine tkH 14 ?_ ?_ ?_
     rotate_left
     · intro V hSw; obtain ⟨k2, k3⟩ := hSw; go_simp; first | done | with_reducible rfl
     try simp only [Act.put, nm]
     refine tkH 15 ?_ ?_ ?_
     rotate_left
     · intro V hSw; obtain ⟨k2, k3⟩ := hSw; go_simp; first | done | with_reducible rfl
     try simp only [Act.put, nm]
     refine rdH 16 (fun K hK => ?_)
     go_simp
     refine hK.out _ _ ?_ (fun hHe => ?_)
     · exact ⟨(World.cell?_setCell_other _ _ _ _ (by simp)).trans ((World.cell?_setCell_other _ _ _ _ (by simp)).trans z2), (World.cell?_setCell_other _ _ _ _ (by simp)).trans ((World.cell?_setCell_other _ _ _ _ (by simp)).trans z3)⟩
     clear hK K
     refine wpAnyH_done (by kernel_rfl) ?_ _
     obtain ⟨wS, hwS⟩ : ∃ wS, ((w2.setCell ⟨B, 0, none⟩ (.int .i64 m1)).setCell ⟨B, 1, none⟩ (.int .i64 m2)).drew = wS := ⟨_, rfl⟩
     have HRS : Hid (wS.heap[B]? = some (.cells #[.int .i64 m1, .int .i64 m2, .bool x.cf, .bool x.rf] 46 (0, 0))) := (by unfold Hid; rw [← hwS]; exact setCell_row (setCell_row HRB.out 0 _) 1 _)
     have HRE : Hid (wS.heap[B + 1]? = some (.cells #[.int .i64 0, .int .i64 0, .bool false, .bool false] 46 (0, 0))) := (by unfold Hid; rw [← hwS]; exact (Below.heap_setCell _ _ _ _ (by simp)).trans ((Below.heap_setCell _ _ _ _ (by simp)).trans (rowX HX2.out HR1.out)))
     have HXS : Hid (Xt w wS) := (by unfold Hid; rw [← hwS]; exact (hone.out _ _ _ _ (by omega) (hone.out _ _ _ _ (by omega) (HX1.out.trans HX2.out))).drew)
     rw [hwS]
     clear hwS z0 z1 z2 z3 f0 f1
     obtain ⟨x0, x1, x2, x3, h0, h1, _, _⟩ := cells4R HRS.out
     have HV2 := Lib.hid (valid_any m1 m2 wS)
     rw [HVB.out] at HV2
     cases vb
     · try simp only [Bool.false_eq_true, if_false]
       go_wp2_with (first
        | (go_at_call 63; refine (HV2.out).mono ?_; rintro e w3 ⟨rfl, hg3⟩; have HX3 : Hid (Xt wS w3) := (by unfold Hid; rw [hg3]; exact (Xt.refl _).alloc _); obtain ⟨x0, x1, x2, x3, h0, h1, _, _⟩ := cells4R (rowX HX3.out HRS.out); obtain ⟨y0, y1, y2, y3, g0, g1, g2, g3⟩ := cells4R (rowX HX3.out HRE.out); clear hg3))
       (try simp only [Exit.inBlock, Exit.then])
       have hrowE : ((((w3.setCell ⟨B + 1, 0, none⟩ (.int .i64 0)).setCell ⟨B + 1, 1, none⟩ (.int .i64 0)).setCell ⟨B + 1, 2, none⟩ (.bool false)).setCell ⟨B + 1, 3, none⟩ (.bool false)).heap[B + 1]? = some (.cells #[.int .i64 0, .int .i64 0, .bool false, .bool false] 46 (0, 0)) := (setCell_row (setCell_row (setCell_row (setCell_row (rowX HX3.out HRE.out) 0 (.int .i64 0)) 1 (.int .i64 0)) 2 (.bool false)) 3 (.bool false))
       have hxE : Xt w ((((w3.setCell ⟨B + 1, 0, none⟩ (.int .i64 0)).setCell ⟨B + 1, 1, none⟩ (.int .i64 0)).setCell ⟨B + 1, 2, none⟩ (.bool false)).setCell ⟨B + 1, 3, none⟩ (.bool false)) := (hone.out _ (B + 1) 3 (.bool false) (by omega) (hone.out _ (B + 1) 2 (.bool false) (by omega) (hone.out _ (B + 1) 1 (.int .i64 0) (by omega) (hone.out _ (B + 1) 0 (.int .i64 0) (by omega) (HXS.out.trans HX3.out)))))
       refine bodyPost_ret (v := .tuple #[.agg #[.int .i64 0, .int .i64 0, .bool false, .bool false], .bool false]) ?_ rfl ?_
       · rw [results_cell_tmp rfl]
         show ((asAddr (.pointer (some ⟨B + 1, 0, none⟩))).run _ _).andThen _ = _
         simp only [asAddr, Sem.run_pure, Result.andThen_ok, run_loadVar_row _ _ _ 46 #[.int .i64 0, .int .i64 0, .bool false, .bool false] _ _ hrowE Tryz.underlying46 rfl (by kernel_rfl)]
         rfl
       · exact ⟨rfl, hxE⟩
     · try simp only [if_true]
       go_wp2_with (first
        | (go_at_call 63; refine (HV2.out).mono ?_; rintro e w3 ⟨rfl, hg3⟩; have HX3 : Hid (Xt wS w3) := (by unfold Hid; rw [hg3]; exact (Xt.refl _).alloc _); obtain ⟨x0, x1, x2, x3, h0, h1, _, _⟩ := cells4R (rowX HX3.out HRS.out); obtain ⟨y0, y1, y2, y3, g0, g1, g2, g3⟩ := cells4R (rowX HX3.out HRE.out); clear hg3))
       (try simp only [Exit.inBlock, Exit.then])
       have hrowE : ((((w3.setCell ⟨B + 1, 0, none⟩ (.int .i64 m1)).setCell ⟨B + 1, 1, none⟩ (.int .i64 m2)).setCell ⟨B + 1, 2, none⟩ (.bool x.cf)).setCell ⟨B + 1, 3, none⟩ (.bool x.rf)).heap[B + 1]? = some (.cells #[.int .i64 m1, .int .i64 m2, .bool x.cf, .bool x.rf] 46 (0, 0)) := (setCell_row (setCell_row (setCell_row (setCell_row (rowX HX3.out HRE.out) 0 (.int .i64 m1)) 1 (.int .i64 m2)) 2 (.bool x.cf)) 3 (.bool x.rf))
       have hxE : Xt w ((((w3.setCell ⟨B + 1, 0, none⟩ (.int .i64 m1)).setCell ⟨B + 1, 1, none⟩ (.int .i64 m2)).setCell ⟨B + 1, 2, none⟩ (.bool x.cf)).setCell ⟨B + 1, 3, none⟩ (.bool x.rf)) := (hone.out _ (B + 1) 3 (.bool x.rf) (by omega) (hone.out _ (B + 1) 2 (.bool x.cf) (by omega) (hone.out _ (B + 1) 1 (.int .i64 m2) (by omega) (hone.out _ (B + 1) 0 (.int .i64 m1) (by omega) (HXS.out.trans HX3.out)))))
       refine bodyPost_ret (v := .tuple #[.agg #[.int .i64 m1, .int .i64 m2, .bool x.cf, .bool x.rf], .bool true]) ?_ rfl ?_
       · rw [results_cell_tmp rfl]
         show ((asAddr (.pointer (some ⟨B + 1, 0, none⟩))).run _ _).andThen _ = _
         simp only [asAddr, Sem.run_pure, Result.andThen_ok, run_loadVar_row _ _ _ 46 #[.int .i64 m1, .int .i64 m2, .bool x.cf, .bool x.rf] _ _ hrowE Tryz.underlying46 rfl (by kernel_rfl)]
         rfl
       · exact ⟨rfl, hxE⟩
end Go.Proofs.YtdoeejhdenifpaaGreatDoor
/- write: a formula whose references are shifted, in its own memory (made by mkt2.py). -/
namespace Go.Proofs.YtdoeejhdenifpaaGreatDoor
open Go.RowKit Go.Sort
theorem swap_rows {w : World} {P Q : Nat} {cp cq : Array Value} {T U : TypeId} (hP : w.heap[P]? = some (.cells cp T (0, 0))) (hQ : w.heap[Q]? = some (.cells cq U (0, 0))) (hne : P ≠ Q) (o : Nat) (u v : Value) :
    ((w.setCell ⟨P, o, none⟩ u).setCell ⟨Q, o, none⟩ v).heap[P]? = some (.cells (cp.setIfInBounds o u) T (0, 0)) ∧ ((w.setCell ⟨P, o, none⟩ u).setCell ⟨Q, o, none⟩ v).heap[Q]? = some (.cells (cq.setIfInBounds o v) U (0, 0)) :=
 ⟨(Below.heap_setCell _ _ _ _ (by simpa using hne)).trans (setCell_row hP o u), setCell_row ((Below.heap_setCell _ _ _ _ (by simpa using fun e => hne e.symm)).trans hQ) o v⟩
theorem cells_out8 {w : World} {b B : Nat} {v0 v1 v2 v3 : Value} {T : TypeId} (hne : b ≠ B) (h : w.heap[b]? = some (.cells #[v0, v1, v2, v3] T (0, 0))) (o : Nat) (u : Value) : (w.setCell ⟨B, o, none⟩ u).heap[b]? = some (.cells #[v0, v1, v2, v3] T (0, 0)) :=
 (Below.heap_setCell _ _ _ _ (by simpa using hne)).trans h
theorem hdr (V : World) : V.drew.heap = V.heap := rfl
def ShiftIs (cc rr : Int) (n : Nat) : Prop :=
 ∀ (S : Nat → Prop) (t : NodeT) (a : Option Addr) (cap : Nat) (w : World), (∀ b, S b → b < w.heap.size) → SepIn S w n (.slice a t.args.length cap) t.args →
 Calls Tryz.prog 145 #[nodeV t a t.args.length cap, .int .i64 cc, .int .i64 rr] w fun e w' =>
  ∃ a2 c2, e = .returned (nodeV (upT (shH cc rr) t) a2 (upT (shH cc rr) t).args.length c2) ∧ SepIn S w' n (.slice a2 (upT (shH cc rr) t).args.length c2) (upT (shH cc rr) t).args ∧ Wr S w w'
def Hi (B : Nat) : Nat → Prop := fun b => B ≤ b
theorem fin_hi {S : Nat → Prop} {w wr W : World} {n B : Nat} {av : Value} {L : List NodeT} (hA : SepIn S wr n av L) (hw : Wr S w wr) (hB : w.heap.size = B) (hn : ∀ b, S b → b < B) (k : Wr (Hi B) wr W) : SepIn S W n av L ∧ Wr S w W :=
 ⟨hA.keep (fun b hb hlt => k.block b hlt (fun e => by have := hn b hb; have : B ≤ b := e; omega)), hw.side k (fun c hc => by have : B ≤ c := hc; omega)⟩
theorem nodeRefs {w : World} {b : Nat} {u0 u1 u2 u3 u4 u5 u6 u7 u8 u9 u10 u11 u12 u13 u14 : Value} {T : TypeId} (h : w.heap[b]? = some (.cells #[u0, u1, u2, u3, u4, u5, u6, u7, u8, u9, u10, u11, u12, u13, u14] T (0, 0))) : (w.cell? ⟨b, 6, none⟩ = some u6 ∧ w.cell? ⟨b, 7, none⟩ = some u7 ∧ w.cell? ⟨b, 8, none⟩ = some u8 ∧ w.cell? ⟨b, 9, none⟩ = some u9 ∧ w.cell? ⟨b, 10, none⟩ = some u10 ∧ w.cell? ⟨b, 11, none⟩ = some u11 ∧ w.cell? ⟨b, 12, none⟩ = some u12 ∧ w.cell? ⟨b, 13, none⟩ = some u13) ∧
    (w.frozen? ⟨b, 6, none⟩ = false ∧ w.frozen? ⟨b, 7, none⟩ = false ∧ w.frozen? ⟨b, 8, none⟩ = false ∧ w.frozen? ⟨b, 9, none⟩ = false ∧ w.frozen? ⟨b, 10, none⟩ = false ∧ w.frozen? ⟨b, 11, none⟩ = false ∧ w.frozen? ⟨b, 12, none⟩ = false ∧ w.frozen? ⟨b, 13, none⟩ = false) := by
 refine ⟨⟨?_, ?_, ?_, ?_, ?_, ?_, ?_, ?_⟩, ?_, ?_, ?_, ?_, ?_, ?_, ?_, ?_⟩ <;> simp [World.cell?, World.frozen?, h]
set_option maxRecDepth 100000 in
set_option maxHeartbeats 2000000 in
theorem wshifted_any (cc rr : Int) : ∀ n, ShiftIs cc rr n := by
 intro n
 induction n using Nat.strongRecOn with
 | ind n ih =>
  intro S t a cap w hS hA
  have IH := Lib.hid ih
  have HS := Lib.hid hS
  obtain ⟨_, cap', he, hlc, hcm⟩ := hA.own.shape
  cases he
  obtain ⟨k, o, x, s, bb, f, ⟨⟨r1, r2⟩, rc, rf⟩, ⟨⟨q1, q2⟩, qc, qf⟩, l⟩ := t
  simp only [NodeT.args] at hA hlc
  obtain ⟨B, hB⟩ : ∃ B, w.heap.size = B := ⟨_, rfl⟩
  obtain ⟨w0, hw0⟩ : ∃ w0, w.alloc (.cells #[.int .i64 k, .int .i64 o, .float .f64 x, .string s, .bool bb, .int .i64 f, .int .i64 r1, .int .i64 r2, .bool rc, .bool rf, .int .i64 q1, .int .i64 q2, .bool qc, .bool qf, .slice a l.length cap] 49) = w0 := ⟨_, rfl⟩
  have hs0 : w0.heap.size = B + 1 := by rw [← hw0, ← hB]; simp
  obtain ⟨w1, hw1⟩ : ∃ w1, w0.alloc (.cells #[.int .i64 0, .int .i64 0, .float .f64 0, .string ⟨#[]⟩, .bool false, .int .i64 0, .int .i64 0, .int .i64 0, .bool false, .bool false, .int .i64 0, .int .i64 0, .bool false, .bool false, .slice none 0 0] 49) = w1 := ⟨_, rfl⟩
  have hs1 : w1.heap.size = B + 2 := by rw [← hw1]; simp [hs0]
  have hx1 : Xt w w1 := by rw [← hw1, ← hw0]; exact ((Xt.refl w).alloc _).alloc _
  have HRB : Hid (w1.heap[B]? = some (.cells #[.int .i64 k, .int .i64 o, .float .f64 x, .string s, .bool bb, .int .i64 f, .int .i64 r1, .int .i64 r2, .bool rc, .bool rf, .int .i64 q1, .int .i64 q2, .bool qc, .bool qf, .slice a l.length cap] 49 (0, 0))) := by
   unfold Hid; rw [← hw1]; exact (Below.heap_alloc w0 _ _ (by omega)).trans (by rw [← hw0, ← hB]; exact (MapKept.heap_alloc w _).1)
  have HRR : Hid (w1.heap[B + 1]? = some (.cells #[.int .i64 0, .int .i64 0, .float .f64 0, .string ⟨#[]⟩, .bool false, .int .i64 0, .int .i64 0, .int .i64 0, .bool false, .bool false, .int .i64 0, .int .i64 0, .bool false, .bool false, .slice none 0 0] 49 (0, 0))) := by
   unfold Hid; rw [← hw1, ← hs0]; exact (MapKept.heap_alloc w0 _).1
  have c14 : w1.cell? ⟨B, 14, none⟩ = some (.slice a l.length cap) := by have := HRB.out; simp [World.cell?, this]
  have HA1 : Hid (SepIn S w1 n (.slice a l.length cap) l) := Lib.hid (hA.keep (fun b hb hlt => hx1.block b hlt))
  have HW1 : Hid (Wr S w w1) := Lib.hid (Wr.of_xt hx1)
  have hnB : Hid (¬ S B ∧ ¬ S (B + 1)) := ⟨fun e => by have := hS _ e; omega, fun e => by have := hS _ e; omega⟩
  have HBw : Hid (w.heap.size = B) := hB
  clear hx1 hA hS ih
  change Calls Tryz.prog 145 #[.agg #[.int .i64 k, .int .i64 o, .float .f64 x, .string s, .bool bb, .int .i64 f, .int .i64 r1, .int .i64 r2, .bool rc, .bool rf, .int .i64 q1, .int .i64 q2, .bool qc, .bool qf, .slice a l.length cap], .int .i64 cc, .int .i64 rr] w _
  go_enter Tryz.func145, Tryz.ntmps145
  go_wp2_with fail
  clear hw0 hw1
  go_loopw [15] (fun s15 wr => ∃ i : Nat, i ≤ l.length ∧ s15 = .int .i64 i ∧ Hid (Wr S w1 wr) ∧ Hid (SepIn S wr n (.slice a l.length cap) ((l.take i).map (upT (shH cc rr)) ++ l.drop i))) (fun s15 _ => l.length - (intOf s15).toNat)
  case atStart => exact ⟨0, Nat.zero_le _, rfl, Wr.refl _ _, by simpa using HA1⟩
  case round =>
   clear HA1
   obtain ⟨i, hi, rfl, HW, HA⟩ := hrel
   have hszr := HW.out.size
   have hrow := (HW.out.block B (by omega) hnB.out.1).trans HRB.out
   have d14 : wr.cell? ⟨B, 14, none⟩ = some (.slice a l.length cap) := by simp [World.cell?, hrow]
   by_cases hlt : i < l.length
   · obtain ⟨u, hu⟩ : ∃ u, l[i]? = some u := ⟨l[i], by simp [hlt]⟩
     obtain ⟨hst1, hst2⟩ := turned_step (upT (shH cc rr)) hu
     obtain ⟨n', b, a', c', T, rfl, rfl, hb, hblt, hTS, hNu, hSu, hthere, hafter⟩ := HA.out.elem hst1
     have hki : (i : Int) < (l.length : Int) := by omega
     have HC := Lib.hid (IH.out n' (by omega) T u a' c' wr.drew (fun c hc => Nat.lt_of_lt_of_le (Nat.lt_of_lt_of_le (HS.out c (hTS c hc).1) (by omega)) hszr) (SepIn.keep (w := wr) (w' := wr.drew) (fun _ _ _ => rfl) hSu))
     have HHold : Hid (∀ W, Wr S wr W → W.cell? ⟨B, 14, none⟩ = some (.slice (some ⟨b, 0, none⟩) l.length cap)) := Lib.hid fun W hW =>
      (World.cell?_of_block (w := wr) (a := ⟨B, 14, none⟩) (hW.block B (by omega) hnB.out.1)).trans d14
     have HST2 := Lib.hid hst2
     have HAF := Lib.hid hafter
     have HTH := Lib.hid hthere
     clear hst1 hst2 hafter hthere hSu hu d14 hrow
     obtain ⟨e0, e1, e2, e3, e4, e5, e6, e7, e8, e9, e10, e11, e12, e13, e14⟩ := hNu
     go_wp2_with fail
     refine wp_region_held_drew (S := fun W => W.cell? ⟨B, 14, none⟩ = some (.slice (some ⟨b, 0, none⟩) l.length cap)) (by kernel_rfl) (HHold.out _ (Wr.of_xt (Xt.refl wr).drew)) (fun hHeld => ?_)
     refine tkH 0 ?_ ?_ ?_
     rotate_left
     · intro W hSw; (try dsimp only at hSw); go_simp; first | done | with_reducible rfl
     try simp only [Act.put, nm]
     refine tkH 1 ?_ ?_ ?_
     rotate_left
     · intro W hSw; (try dsimp only at hSw); go_simp; first | done | with_reducible rfl
     try simp only [Act.put, nm]
     refine tkH 2 ?_ ?_ ?_
     rotate_left
     · intro W hSw; (try dsimp only at hSw); go_simp; first | done | with_reducible rfl
     try simp only [Act.put, nm]
     refine tkH 3 ?_ ?_ ?_
     rotate_left
     · intro W hSw; (try dsimp only at hSw); go_simp; first | done | with_reducible rfl
     try simp only [Act.put, nm]
     refine tkH 4 ?_ ?_ ?_
     rotate_left
     · intro W hSw; (try dsimp only at hSw); go_simp; first | done | with_reducible rfl
     try simp only [Act.put, nm]
     refine tkH 5 ?_ ?_ ?_
     rotate_left
     · intro W hSw; (try dsimp only at hSw); go_simp; first | done | with_reducible rfl
     try simp only [Act.put, nm]
     refine tkH 6 ?_ ?_ ?_
     rotate_left
     · intro W hSw; (try dsimp only at hSw); go_simp; first | done | with_reducible rfl
     try simp only [Act.put, nm]
     refine tkH 8 ?_ ?_ ?_
     rotate_left
     · intro W hSw; (try dsimp only at hSw); go_simp; first | done | with_reducible rfl
     try simp only [Act.put, nm]
     refine tkH 9 ?_ ?_ ?_
     rotate_left
     · intro W hSw; (try dsimp only at hSw); go_simp; first | done | with_reducible rfl
     try simp only [Act.put, nm]
     refine rdH 7 (fun K hK => ?_)
     go_simp
     refine hK.out _ _ hHeld (fun hHeld1 => ?_)
     clear hK K
     try simp only [Act.put, nm]
     refine rdH 10 (fun K hK => ?_)
     go_simp
     refine (HC.out).mono ?_
     rintro e w6 ⟨a2, c2, rfl, hS6, hW6⟩
     have hW6r : Wr T wr w6 := (Wr.of_xt (Xt.refl wr).drew).trans hW6
     refine hK.out _ _ (HHold.out _ (hW6r.weak fun c hc => (hTS c hc).1)) (fun hHeld2 => ?_)
     clear hK K
     try simp only [Act.put, nm]
     refine tkH 11 ?_ ?_ ?_
     rotate_left
     · intro W hSw; (try dsimp only at hSw); go_simp; first | done | with_reducible rfl
     try simp only [Act.put, nm]
     refine rdH 12 (fun K hK => ?_)
     rw [if_pos (by rfl)]
     obtain ⟨hS7, hW7⟩ := HAF.out w6 (upT (shH cc rr) u) (.slice a2 (upT (shH cc rr) u).args.length c2) hW6r hS6
     refine wp_store_mid 49 _ _ rfl b (i * 15) (nodeC (upT (shH cc rr) u) (.slice a2 (upT (shH cc rr) u).args.length c2)).toArray rfl rfl (HTH.out _ hW6r) (by kernel_rfl) (all_oneCell_toArray (nodeC_one _ _ rfl)) ?_
     refine hK.out _ _ (HHold.out _ hW7) (fun hHeld3 => ?_)
     clear hK K
     refine wpAnyH_done (by kernel_rfl) ?_ _
     go_wp2_with fail
     go_roundw
     case rel => exact ⟨i + 1, by omega, by go_num, HW.out.trans hW7, by rw [← HST2.out]; exact hS7⟩
     case measure => simp [intOf]; omega
   · have he : i = l.length := by omega
     subst he
     have HA' : Hid (SepIn S wr n (.slice a l.length cap) (l.map (upT (shH cc rr)))) := by unfold Hid; have := HA.out; simpa using this
     have hrr := (HW.out.block (B + 1) (by omega) hnB.out.2).trans HRR.out
     have HWw := Lib.hid (HW1.out.trans HW.out)
     have HRBr := Lib.hid hrow
     have HRRr := Lib.hid hrr
     have d0 : wr.cell? ⟨B, 0, none⟩ = some (.int .i64 k) := by simp [World.cell?, hrow]
     clear HA hi hlt d14 hrow hrr
     have hsw : B + 2 ≤ wr.heap.size := by omega
     by_cases h56 : k = 5 ∨ k = 6
     · obtain ⟨hEA, hEB⟩ : (∀ W, Xt wr W → W.heap[B]? = some (.cells #[.int .i64 k, .int .i64 o, .float .f64 x, .string s, .bool bb, .int .i64 f, .int .i64 r1, .int .i64 r2, .bool rc, .bool rf, .int .i64 q1, .int .i64 q2, .bool qc, .bool qf, .slice a l.length cap] 49 (0, 0))) ∧ (∀ W, Xt wr W → W.heap[B + 1]? = some (.cells #[.int .i64 0, .int .i64 0, .float .f64 0, .string ⟨#[]⟩, .bool false, .int .i64 0, .int .i64 0, .int .i64 0, .bool false, .bool false, .int .i64 0, .int .i64 0, .bool false, .bool false, .slice none 0 0] 49 (0, 0))) := ⟨fun W hx => rowX hx HRBr.out, fun W hx => rowX hx HRRr.out⟩
       have HEA := Lib.hid hEA
       have HEB := Lib.hid hEB
       clear hEA hEB
       have HC1 := Lib.hid (fun V => ashift_any ⟨(r1, r2), rc, rf⟩ cc rr V)
       obtain ⟨zz, hzz⟩ : ∃ z, shR cc rr ⟨(r1, r2), rc, rf⟩ = z := ⟨_, rfl⟩
       obtain ⟨zo, hzo⟩ : ∃ z, shB cc rr ⟨(r1, r2), rc, rf⟩ = z := ⟨_, rfl⟩
       rw [hzz, hzo] at HC1
       obtain ⟨⟨z1, z2⟩, zc, zf⟩ := zz
       have HZZ := Lib.hid hzz
       have HZO := Lib.hid hzo
       clear hzz hzo
       have hm1 : True := trivial
       have hk56 : (k == 5) = true ∨ (k == 6) = true := by rcases h56 with e | e <;> simp [e]
       by_cases h5 : k = 5
       · have h5a : (k != 5) = false := by simp [h5]
         have h5c : (k == 5) = true := by simp [h5]
         have HK5 := Lib.hid h5
         clear h56 hk56 h5
         have d0 : wr.cell? ⟨B, 0, none⟩ = some (.int .i64 k) := by have := HEA.out _ (Xt.refl _); simp [World.cell?, this]
         go_upto_region 9 with fail
         obtain ⟨w2, hw2⟩ : ∃ w2, wr.alloc (.cells #[.int .i64 4, .int .i64 0, .float .f64 0, .string ⟨#[]⟩, .bool false, .int .i64 4, .int .i64 0, .int .i64 0, .bool false, .bool false, .int .i64 0, .int .i64 0, .bool false, .bool false, .slice none 0 0] 49) = w2 := ⟨_, rfl⟩
         rw [hw2]
         have HX2 : Hid (Xt wr w2) := by unfold Hid; rw [← hw2]; exact (Xt.refl _).alloc _
         have hEL : w2.heap[wr.heap.size]? = some (.cells (nodeC lostT (.slice none 0 0)).toArray 49 (0, 0)) := by rw [← hw2]; exact (MapKept.heap_alloc wr _).1
         have HEL : Hid (∀ W, Xt w2 W → W.heap[wr.heap.size]? = some (.cells (nodeC lostT (.slice none 0 0)).toArray 49 (0, 0))) := Lib.hid fun W hx => rowX hx hEL
         have d0 : w2.cell? ⟨B, 0, none⟩ = some (.int .i64 k) := by have := HEA.out _ HX2.out; simp [World.cell?, this]
         obtain ⟨⟨d6, d7, d8, d9, d10, d11, d12, d13⟩, g6, g7, g8, g9, g10, g11, g12, g13⟩ := nodeRefs (HEA.out _ HX2.out)
         clear hw2 hEL
         cases zo
         · go_wp2_with (first
            | (go_at_call 164; have hm0 := hm1; clear hm1 hm0; refine (HC1.out _).mono ?_; rintro e w3 ⟨rfl, hx3⟩; obtain ⟨w4, hw4⟩ : ∃ w4, w3.alloc (.cells #[.int .i64 z1, .int .i64 z2, .bool zc, .bool zf] 46) = w4 := ⟨_, rfl⟩; have HX34 : Hid (Xt w3 w4) := (by unfold Hid; rw [← hw4]; exact (Xt.refl _).alloc _); have HX24 : Hid (Xt w2 w4) := hx3.trans HX34.out; have HX4 : Hid (Xt wr w4) := HX2.out.trans HX24.out; have HRP : Hid (w4.heap[w3.heap.size]? = some (.cells #[.int .i64 z1, .int .i64 z2, .bool zc, .bool zf] 46 (0, 0))) := (by unfold Hid; rw [← hw4]; exact (MapKept.heap_alloc w3 _).1); have hsz3 : w2.heap.size ≤ w3.heap.size := hx3.size; obtain ⟨p0, p1, p2, p3, u0, u1, u2, u3⟩ := cells4R HRP.out; have d0 : w4.cell? ⟨B, 0, none⟩ = some (.int .i64 k) := (by have := HEA.out _ HX4.out; simp [World.cell?, this]); obtain ⟨⟨d6, d7, d8, d9, d10, d11, d12, d13⟩, g6, g7, g8, g9, g10, g11, g12, g13⟩ := nodeRefs (HEA.out _ HX4.out); clear hx3)
            | (refine wpList_load_row (P := Tryz.prog) rfl 49 _ rfl wr.heap.size rfl 49 _ (0, 0) _ (HEL.out _ HX24.out) Tryz.underlying49 rfl (by kernel_rfl) ?_)
            | (refine wpList_store_row (P := Tryz.prog) rfl 49 _ _ rfl (B + 1) _ rfl rfl 49 _ (HEB.out _ HX4.out) (by kernel_rfl) (by kernel_rfl) (all_oneCell_toArray (nodeC_one lostT (.slice none 0 0) rfl)) ?_))
           (try simp only [Exit.inBlock, Exit.then])
           refine bodyPost_ret (v := .agg (nodeC lostT (.slice none 0 0)).toArray) (results_cell_row rfl _ _ (B + 1) 49 _ (0, 0) _ rfl (setRow_heap _ _ _ _ _ _ (HEB.out _ HX4.out)) Tryz.underlying49 rfl (by kernel_rfl)) rfl ?_
           have hTT : upT (shH cc rr) (.mk k o x s bb f ⟨(r1, r2), rc, rf⟩ ⟨(q1, q2), qc, qf⟩ l) = lostT := by
            rw [upT, shH, if_pos HK5.out, HZO.out]; rfl
           rw [hTT]
           exact ⟨none, 0, rfl, SepIn.nil n, HWw.out.side ((Wr.of_xt HX4.out).trans (Wr.row _ (show B ≤ B + 1 by omega))) (S2 := Hi B) (fun c hc => by have := HBw.out; have : B ≤ c := hc; omega)⟩
         · go_upto_region 14 with (first
            | (go_at_call 164; have hm0 := hm1; clear hm1 hm0; refine (HC1.out _).mono ?_; rintro e w3 ⟨rfl, hx3⟩; obtain ⟨w4, hw4⟩ : ∃ w4, w3.alloc (.cells #[.int .i64 z1, .int .i64 z2, .bool zc, .bool zf] 46) = w4 := ⟨_, rfl⟩; have HX34 : Hid (Xt w3 w4) := (by unfold Hid; rw [← hw4]; exact (Xt.refl _).alloc _); have HX24 : Hid (Xt w2 w4) := hx3.trans HX34.out; have HX4 : Hid (Xt wr w4) := HX2.out.trans HX24.out; have HRP : Hid (w4.heap[w3.heap.size]? = some (.cells #[.int .i64 z1, .int .i64 z2, .bool zc, .bool zf] 46 (0, 0))) := (by unfold Hid; rw [← hw4]; exact (MapKept.heap_alloc w3 _).1); have hsz3 : w2.heap.size ≤ w3.heap.size := hx3.size; obtain ⟨p0, p1, p2, p3, u0, u1, u2, u3⟩ := cells4R HRP.out; have d0 : w4.cell? ⟨B, 0, none⟩ = some (.int .i64 k) := (by have := HEA.out _ HX4.out; simp [World.cell?, this]); obtain ⟨⟨d6, d7, d8, d9, d10, d11, d12, d13⟩, g6, g7, g8, g9, g10, g11, g12, g13⟩ := nodeRefs (HEA.out _ HX4.out); clear hx3))
           obtain ⟨w5, hw5⟩ : ∃ w5, ((((w4.setCell ⟨B, 6, none⟩ (.int .i64 z1)).setCell ⟨B, 7, none⟩ (.int .i64 z2)).setCell ⟨B, 8, none⟩ (.bool zc)).setCell ⟨B, 9, none⟩ (.bool zf)) = w5 := ⟨_, rfl⟩
           have HB5 : Hid (w5.heap[B]? = some (.cells (nodeC (.mk k o x s bb f ⟨(z1, z2), zc, zf⟩ ⟨(q1, q2), qc, qf⟩ l) (.slice a l.length cap)).toArray 49 (0, 0))) := by unfold Hid; rw [← hw5]; exact (setCell_row (setCell_row (setCell_row (setCell_row (HEA.out _ HX4.out) 6 _) 7 _) 8 _) 9 _)
           have HR5 : Hid (w5.heap[B + 1]? = some (.cells #[.int .i64 0, .int .i64 0, .float .f64 0, .string ⟨#[]⟩, .bool false, .int .i64 0, .int .i64 0, .int .i64 0, .bool false, .bool false, .int .i64 0, .int .i64 0, .bool false, .bool false, .slice none 0 0] 49 (0, 0))) := by unfold Hid; rw [← hw5]; exact ((Below.heap_setCell _ _ _ _ (by simp)).trans ((Below.heap_setCell _ _ _ _ (by simp)).trans ((Below.heap_setCell _ _ _ _ (by simp)).trans ((Below.heap_setCell _ _ _ _ (by simp)).trans (HEB.out _ HX4.out)))))
           have HW5 : Hid (Wr (Hi B) wr w5) := by unfold Hid; rw [← hw5]; exact (((((Wr.of_xt HX4.out).trans (Wr.cell _ (show B ≤ B by omega))).trans (Wr.cell _ (show B ≤ B by omega))).trans (Wr.cell _ (show B ≤ B by omega))).trans (Wr.cell _ (show B ≤ B by omega)))
           rw [hw5]
           clear hw5 d0 d6 d7 d8 d9 d10 d11 d12 d13 g6 g7 g8 g9 g10 g11 g12 g13 p0 p1 p2 p3 u0 u1 u2 u3
           go_wp2_with (first
            | (refine wpList_load_row (P := Tryz.prog) rfl 49 _ rfl B rfl 49 _ (0, 0) _ HB5.out Tryz.underlying49 rfl (by kernel_rfl) ?_)
            | (refine wpList_store_row (P := Tryz.prog) rfl 49 _ _ rfl (B + 1) _ rfl rfl 49 _ HR5.out (by kernel_rfl) (by kernel_rfl) (all_oneCell_toArray (nodeC_one (.mk k o x s bb f ⟨(z1, z2), zc, zf⟩ ⟨(q1, q2), qc, qf⟩ l) (.slice a l.length cap) rfl)) ?_))
           (try simp only [Exit.inBlock, Exit.then])
           refine bodyPost_ret (v := .agg (nodeC (.mk k o x s bb f ⟨(z1, z2), zc, zf⟩ ⟨(q1, q2), qc, qf⟩ l) (.slice a l.length cap)).toArray) (results_cell_row rfl _ _ (B + 1) 49 _ (0, 0) _ rfl (setRow_heap _ _ _ _ _ _ HR5.out) Tryz.underlying49 rfl (by kernel_rfl)) rfl ?_
           have hTT : upT (shH cc rr) (.mk k o x s bb f ⟨(r1, r2), rc, rf⟩ ⟨(q1, q2), qc, qf⟩ l) = .mk k o x s bb f ⟨(z1, z2), zc, zf⟩ ⟨(q1, q2), qc, qf⟩ (l.map (upT (shH cc rr))) := by
            rw [upT, upL_map, shH, if_pos HK5.out, HZO.out, if_pos rfl, HZZ.out]
           rw [hTT]
           obtain ⟨f1, f2⟩ := fin_hi (W := w5.setRow (B + 1) (nodeC (.mk k o x s bb f ⟨(z1, z2), zc, zf⟩ ⟨(q1, q2), qc, qf⟩ l) (.slice a l.length cap)).toArray) HA'.out HWw.out HBw.out (fun b hb => by have := HS.out b hb; have := HBw.out; omega) (HW5.out.trans (Wr.row _ (show B ≤ B + 1 by omega)))
           refine ⟨a, cap, ?_, ?_, f2⟩
           · simp [nodeC, NodeT.args, NodeT.kind, NodeT.op, NodeT.x, NodeT.s, NodeT.b, NodeT.f, NodeT.ref, NodeT.to]
           · simp only [NodeT.args, List.length_map]; exact f1
       · have h6 : k = 6 := by rcases h56 with e | e; exact absurd e h5; exact e
         have h5a : (k != 5) = true := by simpa using h5
         have h5c : (k == 5) = false := by simpa using h5
         have h6a : (k != 6) = false := by simp [h6]
         have HK5 := Lib.hid h6
         clear h56 hk56 h5 h6
         have d0 : wr.cell? ⟨B, 0, none⟩ = some (.int .i64 k) := by have := HEA.out _ (Xt.refl _); simp [World.cell?, this]
         go_upto_region 9 with fail
         obtain ⟨w2, hw2⟩ : ∃ w2, wr.alloc (.cells #[.int .i64 4, .int .i64 0, .float .f64 0, .string ⟨#[]⟩, .bool false, .int .i64 4, .int .i64 0, .int .i64 0, .bool false, .bool false, .int .i64 0, .int .i64 0, .bool false, .bool false, .slice none 0 0] 49) = w2 := ⟨_, rfl⟩
         rw [hw2]
         have HX2 : Hid (Xt wr w2) := by unfold Hid; rw [← hw2]; exact (Xt.refl _).alloc _
         have hEL : w2.heap[wr.heap.size]? = some (.cells (nodeC lostT (.slice none 0 0)).toArray 49 (0, 0)) := by rw [← hw2]; exact (MapKept.heap_alloc wr _).1
         have HEL : Hid (∀ W, Xt w2 W → W.heap[wr.heap.size]? = some (.cells (nodeC lostT (.slice none 0 0)).toArray 49 (0, 0))) := Lib.hid fun W hx => rowX hx hEL
         have d0 : w2.cell? ⟨B, 0, none⟩ = some (.int .i64 k) := by have := HEA.out _ HX2.out; simp [World.cell?, this]
         obtain ⟨⟨d6, d7, d8, d9, d10, d11, d12, d13⟩, g6, g7, g8, g9, g10, g11, g12, g13⟩ := nodeRefs (HEA.out _ HX2.out)
         clear hw2 hEL
         cases zo
         · go_wp2_with (first
            | (go_at_call 164; have hm0 := hm1; clear hm1 hm0; refine (HC1.out _).mono ?_; rintro e w3 ⟨rfl, hx3⟩; obtain ⟨w4, hw4⟩ : ∃ w4, w3.alloc (.cells #[.int .i64 z1, .int .i64 z2, .bool zc, .bool zf] 46) = w4 := ⟨_, rfl⟩; have HX34 : Hid (Xt w3 w4) := (by unfold Hid; rw [← hw4]; exact (Xt.refl _).alloc _); have HX24 : Hid (Xt w2 w4) := hx3.trans HX34.out; have HX4 : Hid (Xt wr w4) := HX2.out.trans HX24.out; have HRP : Hid (w4.heap[w3.heap.size]? = some (.cells #[.int .i64 z1, .int .i64 z2, .bool zc, .bool zf] 46 (0, 0))) := (by unfold Hid; rw [← hw4]; exact (MapKept.heap_alloc w3 _).1); have hsz3 : w2.heap.size ≤ w3.heap.size := hx3.size; obtain ⟨p0, p1, p2, p3, u0, u1, u2, u3⟩ := cells4R HRP.out; have d0 : w4.cell? ⟨B, 0, none⟩ = some (.int .i64 k) := (by have := HEA.out _ HX4.out; simp [World.cell?, this]); obtain ⟨⟨d6, d7, d8, d9, d10, d11, d12, d13⟩, g6, g7, g8, g9, g10, g11, g12, g13⟩ := nodeRefs (HEA.out _ HX4.out); clear hx3)
            | (refine wpList_load_row (P := Tryz.prog) rfl 49 _ rfl wr.heap.size rfl 49 _ (0, 0) _ (HEL.out _ HX24.out) Tryz.underlying49 rfl (by kernel_rfl) ?_)
            | (refine wpList_store_row (P := Tryz.prog) rfl 49 _ _ rfl (B + 1) _ rfl rfl 49 _ (HEB.out _ HX4.out) (by kernel_rfl) (by kernel_rfl) (all_oneCell_toArray (nodeC_one lostT (.slice none 0 0) rfl)) ?_))
           (try simp only [Exit.inBlock, Exit.then])
           refine bodyPost_ret (v := .agg (nodeC lostT (.slice none 0 0)).toArray) (results_cell_row rfl _ _ (B + 1) 49 _ (0, 0) _ rfl (setRow_heap _ _ _ _ _ _ (HEB.out _ HX4.out)) Tryz.underlying49 rfl (by kernel_rfl)) rfl ?_
           have hTT : upT (shH cc rr) (.mk k o x s bb f ⟨(r1, r2), rc, rf⟩ ⟨(q1, q2), qc, qf⟩ l) = lostT := by
            rw [upT, shH, if_neg (by rw [HK5.out]; decide), if_pos HK5.out, HZO.out]; rfl
           rw [hTT]
           exact ⟨none, 0, rfl, SepIn.nil n, HWw.out.side ((Wr.of_xt HX4.out).trans (Wr.row _ (show B ≤ B + 1 by omega))) (S2 := Hi B) (fun c hc => by have := HBw.out; have : B ≤ c := hc; omega)⟩
         · have HC2 := Lib.hid (fun V => ashift_any ⟨(q1, q2), qc, qf⟩ cc rr V)
           obtain ⟨vv, hvv⟩ : ∃ z, shR cc rr ⟨(q1, q2), qc, qf⟩ = z := ⟨_, rfl⟩
           obtain ⟨vo, hvo⟩ : ∃ z, shB cc rr ⟨(q1, q2), qc, qf⟩ = z := ⟨_, rfl⟩
           rw [hvv, hvo] at HC2
           obtain ⟨⟨v1, v2⟩, vc, vf⟩ := vv
           have HVV := Lib.hid hvv
           have HVO := Lib.hid hvo
           clear hvv hvo
           cases vo
           · go_wp2_with (first
              | (go_at_call 164; have hm0 := hm1; clear hm1 hm0; refine (HC1.out _).mono ?_; rintro e w3 ⟨rfl, hx3⟩; obtain ⟨w4, hw4⟩ : ∃ w4, w3.alloc (.cells #[.int .i64 z1, .int .i64 z2, .bool zc, .bool zf] 46) = w4 := ⟨_, rfl⟩; have HX34 : Hid (Xt w3 w4) := (by unfold Hid; rw [← hw4]; exact (Xt.refl _).alloc _); have HX24 : Hid (Xt w2 w4) := hx3.trans HX34.out; have HX4 : Hid (Xt wr w4) := HX2.out.trans HX24.out; have HRP : Hid (w4.heap[w3.heap.size]? = some (.cells #[.int .i64 z1, .int .i64 z2, .bool zc, .bool zf] 46 (0, 0))) := (by unfold Hid; rw [← hw4]; exact (MapKept.heap_alloc w3 _).1); have hsz3 : w2.heap.size ≤ w3.heap.size := hx3.size; obtain ⟨p0, p1, p2, p3, u0, u1, u2, u3⟩ := cells4R HRP.out; have d0 : w4.cell? ⟨B, 0, none⟩ = some (.int .i64 k) := (by have := HEA.out _ HX4.out; simp [World.cell?, this]); obtain ⟨⟨d6, d7, d8, d9, d10, d11, d12, d13⟩, g6, g7, g8, g9, g10, g11, g12, g13⟩ := nodeRefs (HEA.out _ HX4.out); clear hx3)
              | (go_at_call 164; refine (HC2.out _).mono ?_; rintro e w5 ⟨rfl, hx5⟩; obtain ⟨w6, hw6⟩ : ∃ w6, w5.alloc (.cells #[.int .i64 v1, .int .i64 v2, .bool vc, .bool vf] 46) = w6 := ⟨_, rfl⟩; have HX46 : Hid (Xt w4 w6) := (by unfold Hid; rw [← hw6]; exact hx5.alloc _); have HX26 : Hid (Xt w2 w6) := HX24.out.trans HX46.out; have HX6 : Hid (Xt wr w6) := HX4.out.trans HX46.out; have HRQ : Hid (w6.heap[w5.heap.size]? = some (.cells #[.int .i64 v1, .int .i64 v2, .bool vc, .bool vf] 46 (0, 0))) := (by unfold Hid; rw [← hw6]; exact (MapKept.heap_alloc w5 _).1); replace HRP := Lib.hid (rowX HX46.out HRP.out); have hsz5 : w3.heap.size + 1 ≤ w5.heap.size := (by have h1 := hx5.size; have h2 : w4.heap.size = w3.heap.size + 1 := (by rw [← hw4]; simp); omega); obtain ⟨p0, p1, p2, p3, u0, u1, u2, u3⟩ := cells4R HRP.out; obtain ⟨n0, n1, n2, n3, o0, o1, o2, o3⟩ := cells4R HRQ.out; clear hx5)
              | (refine wpList_load_row (P := Tryz.prog) rfl 49 _ rfl wr.heap.size rfl 49 _ (0, 0) _ (HEL.out _ HX26.out) Tryz.underlying49 rfl (by kernel_rfl) ?_)
              | (refine wpList_store_row (P := Tryz.prog) rfl 49 _ _ rfl (B + 1) _ rfl rfl 49 _ (HEB.out _ HX6.out) (by kernel_rfl) (by kernel_rfl) (all_oneCell_toArray (nodeC_one lostT (.slice none 0 0) rfl)) ?_))
             (try simp only [Exit.inBlock, Exit.then])
             refine bodyPost_ret (v := .agg (nodeC lostT (.slice none 0 0)).toArray) (results_cell_row rfl _ _ (B + 1) 49 _ (0, 0) _ rfl (setRow_heap _ _ _ _ _ _ (HEB.out _ HX6.out)) Tryz.underlying49 rfl (by kernel_rfl)) rfl ?_
             have hTT : upT (shH cc rr) (.mk k o x s bb f ⟨(r1, r2), rc, rf⟩ ⟨(q1, q2), qc, qf⟩ l) = lostT := by
              rw [upT, shH, if_neg (by rw [HK5.out]; decide), if_pos HK5.out, HZO.out, if_pos rfl, HVO.out]; rfl
             rw [hTT]
             exact ⟨none, 0, rfl, SepIn.nil n, HWw.out.side ((Wr.of_xt HX6.out).trans (Wr.row _ (show B ≤ B + 1 by omega))) (S2 := Hi B) (fun c hc => by have := HBw.out; have : B ≤ c := hc; omega)⟩
           · go_upto_region 18 with (first
              | (go_at_call 164; have hm0 := hm1; clear hm1 hm0; refine (HC1.out _).mono ?_; rintro e w3 ⟨rfl, hx3⟩; obtain ⟨w4, hw4⟩ : ∃ w4, w3.alloc (.cells #[.int .i64 z1, .int .i64 z2, .bool zc, .bool zf] 46) = w4 := ⟨_, rfl⟩; have HX34 : Hid (Xt w3 w4) := (by unfold Hid; rw [← hw4]; exact (Xt.refl _).alloc _); have HX24 : Hid (Xt w2 w4) := hx3.trans HX34.out; have HX4 : Hid (Xt wr w4) := HX2.out.trans HX24.out; have HRP : Hid (w4.heap[w3.heap.size]? = some (.cells #[.int .i64 z1, .int .i64 z2, .bool zc, .bool zf] 46 (0, 0))) := (by unfold Hid; rw [← hw4]; exact (MapKept.heap_alloc w3 _).1); have hsz3 : w2.heap.size ≤ w3.heap.size := hx3.size; obtain ⟨p0, p1, p2, p3, u0, u1, u2, u3⟩ := cells4R HRP.out; have d0 : w4.cell? ⟨B, 0, none⟩ = some (.int .i64 k) := (by have := HEA.out _ HX4.out; simp [World.cell?, this]); obtain ⟨⟨d6, d7, d8, d9, d10, d11, d12, d13⟩, g6, g7, g8, g9, g10, g11, g12, g13⟩ := nodeRefs (HEA.out _ HX4.out); clear hx3)
              | (go_at_call 164; refine (HC2.out _).mono ?_; rintro e w5 ⟨rfl, hx5⟩; obtain ⟨w6, hw6⟩ : ∃ w6, w5.alloc (.cells #[.int .i64 v1, .int .i64 v2, .bool vc, .bool vf] 46) = w6 := ⟨_, rfl⟩; have HX46 : Hid (Xt w4 w6) := (by unfold Hid; rw [← hw6]; exact hx5.alloc _); have HX26 : Hid (Xt w2 w6) := HX24.out.trans HX46.out; have HX6 : Hid (Xt wr w6) := HX4.out.trans HX46.out; have HRQ : Hid (w6.heap[w5.heap.size]? = some (.cells #[.int .i64 v1, .int .i64 v2, .bool vc, .bool vf] 46 (0, 0))) := (by unfold Hid; rw [← hw6]; exact (MapKept.heap_alloc w5 _).1); replace HRP := Lib.hid (rowX HX46.out HRP.out); have hsz5 : w3.heap.size + 1 ≤ w5.heap.size := (by have h1 := hx5.size; have h2 : w4.heap.size = w3.heap.size + 1 := (by rw [← hw4]; simp); omega); obtain ⟨p0, p1, p2, p3, u0, u1, u2, u3⟩ := cells4R HRP.out; obtain ⟨n0, n1, n2, n3, o0, o1, o2, o3⟩ := cells4R HRQ.out; clear hx5))
             obtain ⟨P, hP⟩ : ∃ P, w3.heap.size = P := ⟨_, rfl⟩
             obtain ⟨Q, hQ⟩ : ∃ Q, w5.heap.size = Q := ⟨_, rfl⟩
             rw [hP] at HRP p0 p1 p2 p3 u0 u1 u2 u3 hsz5 hsz3
             rw [hQ] at HRQ n0 n1 n2 n3 o0 o1 o2 o3 hsz5
             simp only [hP, hQ]
             have hPQ : P ≠ Q := by omega
             have hQP : Q ≠ P := by omega
             have hsB : B + 2 ≤ P := by have := HX2.out.size; omega
             clear hP hQ hw4 hw6
             by_cases hcol : v1 < z1
             · by_cases hrow : v2 < z2
               · go_wp2_with fail
                 obtain ⟨wq, hwq⟩ : ∃ wq, ((((((((w6.setCell ⟨P, 0, none⟩ (.int .i64 v1)).setCell ⟨Q, 0, none⟩ (.int .i64 z1)).setCell ⟨P, 2, none⟩ (.bool vc)).setCell ⟨Q, 2, none⟩ (.bool zc)).setCell ⟨P, 1, none⟩ (.int .i64 v2)).setCell ⟨Q, 1, none⟩ (.int .i64 z2)).setCell ⟨P, 3, none⟩ (.bool vf)).setCell ⟨Q, 3, none⟩ (.bool zf)) = wq := ⟨_, rfl⟩
                 have HP7 : Hid (wq.heap[P]? = some (.cells #[.int .i64 v1, .int .i64 v2, .bool vc, .bool vf] 46 (0, 0))) := by unfold Hid; rw [← hwq]; exact (swap_rows (swap_rows (swap_rows (swap_rows (⟨HRP.out, HRQ.out⟩ : _ ∧ _).1 (⟨HRP.out, HRQ.out⟩ : _ ∧ _).2 hPQ 0 (.int .i64 v1) (.int .i64 z1)).1 (swap_rows (⟨HRP.out, HRQ.out⟩ : _ ∧ _).1 (⟨HRP.out, HRQ.out⟩ : _ ∧ _).2 hPQ 0 (.int .i64 v1) (.int .i64 z1)).2 hPQ 2 (.bool vc) (.bool zc)).1 (swap_rows (swap_rows (⟨HRP.out, HRQ.out⟩ : _ ∧ _).1 (⟨HRP.out, HRQ.out⟩ : _ ∧ _).2 hPQ 0 (.int .i64 v1) (.int .i64 z1)).1 (swap_rows (⟨HRP.out, HRQ.out⟩ : _ ∧ _).1 (⟨HRP.out, HRQ.out⟩ : _ ∧ _).2 hPQ 0 (.int .i64 v1) (.int .i64 z1)).2 hPQ 2 (.bool vc) (.bool zc)).2 hPQ 1 (.int .i64 v2) (.int .i64 z2)).1 (swap_rows (swap_rows (swap_rows (⟨HRP.out, HRQ.out⟩ : _ ∧ _).1 (⟨HRP.out, HRQ.out⟩ : _ ∧ _).2 hPQ 0 (.int .i64 v1) (.int .i64 z1)).1 (swap_rows (⟨HRP.out, HRQ.out⟩ : _ ∧ _).1 (⟨HRP.out, HRQ.out⟩ : _ ∧ _).2 hPQ 0 (.int .i64 v1) (.int .i64 z1)).2 hPQ 2 (.bool vc) (.bool zc)).1 (swap_rows (swap_rows (⟨HRP.out, HRQ.out⟩ : _ ∧ _).1 (⟨HRP.out, HRQ.out⟩ : _ ∧ _).2 hPQ 0 (.int .i64 v1) (.int .i64 z1)).1 (swap_rows (⟨HRP.out, HRQ.out⟩ : _ ∧ _).1 (⟨HRP.out, HRQ.out⟩ : _ ∧ _).2 hPQ 0 (.int .i64 v1) (.int .i64 z1)).2 hPQ 2 (.bool vc) (.bool zc)).2 hPQ 1 (.int .i64 v2) (.int .i64 z2)).2 hPQ 3 (.bool vf) (.bool zf)).1
                 have HQ7 : Hid (wq.heap[Q]? = some (.cells #[.int .i64 z1, .int .i64 z2, .bool zc, .bool zf] 46 (0, 0))) := by unfold Hid; rw [← hwq]; exact (swap_rows (swap_rows (swap_rows (swap_rows (⟨HRP.out, HRQ.out⟩ : _ ∧ _).1 (⟨HRP.out, HRQ.out⟩ : _ ∧ _).2 hPQ 0 (.int .i64 v1) (.int .i64 z1)).1 (swap_rows (⟨HRP.out, HRQ.out⟩ : _ ∧ _).1 (⟨HRP.out, HRQ.out⟩ : _ ∧ _).2 hPQ 0 (.int .i64 v1) (.int .i64 z1)).2 hPQ 2 (.bool vc) (.bool zc)).1 (swap_rows (swap_rows (⟨HRP.out, HRQ.out⟩ : _ ∧ _).1 (⟨HRP.out, HRQ.out⟩ : _ ∧ _).2 hPQ 0 (.int .i64 v1) (.int .i64 z1)).1 (swap_rows (⟨HRP.out, HRQ.out⟩ : _ ∧ _).1 (⟨HRP.out, HRQ.out⟩ : _ ∧ _).2 hPQ 0 (.int .i64 v1) (.int .i64 z1)).2 hPQ 2 (.bool vc) (.bool zc)).2 hPQ 1 (.int .i64 v2) (.int .i64 z2)).1 (swap_rows (swap_rows (swap_rows (⟨HRP.out, HRQ.out⟩ : _ ∧ _).1 (⟨HRP.out, HRQ.out⟩ : _ ∧ _).2 hPQ 0 (.int .i64 v1) (.int .i64 z1)).1 (swap_rows (⟨HRP.out, HRQ.out⟩ : _ ∧ _).1 (⟨HRP.out, HRQ.out⟩ : _ ∧ _).2 hPQ 0 (.int .i64 v1) (.int .i64 z1)).2 hPQ 2 (.bool vc) (.bool zc)).1 (swap_rows (swap_rows (⟨HRP.out, HRQ.out⟩ : _ ∧ _).1 (⟨HRP.out, HRQ.out⟩ : _ ∧ _).2 hPQ 0 (.int .i64 v1) (.int .i64 z1)).1 (swap_rows (⟨HRP.out, HRQ.out⟩ : _ ∧ _).1 (⟨HRP.out, HRQ.out⟩ : _ ∧ _).2 hPQ 0 (.int .i64 v1) (.int .i64 z1)).2 hPQ 2 (.bool vc) (.bool zc)).2 hPQ 1 (.int .i64 v2) (.int .i64 z2)).2 hPQ 3 (.bool vf) (.bool zf)).2
                 have HB7 : Hid (wq.heap[B]? = some (.cells #[.int .i64 k, .int .i64 o, .float .f64 x, .string s, .bool bb, .int .i64 f, .int .i64 r1, .int .i64 r2, .bool rc, .bool rf, .int .i64 q1, .int .i64 q2, .bool qc, .bool qf, .slice a l.length cap] 49 (0, 0))) := by unfold Hid; rw [← hwq]; exact ((Below.heap_setCell _ _ _ _ (fun e => by simp at e; omega)).trans ((Below.heap_setCell _ _ _ _ (fun e => by simp at e; omega)).trans ((Below.heap_setCell _ _ _ _ (fun e => by simp at e; omega)).trans ((Below.heap_setCell _ _ _ _ (fun e => by simp at e; omega)).trans ((Below.heap_setCell _ _ _ _ (fun e => by simp at e; omega)).trans ((Below.heap_setCell _ _ _ _ (fun e => by simp at e; omega)).trans ((Below.heap_setCell _ _ _ _ (fun e => by simp at e; omega)).trans ((Below.heap_setCell _ _ _ _ (fun e => by simp at e; omega)).trans (HEA.out _ HX6.out)))))))))
                 have HB8 : Hid (wq.heap[B + 1]? = some (.cells #[.int .i64 0, .int .i64 0, .float .f64 0, .string ⟨#[]⟩, .bool false, .int .i64 0, .int .i64 0, .int .i64 0, .bool false, .bool false, .int .i64 0, .int .i64 0, .bool false, .bool false, .slice none 0 0] 49 (0, 0))) := by unfold Hid; rw [← hwq]; exact ((Below.heap_setCell _ _ _ _ (fun e => by simp at e; omega)).trans ((Below.heap_setCell _ _ _ _ (fun e => by simp at e; omega)).trans ((Below.heap_setCell _ _ _ _ (fun e => by simp at e; omega)).trans ((Below.heap_setCell _ _ _ _ (fun e => by simp at e; omega)).trans ((Below.heap_setCell _ _ _ _ (fun e => by simp at e; omega)).trans ((Below.heap_setCell _ _ _ _ (fun e => by simp at e; omega)).trans ((Below.heap_setCell _ _ _ _ (fun e => by simp at e; omega)).trans ((Below.heap_setCell _ _ _ _ (fun e => by simp at e; omega)).trans (HEB.out _ HX6.out)))))))))
                 have HW7 : Hid (Wr (Hi B) wr wq) := by unfold Hid; rw [← hwq]; exact (((((((((Wr.of_xt HX6.out).trans (Wr.cell _ (show B ≤ P by omega))).trans (Wr.cell _ (show B ≤ Q by omega))).trans (Wr.cell _ (show B ≤ P by omega))).trans (Wr.cell _ (show B ≤ Q by omega))).trans (Wr.cell _ (show B ≤ P by omega))).trans (Wr.cell _ (show B ≤ Q by omega))).trans (Wr.cell _ (show B ≤ P by omega))).trans (Wr.cell _ (show B ≤ Q by omega)))
                 rw [hwq]
                 clear hwq d0 d6 d7 d8 d9 d10 d11 d12 d13 g6 g7 g8 g9 g10 g11 g12 g13 p0 p1 p2 p3 u0 u1 u2 u3 n0 n1 n2 n3 o0 o1 o2 o3
                 obtain ⟨⟨d6, d7, d8, d9, d10, d11, d12, d13⟩, g6, g7, g8, g9, g10, g11, g12, g13⟩ := nodeRefs HB7.out
                 refine wp_region_held_drew (S := fun V => V.heap[P]? = some (.cells #[.int .i64 v1, .int .i64 v2, .bool vc, .bool vf] 46 (0, 0)) ∧ V.heap[Q]? = some (.cells #[.int .i64 z1, .int .i64 z2, .bool zc, .bool zf] 46 (0, 0))) (by kernel_rfl) ⟨HP7.out, HQ7.out⟩ (fun hHeld => ?_)
                 refine tkH 0 ?_ ?_ ?_
                 rotate_left
                 · intro V hSw; obtain ⟨p0, p1, p2, p3, _⟩ := cells4R hSw.1; obtain ⟨n0, n1, n2, n3, _⟩ := cells4R hSw.2; go_simp; first | done | with_reducible rfl
                 try simp only [Act.put, nm]
                 refine tkH 1 ?_ ?_ ?_
                 rotate_left
                 · intro V hSw; obtain ⟨p0, p1, p2, p3, _⟩ := cells4R hSw.1; obtain ⟨n0, n1, n2, n3, _⟩ := cells4R hSw.2; go_simp; first | done | with_reducible rfl
                 try simp only [Act.put, nm]
                 refine tkH 2 ?_ ?_ ?_
                 rotate_left
                 · intro V hSw; obtain ⟨p0, p1, p2, p3, _⟩ := cells4R hSw.1; obtain ⟨n0, n1, n2, n3, _⟩ := cells4R hSw.2; go_simp; first | done | with_reducible rfl
                 try simp only [Act.put, nm]
                 refine rdH 3 (fun K hK => ?_)
                 go_simp
                 refine hK.out _ _ ?_ (fun hHeld3 => ?_)
                 · rw [hdr]
                   exact ⟨(cells_out8 (by omega) (cells_out8 (by omega) (cells_out8 (by omega) (cells_out8 (by omega) HP7.out _ _) _ _) _ _) _ _), (cells_out8 (by omega) (cells_out8 (by omega) (cells_out8 (by omega) (cells_out8 (by omega) HQ7.out _ _) _ _) _ _) _ _)⟩
                 clear hK K
                 try simp only [Act.put, nm]
                 refine tkH 4 ?_ ?_ ?_
                 rotate_left
                 · intro V hSw; obtain ⟨p0, p1, p2, p3, _⟩ := cells4R hSw.1; obtain ⟨n0, n1, n2, n3, _⟩ := cells4R hSw.2; go_simp; first | done | with_reducible rfl
                 try simp only [Act.put, nm]
                 refine rdH 5 (fun K hK => ?_)
                 go_simp
                 refine hK.out _ _ ?_ (fun hHeld5 => ?_)
                 · rw [hdr]
                   exact ⟨(cells_out8 (by omega) (cells_out8 (by omega) (cells_out8 (by omega) (cells_out8 (by omega) (cells_out8 (by omega) (cells_out8 (by omega) (cells_out8 (by omega) (cells_out8 (by omega) HP7.out _ _) _ _) _ _) _ _) _ _) _ _) _ _) _ _), (cells_out8 (by omega) (cells_out8 (by omega) (cells_out8 (by omega) (cells_out8 (by omega) (cells_out8 (by omega) (cells_out8 (by omega) (cells_out8 (by omega) (cells_out8 (by omega) HQ7.out _ _) _ _) _ _) _ _) _ _) _ _) _ _) _ _)⟩
                 clear hK K
                 try simp only [Act.put, nm]
                 refine wpAnyH_done (by kernel_rfl) ?_ _
                 obtain ⟨w9, hw9⟩ : ∃ w9, (((((((((wq.setCell ⟨B, 6, none⟩ (.int .i64 v1)).setCell ⟨B, 7, none⟩ (.int .i64 v2)).setCell ⟨B, 8, none⟩ (.bool vc)).setCell ⟨B, 9, none⟩ (.bool vf)).setCell ⟨B, 10, none⟩ (.int .i64 z1)).setCell ⟨B, 11, none⟩ (.int .i64 z2)).setCell ⟨B, 12, none⟩ (.bool zc)).setCell ⟨B, 13, none⟩ (.bool zf))).drew = w9 := ⟨_, rfl⟩
                 have e0 := setCell_row HB7.out 6 (.int .i64 v1)
                 simp only [List.setIfInBounds_toArray, List.set_cons_zero, List.set_cons_succ] at e0
                 have e1 := setCell_row e0 7 (.int .i64 v2)
                 simp only [List.setIfInBounds_toArray, List.set_cons_zero, List.set_cons_succ] at e1
                 have e2 := setCell_row e1 8 (.bool vc)
                 simp only [List.setIfInBounds_toArray, List.set_cons_zero, List.set_cons_succ] at e2
                 have e3 := setCell_row e2 9 (.bool vf)
                 simp only [List.setIfInBounds_toArray, List.set_cons_zero, List.set_cons_succ] at e3
                 have e4 := setCell_row e3 10 (.int .i64 z1)
                 simp only [List.setIfInBounds_toArray, List.set_cons_zero, List.set_cons_succ] at e4
                 have e5 := setCell_row e4 11 (.int .i64 z2)
                 simp only [List.setIfInBounds_toArray, List.set_cons_zero, List.set_cons_succ] at e5
                 have e6 := setCell_row e5 12 (.bool zc)
                 simp only [List.setIfInBounds_toArray, List.set_cons_zero, List.set_cons_succ] at e6
                 have e7 := setCell_row e6 13 (.bool zf)
                 simp only [List.setIfInBounds_toArray, List.set_cons_zero, List.set_cons_succ] at e7
                 have HB9 : Hid (w9.heap[B]? = some (.cells (nodeC (.mk k o x s bb f ⟨(v1, v2), vc, vf⟩ ⟨(z1, z2), zc, zf⟩ l) (.slice a l.length cap)).toArray 49 (0, 0))) := by unfold Hid; rw [← hw9, hdr]; exact e7
                 clear e0 e1 e2 e3 e4 e5 e6 e7
                 have HR9 : Hid (w9.heap[B + 1]? = some (.cells #[.int .i64 0, .int .i64 0, .float .f64 0, .string ⟨#[]⟩, .bool false, .int .i64 0, .int .i64 0, .int .i64 0, .bool false, .bool false, .int .i64 0, .int .i64 0, .bool false, .bool false, .slice none 0 0] 49 (0, 0))) := by unfold Hid; rw [← hw9, hdr]; exact ((Below.heap_setCell _ _ _ _ (by simp)).trans ((Below.heap_setCell _ _ _ _ (by simp)).trans ((Below.heap_setCell _ _ _ _ (by simp)).trans ((Below.heap_setCell _ _ _ _ (by simp)).trans ((Below.heap_setCell _ _ _ _ (by simp)).trans ((Below.heap_setCell _ _ _ _ (by simp)).trans ((Below.heap_setCell _ _ _ _ (by simp)).trans ((Below.heap_setCell _ _ _ _ (by simp)).trans HB8.out))))))))
                 have HW9 : Hid (Wr (Hi B) wr w9) := by unfold Hid; rw [← hw9]; exact (((((((((HW7.out.trans (Wr.cell _ (show B ≤ B by omega))).trans (Wr.cell _ (show B ≤ B by omega))).trans (Wr.cell _ (show B ≤ B by omega))).trans (Wr.cell _ (show B ≤ B by omega))).trans (Wr.cell _ (show B ≤ B by omega))).trans (Wr.cell _ (show B ≤ B by omega))).trans (Wr.cell _ (show B ≤ B by omega))).trans (Wr.cell _ (show B ≤ B by omega))).trans (Wr.of_xt (Xt.refl _).drew))
                 rw [hw9]
                 clear hw9 d6 d7 d8 d9 d10 d11 d12 d13 g6 g7 g8 g9 g10 g11 g12 g13 hHeld hHeld3 hHeld5
                 go_wp2_with (first
                  | (refine wpList_load_row (P := Tryz.prog) rfl 49 _ rfl B rfl 49 _ (0, 0) _ HB9.out Tryz.underlying49 rfl (by kernel_rfl) ?_)
                  | (refine wpList_store_row (P := Tryz.prog) rfl 49 _ _ rfl (B + 1) _ rfl rfl 49 _ HR9.out (by kernel_rfl) (by kernel_rfl) (all_oneCell_toArray (nodeC_one (.mk k o x s bb f ⟨(v1, v2), vc, vf⟩ ⟨(z1, z2), zc, zf⟩ l) (.slice a l.length cap) rfl)) ?_))
                 (try simp only [Exit.inBlock, Exit.then])
                 refine bodyPost_ret (v := .agg (nodeC (.mk k o x s bb f ⟨(v1, v2), vc, vf⟩ ⟨(z1, z2), zc, zf⟩ l) (.slice a l.length cap)).toArray) (results_cell_row rfl _ _ (B + 1) 49 _ (0, 0) _ rfl (setRow_heap _ _ _ _ _ _ HR9.out) Tryz.underlying49 rfl (by kernel_rfl)) rfl ?_
                 have hTT : upT (shH cc rr) (.mk k o x s bb f ⟨(r1, r2), rc, rf⟩ ⟨(q1, q2), qc, qf⟩ l) = .mk k o x s bb f ⟨(v1, v2), vc, vf⟩ ⟨(z1, z2), zc, zf⟩ (l.map (upT (shH cc rr))) := by
                  rw [upT, upL_map, shH, if_neg (by rw [HK5.out]; decide), if_pos HK5.out, HZO.out, if_pos rfl, HVO.out, if_pos rfl, HZZ.out, HVV.out]
                  unfold loR hiR
                  have hc1 : v1 < z1 := by omega
                  have hc2 : v2 < z2 := by omega
                  simp only [if_pos hc1, if_pos hc2]
                 rw [hTT]
                 obtain ⟨f1, f2⟩ := fin_hi (W := w9.setRow (B + 1) (nodeC (.mk k o x s bb f ⟨(v1, v2), vc, vf⟩ ⟨(z1, z2), zc, zf⟩ l) (.slice a l.length cap)).toArray) HA'.out HWw.out HBw.out (fun b hb => by have := HS.out b hb; have := HBw.out; omega) (HW9.out.trans (Wr.row _ (show B ≤ B + 1 by omega)))
                 refine ⟨a, cap, ?_, ?_, f2⟩
                 · simp [nodeC, NodeT.args, NodeT.kind, NodeT.op, NodeT.x, NodeT.s, NodeT.b, NodeT.f, NodeT.ref, NodeT.to]
                 · simp only [NodeT.args, List.length_map]; exact f1
               · go_wp2_with fail
                 obtain ⟨wq, hwq⟩ : ∃ wq, ((((w6.setCell ⟨P, 0, none⟩ (.int .i64 v1)).setCell ⟨Q, 0, none⟩ (.int .i64 z1)).setCell ⟨P, 2, none⟩ (.bool vc)).setCell ⟨Q, 2, none⟩ (.bool zc)) = wq := ⟨_, rfl⟩
                 have HP7 : Hid (wq.heap[P]? = some (.cells #[.int .i64 v1, .int .i64 z2, .bool vc, .bool zf] 46 (0, 0))) := by unfold Hid; rw [← hwq]; exact (swap_rows (swap_rows (⟨HRP.out, HRQ.out⟩ : _ ∧ _).1 (⟨HRP.out, HRQ.out⟩ : _ ∧ _).2 hPQ 0 (.int .i64 v1) (.int .i64 z1)).1 (swap_rows (⟨HRP.out, HRQ.out⟩ : _ ∧ _).1 (⟨HRP.out, HRQ.out⟩ : _ ∧ _).2 hPQ 0 (.int .i64 v1) (.int .i64 z1)).2 hPQ 2 (.bool vc) (.bool zc)).1
                 have HQ7 : Hid (wq.heap[Q]? = some (.cells #[.int .i64 z1, .int .i64 v2, .bool zc, .bool vf] 46 (0, 0))) := by unfold Hid; rw [← hwq]; exact (swap_rows (swap_rows (⟨HRP.out, HRQ.out⟩ : _ ∧ _).1 (⟨HRP.out, HRQ.out⟩ : _ ∧ _).2 hPQ 0 (.int .i64 v1) (.int .i64 z1)).1 (swap_rows (⟨HRP.out, HRQ.out⟩ : _ ∧ _).1 (⟨HRP.out, HRQ.out⟩ : _ ∧ _).2 hPQ 0 (.int .i64 v1) (.int .i64 z1)).2 hPQ 2 (.bool vc) (.bool zc)).2
                 have HB7 : Hid (wq.heap[B]? = some (.cells #[.int .i64 k, .int .i64 o, .float .f64 x, .string s, .bool bb, .int .i64 f, .int .i64 r1, .int .i64 r2, .bool rc, .bool rf, .int .i64 q1, .int .i64 q2, .bool qc, .bool qf, .slice a l.length cap] 49 (0, 0))) := by unfold Hid; rw [← hwq]; exact ((Below.heap_setCell _ _ _ _ (fun e => by simp at e; omega)).trans ((Below.heap_setCell _ _ _ _ (fun e => by simp at e; omega)).trans ((Below.heap_setCell _ _ _ _ (fun e => by simp at e; omega)).trans ((Below.heap_setCell _ _ _ _ (fun e => by simp at e; omega)).trans (HEA.out _ HX6.out)))))
                 have HB8 : Hid (wq.heap[B + 1]? = some (.cells #[.int .i64 0, .int .i64 0, .float .f64 0, .string ⟨#[]⟩, .bool false, .int .i64 0, .int .i64 0, .int .i64 0, .bool false, .bool false, .int .i64 0, .int .i64 0, .bool false, .bool false, .slice none 0 0] 49 (0, 0))) := by unfold Hid; rw [← hwq]; exact ((Below.heap_setCell _ _ _ _ (fun e => by simp at e; omega)).trans ((Below.heap_setCell _ _ _ _ (fun e => by simp at e; omega)).trans ((Below.heap_setCell _ _ _ _ (fun e => by simp at e; omega)).trans ((Below.heap_setCell _ _ _ _ (fun e => by simp at e; omega)).trans (HEB.out _ HX6.out)))))
                 have HW7 : Hid (Wr (Hi B) wr wq) := by unfold Hid; rw [← hwq]; exact (((((Wr.of_xt HX6.out).trans (Wr.cell _ (show B ≤ P by omega))).trans (Wr.cell _ (show B ≤ Q by omega))).trans (Wr.cell _ (show B ≤ P by omega))).trans (Wr.cell _ (show B ≤ Q by omega)))
                 rw [hwq]
                 clear hwq d0 d6 d7 d8 d9 d10 d11 d12 d13 g6 g7 g8 g9 g10 g11 g12 g13 p0 p1 p2 p3 u0 u1 u2 u3 n0 n1 n2 n3 o0 o1 o2 o3
                 obtain ⟨⟨d6, d7, d8, d9, d10, d11, d12, d13⟩, g6, g7, g8, g9, g10, g11, g12, g13⟩ := nodeRefs HB7.out
                 refine wp_region_held_drew (S := fun V => V.heap[P]? = some (.cells #[.int .i64 v1, .int .i64 z2, .bool vc, .bool zf] 46 (0, 0)) ∧ V.heap[Q]? = some (.cells #[.int .i64 z1, .int .i64 v2, .bool zc, .bool vf] 46 (0, 0))) (by kernel_rfl) ⟨HP7.out, HQ7.out⟩ (fun hHeld => ?_)
                 refine tkH 0 ?_ ?_ ?_
                 rotate_left
                 · intro V hSw; obtain ⟨p0, p1, p2, p3, _⟩ := cells4R hSw.1; obtain ⟨n0, n1, n2, n3, _⟩ := cells4R hSw.2; go_simp; first | done | with_reducible rfl
                 try simp only [Act.put, nm]
                 refine tkH 1 ?_ ?_ ?_
                 rotate_left
                 · intro V hSw; obtain ⟨p0, p1, p2, p3, _⟩ := cells4R hSw.1; obtain ⟨n0, n1, n2, n3, _⟩ := cells4R hSw.2; go_simp; first | done | with_reducible rfl
                 try simp only [Act.put, nm]
                 refine tkH 2 ?_ ?_ ?_
                 rotate_left
                 · intro V hSw; obtain ⟨p0, p1, p2, p3, _⟩ := cells4R hSw.1; obtain ⟨n0, n1, n2, n3, _⟩ := cells4R hSw.2; go_simp; first | done | with_reducible rfl
                 try simp only [Act.put, nm]
                 refine rdH 3 (fun K hK => ?_)
                 go_simp
                 refine hK.out _ _ ?_ (fun hHeld3 => ?_)
                 · rw [hdr]
                   exact ⟨(cells_out8 (by omega) (cells_out8 (by omega) (cells_out8 (by omega) (cells_out8 (by omega) HP7.out _ _) _ _) _ _) _ _), (cells_out8 (by omega) (cells_out8 (by omega) (cells_out8 (by omega) (cells_out8 (by omega) HQ7.out _ _) _ _) _ _) _ _)⟩
                 clear hK K
                 try simp only [Act.put, nm]
                 refine tkH 4 ?_ ?_ ?_
                 rotate_left
                 · intro V hSw; obtain ⟨p0, p1, p2, p3, _⟩ := cells4R hSw.1; obtain ⟨n0, n1, n2, n3, _⟩ := cells4R hSw.2; go_simp; first | done | with_reducible rfl
                 try simp only [Act.put, nm]
                 refine rdH 5 (fun K hK => ?_)
                 go_simp
                 refine hK.out _ _ ?_ (fun hHeld5 => ?_)
                 · rw [hdr]
                   exact ⟨(cells_out8 (by omega) (cells_out8 (by omega) (cells_out8 (by omega) (cells_out8 (by omega) (cells_out8 (by omega) (cells_out8 (by omega) (cells_out8 (by omega) (cells_out8 (by omega) HP7.out _ _) _ _) _ _) _ _) _ _) _ _) _ _) _ _), (cells_out8 (by omega) (cells_out8 (by omega) (cells_out8 (by omega) (cells_out8 (by omega) (cells_out8 (by omega) (cells_out8 (by omega) (cells_out8 (by omega) (cells_out8 (by omega) HQ7.out _ _) _ _) _ _) _ _) _ _) _ _) _ _) _ _)⟩
                 clear hK K
                 try simp only [Act.put, nm]
                 refine wpAnyH_done (by kernel_rfl) ?_ _
                 obtain ⟨w9, hw9⟩ : ∃ w9, (((((((((wq.setCell ⟨B, 6, none⟩ (.int .i64 v1)).setCell ⟨B, 7, none⟩ (.int .i64 z2)).setCell ⟨B, 8, none⟩ (.bool vc)).setCell ⟨B, 9, none⟩ (.bool zf)).setCell ⟨B, 10, none⟩ (.int .i64 z1)).setCell ⟨B, 11, none⟩ (.int .i64 v2)).setCell ⟨B, 12, none⟩ (.bool zc)).setCell ⟨B, 13, none⟩ (.bool vf))).drew = w9 := ⟨_, rfl⟩
                 have e0 := setCell_row HB7.out 6 (.int .i64 v1)
                 simp only [List.setIfInBounds_toArray, List.set_cons_zero, List.set_cons_succ] at e0
                 have e1 := setCell_row e0 7 (.int .i64 z2)
                 simp only [List.setIfInBounds_toArray, List.set_cons_zero, List.set_cons_succ] at e1
                 have e2 := setCell_row e1 8 (.bool vc)
                 simp only [List.setIfInBounds_toArray, List.set_cons_zero, List.set_cons_succ] at e2
                 have e3 := setCell_row e2 9 (.bool zf)
                 simp only [List.setIfInBounds_toArray, List.set_cons_zero, List.set_cons_succ] at e3
                 have e4 := setCell_row e3 10 (.int .i64 z1)
                 simp only [List.setIfInBounds_toArray, List.set_cons_zero, List.set_cons_succ] at e4
                 have e5 := setCell_row e4 11 (.int .i64 v2)
                 simp only [List.setIfInBounds_toArray, List.set_cons_zero, List.set_cons_succ] at e5
                 have e6 := setCell_row e5 12 (.bool zc)
                 simp only [List.setIfInBounds_toArray, List.set_cons_zero, List.set_cons_succ] at e6
                 have e7 := setCell_row e6 13 (.bool vf)
                 simp only [List.setIfInBounds_toArray, List.set_cons_zero, List.set_cons_succ] at e7
                 have HB9 : Hid (w9.heap[B]? = some (.cells (nodeC (.mk k o x s bb f ⟨(v1, z2), vc, zf⟩ ⟨(z1, v2), zc, vf⟩ l) (.slice a l.length cap)).toArray 49 (0, 0))) := by unfold Hid; rw [← hw9, hdr]; exact e7
                 clear e0 e1 e2 e3 e4 e5 e6 e7
                 have HR9 : Hid (w9.heap[B + 1]? = some (.cells #[.int .i64 0, .int .i64 0, .float .f64 0, .string ⟨#[]⟩, .bool false, .int .i64 0, .int .i64 0, .int .i64 0, .bool false, .bool false, .int .i64 0, .int .i64 0, .bool false, .bool false, .slice none 0 0] 49 (0, 0))) := by unfold Hid; rw [← hw9, hdr]; exact ((Below.heap_setCell _ _ _ _ (by simp)).trans ((Below.heap_setCell _ _ _ _ (by simp)).trans ((Below.heap_setCell _ _ _ _ (by simp)).trans ((Below.heap_setCell _ _ _ _ (by simp)).trans ((Below.heap_setCell _ _ _ _ (by simp)).trans ((Below.heap_setCell _ _ _ _ (by simp)).trans ((Below.heap_setCell _ _ _ _ (by simp)).trans ((Below.heap_setCell _ _ _ _ (by simp)).trans HB8.out))))))))
                 have HW9 : Hid (Wr (Hi B) wr w9) := by unfold Hid; rw [← hw9]; exact (((((((((HW7.out.trans (Wr.cell _ (show B ≤ B by omega))).trans (Wr.cell _ (show B ≤ B by omega))).trans (Wr.cell _ (show B ≤ B by omega))).trans (Wr.cell _ (show B ≤ B by omega))).trans (Wr.cell _ (show B ≤ B by omega))).trans (Wr.cell _ (show B ≤ B by omega))).trans (Wr.cell _ (show B ≤ B by omega))).trans (Wr.cell _ (show B ≤ B by omega))).trans (Wr.of_xt (Xt.refl _).drew))
                 rw [hw9]
                 clear hw9 d6 d7 d8 d9 d10 d11 d12 d13 g6 g7 g8 g9 g10 g11 g12 g13 hHeld hHeld3 hHeld5
                 go_wp2_with (first
                  | (refine wpList_load_row (P := Tryz.prog) rfl 49 _ rfl B rfl 49 _ (0, 0) _ HB9.out Tryz.underlying49 rfl (by kernel_rfl) ?_)
                  | (refine wpList_store_row (P := Tryz.prog) rfl 49 _ _ rfl (B + 1) _ rfl rfl 49 _ HR9.out (by kernel_rfl) (by kernel_rfl) (all_oneCell_toArray (nodeC_one (.mk k o x s bb f ⟨(v1, z2), vc, zf⟩ ⟨(z1, v2), zc, vf⟩ l) (.slice a l.length cap) rfl)) ?_))
                 (try simp only [Exit.inBlock, Exit.then])
                 refine bodyPost_ret (v := .agg (nodeC (.mk k o x s bb f ⟨(v1, z2), vc, zf⟩ ⟨(z1, v2), zc, vf⟩ l) (.slice a l.length cap)).toArray) (results_cell_row rfl _ _ (B + 1) 49 _ (0, 0) _ rfl (setRow_heap _ _ _ _ _ _ HR9.out) Tryz.underlying49 rfl (by kernel_rfl)) rfl ?_
                 have hTT : upT (shH cc rr) (.mk k o x s bb f ⟨(r1, r2), rc, rf⟩ ⟨(q1, q2), qc, qf⟩ l) = .mk k o x s bb f ⟨(v1, z2), vc, zf⟩ ⟨(z1, v2), zc, vf⟩ (l.map (upT (shH cc rr))) := by
                  rw [upT, upL_map, shH, if_neg (by rw [HK5.out]; decide), if_pos HK5.out, HZO.out, if_pos rfl, HVO.out, if_pos rfl, HZZ.out, HVV.out]
                  unfold loR hiR
                  have hc1 : v1 < z1 := by omega
                  have hc2 : ¬ v2 < z2 := by omega
                  simp only [if_pos hc1, if_neg hc2]
                 rw [hTT]
                 obtain ⟨f1, f2⟩ := fin_hi (W := w9.setRow (B + 1) (nodeC (.mk k o x s bb f ⟨(v1, z2), vc, zf⟩ ⟨(z1, v2), zc, vf⟩ l) (.slice a l.length cap)).toArray) HA'.out HWw.out HBw.out (fun b hb => by have := HS.out b hb; have := HBw.out; omega) (HW9.out.trans (Wr.row _ (show B ≤ B + 1 by omega)))
                 refine ⟨a, cap, ?_, ?_, f2⟩
                 · simp [nodeC, NodeT.args, NodeT.kind, NodeT.op, NodeT.x, NodeT.s, NodeT.b, NodeT.f, NodeT.ref, NodeT.to]
                 · simp only [NodeT.args, List.length_map]; exact f1
             · by_cases hrow : v2 < z2
               · go_wp2_with fail
                 obtain ⟨wq, hwq⟩ : ∃ wq, ((((w6.setCell ⟨P, 1, none⟩ (.int .i64 v2)).setCell ⟨Q, 1, none⟩ (.int .i64 z2)).setCell ⟨P, 3, none⟩ (.bool vf)).setCell ⟨Q, 3, none⟩ (.bool zf)) = wq := ⟨_, rfl⟩
                 have HP7 : Hid (wq.heap[P]? = some (.cells #[.int .i64 z1, .int .i64 v2, .bool zc, .bool vf] 46 (0, 0))) := by unfold Hid; rw [← hwq]; exact (swap_rows (swap_rows (⟨HRP.out, HRQ.out⟩ : _ ∧ _).1 (⟨HRP.out, HRQ.out⟩ : _ ∧ _).2 hPQ 1 (.int .i64 v2) (.int .i64 z2)).1 (swap_rows (⟨HRP.out, HRQ.out⟩ : _ ∧ _).1 (⟨HRP.out, HRQ.out⟩ : _ ∧ _).2 hPQ 1 (.int .i64 v2) (.int .i64 z2)).2 hPQ 3 (.bool vf) (.bool zf)).1
                 have HQ7 : Hid (wq.heap[Q]? = some (.cells #[.int .i64 v1, .int .i64 z2, .bool vc, .bool zf] 46 (0, 0))) := by unfold Hid; rw [← hwq]; exact (swap_rows (swap_rows (⟨HRP.out, HRQ.out⟩ : _ ∧ _).1 (⟨HRP.out, HRQ.out⟩ : _ ∧ _).2 hPQ 1 (.int .i64 v2) (.int .i64 z2)).1 (swap_rows (⟨HRP.out, HRQ.out⟩ : _ ∧ _).1 (⟨HRP.out, HRQ.out⟩ : _ ∧ _).2 hPQ 1 (.int .i64 v2) (.int .i64 z2)).2 hPQ 3 (.bool vf) (.bool zf)).2
                 have HB7 : Hid (wq.heap[B]? = some (.cells #[.int .i64 k, .int .i64 o, .float .f64 x, .string s, .bool bb, .int .i64 f, .int .i64 r1, .int .i64 r2, .bool rc, .bool rf, .int .i64 q1, .int .i64 q2, .bool qc, .bool qf, .slice a l.length cap] 49 (0, 0))) := by unfold Hid; rw [← hwq]; exact ((Below.heap_setCell _ _ _ _ (fun e => by simp at e; omega)).trans ((Below.heap_setCell _ _ _ _ (fun e => by simp at e; omega)).trans ((Below.heap_setCell _ _ _ _ (fun e => by simp at e; omega)).trans ((Below.heap_setCell _ _ _ _ (fun e => by simp at e; omega)).trans (HEA.out _ HX6.out)))))
                 have HB8 : Hid (wq.heap[B + 1]? = some (.cells #[.int .i64 0, .int .i64 0, .float .f64 0, .string ⟨#[]⟩, .bool false, .int .i64 0, .int .i64 0, .int .i64 0, .bool false, .bool false, .int .i64 0, .int .i64 0, .bool false, .bool false, .slice none 0 0] 49 (0, 0))) := by unfold Hid; rw [← hwq]; exact ((Below.heap_setCell _ _ _ _ (fun e => by simp at e; omega)).trans ((Below.heap_setCell _ _ _ _ (fun e => by simp at e; omega)).trans ((Below.heap_setCell _ _ _ _ (fun e => by simp at e; omega)).trans ((Below.heap_setCell _ _ _ _ (fun e => by simp at e; omega)).trans (HEB.out _ HX6.out)))))
                 have HW7 : Hid (Wr (Hi B) wr wq) := by unfold Hid; rw [← hwq]; exact (((((Wr.of_xt HX6.out).trans (Wr.cell _ (show B ≤ P by omega))).trans (Wr.cell _ (show B ≤ Q by omega))).trans (Wr.cell _ (show B ≤ P by omega))).trans (Wr.cell _ (show B ≤ Q by omega)))
                 rw [hwq]
                 clear hwq d0 d6 d7 d8 d9 d10 d11 d12 d13 g6 g7 g8 g9 g10 g11 g12 g13 p0 p1 p2 p3 u0 u1 u2 u3 n0 n1 n2 n3 o0 o1 o2 o3
                 obtain ⟨⟨d6, d7, d8, d9, d10, d11, d12, d13⟩, g6, g7, g8, g9, g10, g11, g12, g13⟩ := nodeRefs HB7.out
                 refine wp_region_held_drew (S := fun V => V.heap[P]? = some (.cells #[.int .i64 z1, .int .i64 v2, .bool zc, .bool vf] 46 (0, 0)) ∧ V.heap[Q]? = some (.cells #[.int .i64 v1, .int .i64 z2, .bool vc, .bool zf] 46 (0, 0))) (by kernel_rfl) ⟨HP7.out, HQ7.out⟩ (fun hHeld => ?_)
                 refine tkH 0 ?_ ?_ ?_
                 rotate_left
                 · intro V hSw; obtain ⟨p0, p1, p2, p3, _⟩ := cells4R hSw.1; obtain ⟨n0, n1, n2, n3, _⟩ := cells4R hSw.2; go_simp; first | done | with_reducible rfl
                 try simp only [Act.put, nm]
                 refine tkH 1 ?_ ?_ ?_
                 rotate_left
                 · intro V hSw; obtain ⟨p0, p1, p2, p3, _⟩ := cells4R hSw.1; obtain ⟨n0, n1, n2, n3, _⟩ := cells4R hSw.2; go_simp; first | done | with_reducible rfl
                 try simp only [Act.put, nm]
                 refine tkH 2 ?_ ?_ ?_
                 rotate_left
                 · intro V hSw; obtain ⟨p0, p1, p2, p3, _⟩ := cells4R hSw.1; obtain ⟨n0, n1, n2, n3, _⟩ := cells4R hSw.2; go_simp; first | done | with_reducible rfl
                 try simp only [Act.put, nm]
                 refine rdH 3 (fun K hK => ?_)
                 go_simp
                 refine hK.out _ _ ?_ (fun hHeld3 => ?_)
                 · rw [hdr]
                   exact ⟨(cells_out8 (by omega) (cells_out8 (by omega) (cells_out8 (by omega) (cells_out8 (by omega) HP7.out _ _) _ _) _ _) _ _), (cells_out8 (by omega) (cells_out8 (by omega) (cells_out8 (by omega) (cells_out8 (by omega) HQ7.out _ _) _ _) _ _) _ _)⟩
                 clear hK K
                 try simp only [Act.put, nm]
                 refine tkH 4 ?_ ?_ ?_
                 rotate_left
                 · intro V hSw; obtain ⟨p0, p1, p2, p3, _⟩ := cells4R hSw.1; obtain ⟨n0, n1, n2, n3, _⟩ := cells4R hSw.2; go_simp; first | done | with_reducible rfl
                 try simp only [Act.put, nm]
                 refine rdH 5 (fun K hK => ?_)
                 go_simp
                 refine hK.out _ _ ?_ (fun hHeld5 => ?_)
                 · rw [hdr]
                   exact ⟨(cells_out8 (by omega) (cells_out8 (by omega) (cells_out8 (by omega) (cells_out8 (by omega) (cells_out8 (by omega) (cells_out8 (by omega) (cells_out8 (by omega) (cells_out8 (by omega) HP7.out _ _) _ _) _ _) _ _) _ _) _ _) _ _) _ _), (cells_out8 (by omega) (cells_out8 (by omega) (cells_out8 (by omega) (cells_out8 (by omega) (cells_out8 (by omega) (cells_out8 (by omega) (cells_out8 (by omega) (cells_out8 (by omega) HQ7.out _ _) _ _) _ _) _ _) _ _) _ _) _ _) _ _)⟩
                 clear hK K
                 try simp only [Act.put, nm]
                 refine wpAnyH_done (by kernel_rfl) ?_ _
                 obtain ⟨w9, hw9⟩ : ∃ w9, (((((((((wq.setCell ⟨B, 6, none⟩ (.int .i64 z1)).setCell ⟨B, 7, none⟩ (.int .i64 v2)).setCell ⟨B, 8, none⟩ (.bool zc)).setCell ⟨B, 9, none⟩ (.bool vf)).setCell ⟨B, 10, none⟩ (.int .i64 v1)).setCell ⟨B, 11, none⟩ (.int .i64 z2)).setCell ⟨B, 12, none⟩ (.bool vc)).setCell ⟨B, 13, none⟩ (.bool zf))).drew = w9 := ⟨_, rfl⟩
                 have e0 := setCell_row HB7.out 6 (.int .i64 z1)
                 simp only [List.setIfInBounds_toArray, List.set_cons_zero, List.set_cons_succ] at e0
                 have e1 := setCell_row e0 7 (.int .i64 v2)
                 simp only [List.setIfInBounds_toArray, List.set_cons_zero, List.set_cons_succ] at e1
                 have e2 := setCell_row e1 8 (.bool zc)
                 simp only [List.setIfInBounds_toArray, List.set_cons_zero, List.set_cons_succ] at e2
                 have e3 := setCell_row e2 9 (.bool vf)
                 simp only [List.setIfInBounds_toArray, List.set_cons_zero, List.set_cons_succ] at e3
                 have e4 := setCell_row e3 10 (.int .i64 v1)
                 simp only [List.setIfInBounds_toArray, List.set_cons_zero, List.set_cons_succ] at e4
                 have e5 := setCell_row e4 11 (.int .i64 z2)
                 simp only [List.setIfInBounds_toArray, List.set_cons_zero, List.set_cons_succ] at e5
                 have e6 := setCell_row e5 12 (.bool vc)
                 simp only [List.setIfInBounds_toArray, List.set_cons_zero, List.set_cons_succ] at e6
                 have e7 := setCell_row e6 13 (.bool zf)
                 simp only [List.setIfInBounds_toArray, List.set_cons_zero, List.set_cons_succ] at e7
                 have HB9 : Hid (w9.heap[B]? = some (.cells (nodeC (.mk k o x s bb f ⟨(z1, v2), zc, vf⟩ ⟨(v1, z2), vc, zf⟩ l) (.slice a l.length cap)).toArray 49 (0, 0))) := by unfold Hid; rw [← hw9, hdr]; exact e7
                 clear e0 e1 e2 e3 e4 e5 e6 e7
                 have HR9 : Hid (w9.heap[B + 1]? = some (.cells #[.int .i64 0, .int .i64 0, .float .f64 0, .string ⟨#[]⟩, .bool false, .int .i64 0, .int .i64 0, .int .i64 0, .bool false, .bool false, .int .i64 0, .int .i64 0, .bool false, .bool false, .slice none 0 0] 49 (0, 0))) := by unfold Hid; rw [← hw9, hdr]; exact ((Below.heap_setCell _ _ _ _ (by simp)).trans ((Below.heap_setCell _ _ _ _ (by simp)).trans ((Below.heap_setCell _ _ _ _ (by simp)).trans ((Below.heap_setCell _ _ _ _ (by simp)).trans ((Below.heap_setCell _ _ _ _ (by simp)).trans ((Below.heap_setCell _ _ _ _ (by simp)).trans ((Below.heap_setCell _ _ _ _ (by simp)).trans ((Below.heap_setCell _ _ _ _ (by simp)).trans HB8.out))))))))
                 have HW9 : Hid (Wr (Hi B) wr w9) := by unfold Hid; rw [← hw9]; exact (((((((((HW7.out.trans (Wr.cell _ (show B ≤ B by omega))).trans (Wr.cell _ (show B ≤ B by omega))).trans (Wr.cell _ (show B ≤ B by omega))).trans (Wr.cell _ (show B ≤ B by omega))).trans (Wr.cell _ (show B ≤ B by omega))).trans (Wr.cell _ (show B ≤ B by omega))).trans (Wr.cell _ (show B ≤ B by omega))).trans (Wr.cell _ (show B ≤ B by omega))).trans (Wr.of_xt (Xt.refl _).drew))
                 rw [hw9]
                 clear hw9 d6 d7 d8 d9 d10 d11 d12 d13 g6 g7 g8 g9 g10 g11 g12 g13 hHeld hHeld3 hHeld5
                 go_wp2_with (first
                  | (refine wpList_load_row (P := Tryz.prog) rfl 49 _ rfl B rfl 49 _ (0, 0) _ HB9.out Tryz.underlying49 rfl (by kernel_rfl) ?_)
                  | (refine wpList_store_row (P := Tryz.prog) rfl 49 _ _ rfl (B + 1) _ rfl rfl 49 _ HR9.out (by kernel_rfl) (by kernel_rfl) (all_oneCell_toArray (nodeC_one (.mk k o x s bb f ⟨(z1, v2), zc, vf⟩ ⟨(v1, z2), vc, zf⟩ l) (.slice a l.length cap) rfl)) ?_))
                 (try simp only [Exit.inBlock, Exit.then])
                 refine bodyPost_ret (v := .agg (nodeC (.mk k o x s bb f ⟨(z1, v2), zc, vf⟩ ⟨(v1, z2), vc, zf⟩ l) (.slice a l.length cap)).toArray) (results_cell_row rfl _ _ (B + 1) 49 _ (0, 0) _ rfl (setRow_heap _ _ _ _ _ _ HR9.out) Tryz.underlying49 rfl (by kernel_rfl)) rfl ?_
                 have hTT : upT (shH cc rr) (.mk k o x s bb f ⟨(r1, r2), rc, rf⟩ ⟨(q1, q2), qc, qf⟩ l) = .mk k o x s bb f ⟨(z1, v2), zc, vf⟩ ⟨(v1, z2), vc, zf⟩ (l.map (upT (shH cc rr))) := by
                  rw [upT, upL_map, shH, if_neg (by rw [HK5.out]; decide), if_pos HK5.out, HZO.out, if_pos rfl, HVO.out, if_pos rfl, HZZ.out, HVV.out]
                  unfold loR hiR
                  have hc1 : ¬ v1 < z1 := by omega
                  have hc2 : v2 < z2 := by omega
                  simp only [if_neg hc1, if_pos hc2]
                 rw [hTT]
                 obtain ⟨f1, f2⟩ := fin_hi (W := w9.setRow (B + 1) (nodeC (.mk k o x s bb f ⟨(z1, v2), zc, vf⟩ ⟨(v1, z2), vc, zf⟩ l) (.slice a l.length cap)).toArray) HA'.out HWw.out HBw.out (fun b hb => by have := HS.out b hb; have := HBw.out; omega) (HW9.out.trans (Wr.row _ (show B ≤ B + 1 by omega)))
                 refine ⟨a, cap, ?_, ?_, f2⟩
                 · simp [nodeC, NodeT.args, NodeT.kind, NodeT.op, NodeT.x, NodeT.s, NodeT.b, NodeT.f, NodeT.ref, NodeT.to]
                 · simp only [NodeT.args, List.length_map]; exact f1
               · go_wp2_with fail
                 obtain ⟨wq, hwq⟩ : ∃ wq, wq = w6 := ⟨_, rfl⟩
                 have HP7 : Hid (wq.heap[P]? = some (.cells #[.int .i64 z1, .int .i64 z2, .bool zc, .bool zf] 46 (0, 0))) := by unfold Hid; rw [hwq]; exact (⟨HRP.out, HRQ.out⟩ : _ ∧ _).1
                 have HQ7 : Hid (wq.heap[Q]? = some (.cells #[.int .i64 v1, .int .i64 v2, .bool vc, .bool vf] 46 (0, 0))) := by unfold Hid; rw [hwq]; exact (⟨HRP.out, HRQ.out⟩ : _ ∧ _).2
                 have HB7 : Hid (wq.heap[B]? = some (.cells #[.int .i64 k, .int .i64 o, .float .f64 x, .string s, .bool bb, .int .i64 f, .int .i64 r1, .int .i64 r2, .bool rc, .bool rf, .int .i64 q1, .int .i64 q2, .bool qc, .bool qf, .slice a l.length cap] 49 (0, 0))) := by unfold Hid; rw [hwq]; exact (HEA.out _ HX6.out)
                 have HB8 : Hid (wq.heap[B + 1]? = some (.cells #[.int .i64 0, .int .i64 0, .float .f64 0, .string ⟨#[]⟩, .bool false, .int .i64 0, .int .i64 0, .int .i64 0, .bool false, .bool false, .int .i64 0, .int .i64 0, .bool false, .bool false, .slice none 0 0] 49 (0, 0))) := by unfold Hid; rw [hwq]; exact (HEB.out _ HX6.out)
                 have HW7 : Hid (Wr (Hi B) wr wq) := by unfold Hid; rw [hwq]; exact (Wr.of_xt HX6.out)
                 subst hwq
                 clear d0 d6 d7 d8 d9 d10 d11 d12 d13 g6 g7 g8 g9 g10 g11 g12 g13 p0 p1 p2 p3 u0 u1 u2 u3 n0 n1 n2 n3 o0 o1 o2 o3
                 obtain ⟨⟨d6, d7, d8, d9, d10, d11, d12, d13⟩, g6, g7, g8, g9, g10, g11, g12, g13⟩ := nodeRefs HB7.out
                 refine wp_region_held_drew (S := fun V => V.heap[P]? = some (.cells #[.int .i64 z1, .int .i64 z2, .bool zc, .bool zf] 46 (0, 0)) ∧ V.heap[Q]? = some (.cells #[.int .i64 v1, .int .i64 v2, .bool vc, .bool vf] 46 (0, 0))) (by kernel_rfl) ⟨HP7.out, HQ7.out⟩ (fun hHeld => ?_)
                 refine tkH 0 ?_ ?_ ?_
                 rotate_left
                 · intro V hSw; obtain ⟨p0, p1, p2, p3, _⟩ := cells4R hSw.1; obtain ⟨n0, n1, n2, n3, _⟩ := cells4R hSw.2; go_simp; first | done | with_reducible rfl
                 try simp only [Act.put, nm]
                 refine tkH 1 ?_ ?_ ?_
                 rotate_left
                 · intro V hSw; obtain ⟨p0, p1, p2, p3, _⟩ := cells4R hSw.1; obtain ⟨n0, n1, n2, n3, _⟩ := cells4R hSw.2; go_simp; first | done | with_reducible rfl
                 try simp only [Act.put, nm]
                 refine tkH 2 ?_ ?_ ?_
                 rotate_left
                 · intro V hSw; obtain ⟨p0, p1, p2, p3, _⟩ := cells4R hSw.1; obtain ⟨n0, n1, n2, n3, _⟩ := cells4R hSw.2; go_simp; first | done | with_reducible rfl
                 try simp only [Act.put, nm]
                 refine rdH 3 (fun K hK => ?_)
                 go_simp
                 refine hK.out _ _ ?_ (fun hHeld3 => ?_)
                 · rw [hdr]
                   exact ⟨(cells_out8 (by omega) (cells_out8 (by omega) (cells_out8 (by omega) (cells_out8 (by omega) HP7.out _ _) _ _) _ _) _ _), (cells_out8 (by omega) (cells_out8 (by omega) (cells_out8 (by omega) (cells_out8 (by omega) HQ7.out _ _) _ _) _ _) _ _)⟩
                 clear hK K
                 try simp only [Act.put, nm]
                 refine tkH 4 ?_ ?_ ?_
                 rotate_left
                 · intro V hSw; obtain ⟨p0, p1, p2, p3, _⟩ := cells4R hSw.1; obtain ⟨n0, n1, n2, n3, _⟩ := cells4R hSw.2; go_simp; first | done | with_reducible rfl
                 try simp only [Act.put, nm]
                 refine rdH 5 (fun K hK => ?_)
                 go_simp
                 refine hK.out _ _ ?_ (fun hHeld5 => ?_)
                 · rw [hdr]
                   exact ⟨(cells_out8 (by omega) (cells_out8 (by omega) (cells_out8 (by omega) (cells_out8 (by omega) (cells_out8 (by omega) (cells_out8 (by omega) (cells_out8 (by omega) (cells_out8 (by omega) HP7.out _ _) _ _) _ _) _ _) _ _) _ _) _ _) _ _), (cells_out8 (by omega) (cells_out8 (by omega) (cells_out8 (by omega) (cells_out8 (by omega) (cells_out8 (by omega) (cells_out8 (by omega) (cells_out8 (by omega) (cells_out8 (by omega) HQ7.out _ _) _ _) _ _) _ _) _ _) _ _) _ _) _ _)⟩
                 clear hK K
                 try simp only [Act.put, nm]
                 refine wpAnyH_done (by kernel_rfl) ?_ _
                 obtain ⟨w9, hw9⟩ : ∃ w9, (((((((((wq.setCell ⟨B, 6, none⟩ (.int .i64 z1)).setCell ⟨B, 7, none⟩ (.int .i64 z2)).setCell ⟨B, 8, none⟩ (.bool zc)).setCell ⟨B, 9, none⟩ (.bool zf)).setCell ⟨B, 10, none⟩ (.int .i64 v1)).setCell ⟨B, 11, none⟩ (.int .i64 v2)).setCell ⟨B, 12, none⟩ (.bool vc)).setCell ⟨B, 13, none⟩ (.bool vf))).drew = w9 := ⟨_, rfl⟩
                 have e0 := setCell_row HB7.out 6 (.int .i64 z1)
                 simp only [List.setIfInBounds_toArray, List.set_cons_zero, List.set_cons_succ] at e0
                 have e1 := setCell_row e0 7 (.int .i64 z2)
                 simp only [List.setIfInBounds_toArray, List.set_cons_zero, List.set_cons_succ] at e1
                 have e2 := setCell_row e1 8 (.bool zc)
                 simp only [List.setIfInBounds_toArray, List.set_cons_zero, List.set_cons_succ] at e2
                 have e3 := setCell_row e2 9 (.bool zf)
                 simp only [List.setIfInBounds_toArray, List.set_cons_zero, List.set_cons_succ] at e3
                 have e4 := setCell_row e3 10 (.int .i64 v1)
                 simp only [List.setIfInBounds_toArray, List.set_cons_zero, List.set_cons_succ] at e4
                 have e5 := setCell_row e4 11 (.int .i64 v2)
                 simp only [List.setIfInBounds_toArray, List.set_cons_zero, List.set_cons_succ] at e5
                 have e6 := setCell_row e5 12 (.bool vc)
                 simp only [List.setIfInBounds_toArray, List.set_cons_zero, List.set_cons_succ] at e6
                 have e7 := setCell_row e6 13 (.bool vf)
                 simp only [List.setIfInBounds_toArray, List.set_cons_zero, List.set_cons_succ] at e7
                 have HB9 : Hid (w9.heap[B]? = some (.cells (nodeC (.mk k o x s bb f ⟨(z1, z2), zc, zf⟩ ⟨(v1, v2), vc, vf⟩ l) (.slice a l.length cap)).toArray 49 (0, 0))) := by unfold Hid; rw [← hw9, hdr]; exact e7
                 clear e0 e1 e2 e3 e4 e5 e6 e7
                 have HR9 : Hid (w9.heap[B + 1]? = some (.cells #[.int .i64 0, .int .i64 0, .float .f64 0, .string ⟨#[]⟩, .bool false, .int .i64 0, .int .i64 0, .int .i64 0, .bool false, .bool false, .int .i64 0, .int .i64 0, .bool false, .bool false, .slice none 0 0] 49 (0, 0))) := by unfold Hid; rw [← hw9, hdr]; exact ((Below.heap_setCell _ _ _ _ (by simp)).trans ((Below.heap_setCell _ _ _ _ (by simp)).trans ((Below.heap_setCell _ _ _ _ (by simp)).trans ((Below.heap_setCell _ _ _ _ (by simp)).trans ((Below.heap_setCell _ _ _ _ (by simp)).trans ((Below.heap_setCell _ _ _ _ (by simp)).trans ((Below.heap_setCell _ _ _ _ (by simp)).trans ((Below.heap_setCell _ _ _ _ (by simp)).trans HB8.out))))))))
                 have HW9 : Hid (Wr (Hi B) wr w9) := by unfold Hid; rw [← hw9]; exact (((((((((HW7.out.trans (Wr.cell _ (show B ≤ B by omega))).trans (Wr.cell _ (show B ≤ B by omega))).trans (Wr.cell _ (show B ≤ B by omega))).trans (Wr.cell _ (show B ≤ B by omega))).trans (Wr.cell _ (show B ≤ B by omega))).trans (Wr.cell _ (show B ≤ B by omega))).trans (Wr.cell _ (show B ≤ B by omega))).trans (Wr.cell _ (show B ≤ B by omega))).trans (Wr.of_xt (Xt.refl _).drew))
                 rw [hw9]
                 clear hw9 d6 d7 d8 d9 d10 d11 d12 d13 g6 g7 g8 g9 g10 g11 g12 g13 hHeld hHeld3 hHeld5
                 go_wp2_with (first
                  | (refine wpList_load_row (P := Tryz.prog) rfl 49 _ rfl B rfl 49 _ (0, 0) _ HB9.out Tryz.underlying49 rfl (by kernel_rfl) ?_)
                  | (refine wpList_store_row (P := Tryz.prog) rfl 49 _ _ rfl (B + 1) _ rfl rfl 49 _ HR9.out (by kernel_rfl) (by kernel_rfl) (all_oneCell_toArray (nodeC_one (.mk k o x s bb f ⟨(z1, z2), zc, zf⟩ ⟨(v1, v2), vc, vf⟩ l) (.slice a l.length cap) rfl)) ?_))
                 (try simp only [Exit.inBlock, Exit.then])
                 refine bodyPost_ret (v := .agg (nodeC (.mk k o x s bb f ⟨(z1, z2), zc, zf⟩ ⟨(v1, v2), vc, vf⟩ l) (.slice a l.length cap)).toArray) (results_cell_row rfl _ _ (B + 1) 49 _ (0, 0) _ rfl (setRow_heap _ _ _ _ _ _ HR9.out) Tryz.underlying49 rfl (by kernel_rfl)) rfl ?_
                 have hTT : upT (shH cc rr) (.mk k o x s bb f ⟨(r1, r2), rc, rf⟩ ⟨(q1, q2), qc, qf⟩ l) = .mk k o x s bb f ⟨(z1, z2), zc, zf⟩ ⟨(v1, v2), vc, vf⟩ (l.map (upT (shH cc rr))) := by
                  rw [upT, upL_map, shH, if_neg (by rw [HK5.out]; decide), if_pos HK5.out, HZO.out, if_pos rfl, HVO.out, if_pos rfl, HZZ.out, HVV.out]
                  unfold loR hiR
                  have hc1 : ¬ v1 < z1 := by omega
                  have hc2 : ¬ v2 < z2 := by omega
                  simp only [if_neg hc1, if_neg hc2]
                 rw [hTT]
                 obtain ⟨f1, f2⟩ := fin_hi (W := w9.setRow (B + 1) (nodeC (.mk k o x s bb f ⟨(z1, z2), zc, zf⟩ ⟨(v1, v2), vc, vf⟩ l) (.slice a l.length cap)).toArray) HA'.out HWw.out HBw.out (fun b hb => by have := HS.out b hb; have := HBw.out; omega) (HW9.out.trans (Wr.row _ (show B ≤ B + 1 by omega)))
                 refine ⟨a, cap, ?_, ?_, f2⟩
                 · simp [nodeC, NodeT.args, NodeT.kind, NodeT.op, NodeT.x, NodeT.s, NodeT.b, NodeT.f, NodeT.ref, NodeT.to]
                 · simp only [NodeT.args, List.length_map]; exact f1
     · have h5 : k ≠ 5 := fun e => h56 (Or.inl e)
       have h6 : k ≠ 6 := fun e => h56 (Or.inr e)
       have h5b : (k != 5) = true := by simpa using h5
       have h6b : (k != 6) = true := by simpa using h6
       clear h56
       go_wp2_with (first
        | (refine wpList_load_row (P := Tryz.prog) rfl 49 _ rfl B rfl 49 _ (0, 0) _ HRBr.out Tryz.underlying49 rfl (by kernel_rfl) ?_)
        | (refine wpList_store_row (P := Tryz.prog) rfl 49 _ _ rfl (B + 1) _ rfl rfl 49 _ HRRr.out (by kernel_rfl) (by kernel_rfl) (all_oneCell_toArray (nodeC_one (.mk k o x s bb f ⟨(r1, r2), rc, rf⟩ ⟨(q1, q2), qc, qf⟩ l) (.slice a l.length cap) rfl)) ?_))
       (try simp only [Exit.inBlock, Exit.then])
       refine bodyPost_ret (v := .agg (nodeC (.mk k o x s bb f ⟨(r1, r2), rc, rf⟩ ⟨(q1, q2), qc, qf⟩ l) (.slice a l.length cap)).toArray) (results_cell_row rfl _ _ (B + 1) 49 _ (0, 0) _ rfl (setRow_heap _ _ _ _ _ _ HRRr.out) Tryz.underlying49 rfl (by kernel_rfl)) rfl ?_
       have hTT : upT (shH cc rr) (.mk k o x s bb f ⟨(r1, r2), rc, rf⟩ ⟨(q1, q2), qc, qf⟩ l) = .mk k o x s bb f ⟨(r1, r2), rc, rf⟩ ⟨(q1, q2), qc, qf⟩ (l.map (upT (shH cc rr))) := by rw [upT, upL_map]; simp [shH, h5, h6]
       rw [hTT]
       obtain ⟨f1, f2⟩ := fin_hi (W := wr.setRow (B + 1) (nodeC (.mk k o x s bb f ⟨(r1, r2), rc, rf⟩ ⟨(q1, q2), qc, qf⟩ l) (.slice a l.length cap)).toArray) HA'.out HWw.out HBw.out (fun b hb => by have := HS.out b hb; have := HBw.out; omega) (Wr.row _ (by show B ≤ B + 1; omega))
       refine ⟨a, cap, ?_, ?_, f2⟩
       · simp [nodeC, NodeT.args, NodeT.kind, NodeT.op, NodeT.x, NodeT.s, NodeT.b, NodeT.f, NodeT.ref, NodeT.to]
       · simp only [NodeT.args, List.length_map]; exact f1
end Go.Proofs.YtdoeejhdenifpaaGreatDoor
namespace Go.Proofs.YtdoeejhdenifpaaGreatDoor
open Go.RowKit Go.Sort
def fullB (M : GM) (a : Ad) : Bool := !(lkM a M).isSome && decide (4096 ≤ M.length)
def putCode (M : GM) (a : Ad) (c : ContT) : Int := if gvalidB c = false then 1 else if validB a.1 a.2 = false then 20 else if (c.kind == 0) = true then 0 else if fullB M a = true then 41 else 0
def putTo (M : GM) (a : Ad) (c : ContT) (x : Option Addr) : GM := if gvalidB c = false then M else if validB a.1 a.2 = false then M else if (c.kind == 0) = true then delM a M else if fullB M a = true then M else setM a (copyC c, x) M
def PutR (w : World) (gb mb : Nat) (M : GM) (a : Ad) (c : ContT) (e : Ending) (w' : World) : Prop := ∃ x, e = .returned (.int .i64 (putCode M a c)) ∧ GridIs w' gb mb (putTo M a c x) ∧ w.grownBy w' (some mb)
mutual
theorem smallT_copy : ∀ t, smallT t → smallT (copyT t)
 | .mk k op x s b f r q args, h => by simp only [copyT, smallT] at h ⊢; exact ⟨by rw [copyL_map]; simpa using h.1, smallL_copy args h.2⟩
theorem smallL_copy : ∀ l, smallL l → smallL (copyL l)
 | [], h => h
 | t :: l, h => by simp only [copyL, smallL] at h ⊢; exact ⟨smallT_copy t h.1, smallL_copy l h.2⟩
end
structure PutW (w w3 : World) (gb mb : Nat) (E : List (Ad × Value)) (a : Ad) (c : ContT) (ca : Option Addr) (cap : Nat) : Prop where
 xt : Xt w w3
 at_ : w3.heap[w.heap.size]? = some (.cells #[.int .i64 a.1, .int .i64 a.2] 24 (0, 0))
 con : w3.heap[w.heap.size + 1]? = some (.cells #[.int .i64 c.kind, .int .i64 c.v.kind, .float .f64 c.v.x, .string c.v.s, .bool c.v.b, .int .i64 c.v.f, .int .i64 c.t.kind, .int .i64 c.t.op, .float .f64 c.t.x, .string c.t.s, .bool c.t.b, .int .i64 c.t.f, .int .i64 c.t.ref.a.1, .int .i64 c.t.ref.a.2, .bool c.t.ref.cf, .bool c.t.ref.rf, .int .i64 c.t.to.a.1, .int .i64 c.t.to.a.2, .bool c.t.to.cf, .bool c.t.to.rf, .slice ca c.t.args.length cap] 51 (0, 0))
 cell : w3.cell? ⟨gb, 0, none⟩ = some (.map (some mb))
 map : MapIs w3 mb E
theorem PutW.step {w w3 w4 : World} {gb mb : Nat} {E : List (Ad × Value)} {a : Ad} {c : ContT} {ca : Option Addr} {cap : Nat} (h : PutW w w3 gb mb E a c ca cap) (hx : Xt w3 w4) : PutW w w4 gb mb E a c ca cap :=
 ⟨h.xt.trans hx, (hx.block _ (Array.getElem?_eq_some_iff.1 h.at_).1).trans h.at_, (hx.block _ (Array.getElem?_eq_some_iff.1 h.con).1).trans h.con, hx.cellsIn _ _ _ h.cell, h.map.of_heap (hx.block mb h.map.lt)⟩
theorem PutW.ad {w w3 : World} {gb mb : Nat} {E : List (Ad × Value)} {a : Ad} {c : ContT} {ca : Option Addr} {cap : Nat} (h : PutW w w3 gb mb E a c ca cap) : w3.cell? ⟨w.heap.size, 0, none⟩ = some (.int .i64 a.1) ∧ w3.cell? ⟨w.heap.size, 1, none⟩ = some (.int .i64 a.2) := by
 have := h.at_
 constructor <;> simp [World.cell?, this]
theorem PutW.kind {w w3 : World} {gb mb : Nat} {E : List (Ad × Value)} {a : Ad} {c : ContT} {ca : Option Addr} {cap : Nat} (h : PutW w w3 gb mb E a c ca cap) : w3.cell? ⟨w.heap.size + 1, 0, none⟩ = some (.int .i64 c.kind) := by
 have := h.con
 simp [World.cell?, this]
theorem put_start {w : World} {gb mb : Nat} {M : GM} (h : GridIs w gb mb M) (a : Ad) (c : ContT) (ca : Option Addr) (cap : Nat) : ∃ E, (∀ a, lk a E = (lkM a M).map ceV) ∧ ∃ w1, (w.alloc (.cells #[.int .i64 a.1, .int .i64 a.2] 24)).alloc (.cells #[.int .i64 c.kind, .int .i64 c.v.kind, .float .f64 c.v.x, .string c.v.s, .bool c.v.b, .int .i64 c.v.f, .int .i64 c.t.kind, .int .i64 c.t.op, .float .f64 c.t.x, .string c.t.s, .bool c.t.b, .int .i64 c.t.f, .int .i64 c.t.ref.a.1, .int .i64 c.t.ref.a.2, .bool c.t.ref.cf, .bool c.t.ref.rf, .int .i64 c.t.to.a.1, .int .i64 c.t.to.a.2, .bool c.t.to.cf, .bool c.t.to.rf, .slice ca c.t.args.length cap] 51) = w1 ∧ PutW w w1 gb mb E a c ca cap := by
 obtain ⟨E, hm, he⟩ := h.map
 refine ⟨E, he, _, rfl, ?_⟩
 have hx : Xt w ((w.alloc (.cells #[.int .i64 a.1, .int .i64 a.2] 24)).alloc (.cells #[.int .i64 c.kind, .int .i64 c.v.kind, .float .f64 c.v.x, .string c.v.s, .bool c.v.b, .int .i64 c.v.f, .int .i64 c.t.kind, .int .i64 c.t.op, .float .f64 c.t.x, .string c.t.s, .bool c.t.b, .int .i64 c.t.f, .int .i64 c.t.ref.a.1, .int .i64 c.t.ref.a.2, .bool c.t.ref.cf, .bool c.t.ref.rf, .int .i64 c.t.to.a.1, .int .i64 c.t.to.a.2, .bool c.t.to.cf, .bool c.t.to.rf, .slice ca c.t.args.length cap] 51)) := ((Xt.refl w).alloc _).alloc _
 refine ⟨hx, ?_, ?_, hx.cellsIn _ _ _ h.cell, hm.of_heap (hx.block mb hm.lt)⟩
 · exact (Below.heap_alloc _ _ _ (by simp)).trans (MapKept.heap_alloc w _).1
 · have := (MapKept.heap_alloc (w.alloc (.cells #[.int .i64 a.1, .int .i64 a.2] 24)) (.cells #[.int .i64 c.kind, .int .i64 c.v.kind, .float .f64 c.v.x, .string c.v.s, .bool c.v.b, .int .i64 c.v.f, .int .i64 c.t.kind, .int .i64 c.t.op, .float .f64 c.t.x, .string c.t.s, .bool c.t.b, .int .i64 c.t.f, .int .i64 c.t.ref.a.1, .int .i64 c.t.ref.a.2, .bool c.t.ref.cf, .bool c.t.ref.rf, .int .i64 c.t.to.a.1, .int .i64 c.t.to.a.2, .bool c.t.to.cf, .bool c.t.to.rf, .slice ca c.t.args.length cap] 51)).1
   simpa using this
set_option maxRecDepth 100000 in
set_option maxHeartbeats 4000000 in
theorem gput_inv (n : Nat) (gb mb : Nat) (M : GM) (a : Ad) (c : ContT) (ca : Option Addr) (cap : Nat) (w : World) (h : GridIs w gb mb M) (hok : c.ok) (hT : Tabs w) (hsm : smallT c.t) (hin : ArgsIn w n (.slice ca c.t.args.length cap) c.t.args) (hb : gvalidB c = false) : Calls Tryz.prog 25 #[.pointer (some ⟨gb, 0, none⟩), .agg #[.int .i64 a.1, .int .i64 a.2], contV c ca c.t.args.length cap] w fun e w' => e = .returned (.int .i64 1) ∧ Xt w w' := by
 have H := Lib.hid h
 obtain ⟨E, he, w1, hw1, hP1⟩ := put_start h a c ca cap
 have HE := Lib.hid he
 have HP1 := Lib.hid hP1
 have HLM : Hid (E.length = M.length) := Lib.hid ((H.out.xt hP1.xt).len hP1.map he)
 have HIN := Lib.hid hin
 have HSM := Lib.hid hsm
 have HV := Lib.hid (gvalid_any n c ca cap w1 hok (hT.xt hP1.xt) (hin.xt hP1.xt))
 clear h he hP1 hin hsm hok hT
 have HB := Lib.hid hb
 clear hb
 go_enter Tryz.func25, Tryz.ntmps25
 go_wp2_with (first
  | (refine HV.out.mono ?_; rintro e w2 ⟨rfl, hx2⟩; rw [HB.out]; have HP2 := Lib.hid (HP1.out.step hx2); have hc2 := HP2.out.cell; obtain ⟨d0, d1⟩ := HP2.out.ad;  clear hx2)
  | (refine BigFrame.wpList_want (by rfl) (fun K hK => wp_load_row 51 _ rfl (w.heap.size + 1) rfl 51 _ (0, 0) _ HP1.out.con Tryz.underlying51 rfl (by kernel_rfl) (hK _ _ ?_)); clear hK K))
 go_ret
 exact ⟨rfl, HP2.out.xt⟩
set_option maxRecDepth 100000 in
set_option maxHeartbeats 4000000 in
theorem gput_ad (n : Nat) (gb mb : Nat) (M : GM) (a : Ad) (c : ContT) (ca : Option Addr) (cap : Nat) (w : World) (h : GridIs w gb mb M) (hok : c.ok) (hT : Tabs w) (hsm : smallT c.t) (hin : ArgsIn w n (.slice ca c.t.args.length cap) c.t.args) (hb : gvalidB c = true) (hb2 : validB a.1 a.2 = false) : Calls Tryz.prog 25 #[.pointer (some ⟨gb, 0, none⟩), .agg #[.int .i64 a.1, .int .i64 a.2], contV c ca c.t.args.length cap] w fun e w' => e = .returned (.int .i64 20) ∧ Xt w w' := by
 have H := Lib.hid h
 obtain ⟨E, he, w1, hw1, hP1⟩ := put_start h a c ca cap
 have HE := Lib.hid he
 have HP1 := Lib.hid hP1
 have HLM : Hid (E.length = M.length) := Lib.hid ((H.out.xt hP1.xt).len hP1.map he)
 have HIN := Lib.hid hin
 have HSM := Lib.hid hsm
 have HV := Lib.hid (gvalid_any n c ca cap w1 hok (hT.xt hP1.xt) (hin.xt hP1.xt))
 clear h he hP1 hin hsm hok hT
 have HB := Lib.hid hb
 have HB2 := Lib.hid hb2
 clear hb hb2
 go_enter Tryz.func25, Tryz.ntmps25
 go_wp2_with (first
  | (refine HV.out.mono ?_; rintro e w2 ⟨rfl, hx2⟩; rw [HB.out]; have HP2 := Lib.hid (HP1.out.step hx2); have hc2 := HP2.out.cell; obtain ⟨d0, d1⟩ := HP2.out.ad;  clear hx2)
  | (refine (valid_gr a.1 a.2 w2).mono ?_; rintro e w3 ⟨rfl, hg3⟩; rw [HB2.out]; have HP3 := Lib.hid (HP2.out.step hg3.xt); have hc3 := HP3.out.cell; obtain ⟨p0, p1⟩ := HP3.out.ad; have k3 := HP3.out.kind; clear hg3)
  | (refine BigFrame.wpList_want (by rfl) (fun K hK => wp_load_row 51 _ rfl (w.heap.size + 1) rfl 51 _ (0, 0) _ HP1.out.con Tryz.underlying51 rfl (by kernel_rfl) (hK _ _ ?_)); clear hK K))
 go_ret
 exact ⟨rfl, HP3.out.xt⟩
set_option maxRecDepth 100000 in
set_option maxHeartbeats 4000000 in
theorem gput_del (n : Nat) (gb mb : Nat) (M : GM) (a : Ad) (c : ContT) (ca : Option Addr) (cap : Nat) (w : World) (h : GridIs w gb mb M) (hok : c.ok) (hT : Tabs w) (hsm : smallT c.t) (hin : ArgsIn w n (.slice ca c.t.args.length cap) c.t.args) (hb : gvalidB c = true) (hb2 : validB a.1 a.2 = true) (hk : (c.kind == 0) = true) : Calls Tryz.prog 25 #[.pointer (some ⟨gb, 0, none⟩), .agg #[.int .i64 a.1, .int .i64 a.2], contV c ca c.t.args.length cap] w fun e w' => e = .returned (.int .i64 0) ∧ GridIs w' gb mb (delM a M) ∧ w.grownBy w' (some mb) := by
 have H := Lib.hid h
 obtain ⟨E, he, w1, hw1, hP1⟩ := put_start h a c ca cap
 have HE := Lib.hid he
 have HP1 := Lib.hid hP1
 have HLM : Hid (E.length = M.length) := Lib.hid ((H.out.xt hP1.xt).len hP1.map he)
 have HIN := Lib.hid hin
 have HSM := Lib.hid hsm
 have HV := Lib.hid (gvalid_any n c ca cap w1 hok (hT.xt hP1.xt) (hin.xt hP1.xt))
 clear h he hP1 hin hsm hok hT
 have HB := Lib.hid hb
 have HB2 := Lib.hid hb2
 clear hb hb2
 go_enter Tryz.func25, Tryz.ntmps25
 go_wp2_with (first
  | (refine HV.out.mono ?_; rintro e w2 ⟨rfl, hx2⟩; rw [HB.out]; have HP2 := Lib.hid (HP1.out.step hx2); have hc2 := HP2.out.cell; obtain ⟨d0, d1⟩ := HP2.out.ad;  clear hx2)
  | (refine (valid_gr a.1 a.2 w2).mono ?_; rintro e w3 ⟨rfl, hg3⟩; rw [HB2.out]; have HP3 := Lib.hid (HP2.out.step hg3.xt); have hc3 := HP3.out.cell; obtain ⟨p0, p1⟩ := HP3.out.ad; have k3 := HP3.out.kind; clear hg3)
  | (refine BigFrame.wpList_want (by rfl) (fun K hK => wp_load_row 51 _ rfl (w.heap.size + 1) rfl 51 _ (0, 0) _ HP1.out.con Tryz.underlying51 rfl (by kernel_rfl) (hK _ _ ?_)); clear hK K))
 refine wp_region_still_tail 5 (by kernel_rfl) (by kernel_rfl) ?_
 change wpStill _ _ (World.drew _) _ _ _
 simp only [List.take_succ_cons, List.take_zero, List.drop_succ_cons, List.drop_zero]
 still_step
 still_step
 still_step
 still_step
 still_step
 refine wpStill_nil ?_
 change wpList _ _ _ _ _ (World.drew _)
 refine wpList_delete_it _ rfl _ _ 100 24 24 51 rfl adrKey Tryz.underlying100 mb E rfl a.1 a.2 rfl (by exact HP3.out.map) ?_
 intro w4 hm4 hg4 hs4
 have HM4 := Lib.hid hm4
 have HG4 := Lib.hid hg4
 clear hm4 hg4
 go_wp2_with fail
 go_ret
 have hg4' : w3.grownBy w4 (some mb) := ⟨HG4.out.os, HG4.out.tape, HG4.out.output, HG4.out.size, HG4.out.block⟩
 refine ⟨rfl, H.out.del (HP3.out.xt.cellsIn.trans (CellsIn.of_grown HP3.out.map hg4')) HE.out rfl HM4.out, ?_⟩
 have hx := HP3.out.xt
 exact ⟨hg4'.os.trans hx.os, hg4'.tape.trans hx.tape, hg4'.output.trans hx.output, Nat.le_trans hx.size hg4'.size, fun k hk hne => (hg4'.block k (Nat.lt_of_lt_of_le hk hx.size) hne).trans (hx.block k hk)⟩
end Go.Proofs.YtdoeejhdenifpaaGreatDoor
/- What a copy has is valid as what it was copied from. -/
namespace Go.Proofs.YtdoeejhdenifpaaGreatDoor
open Go.RowKit Go.Sort
theorem nan_nan : (FloatKind.format .f64).order 9221120237041090560 9221120237041090560 != some .eq := by decide +kernel
theorem one_cases (x : Nat) : oneX x = x ∨ (oneX x = 9221120237041090560 ∧ ((FloatKind.format .f64).order x x != some .eq) = true) := by
 unfold oneX
 cases h : ((FloatKind.format .f64).order x x != some .eq)
 · exact Or.inl rfl
 · exact Or.inr ⟨rfl, rfl⟩
theorem oneX_idem (x : Nat) : oneX (oneX x) = oneX x := by
 rcases one_cases x with h | ⟨h, _⟩
 · rw [h, h]
 · rw [h]; unfold oneX; rw [if_pos nan_nan]
theorem classX_one (x : Nat) : classX (oneX x) = classX x := by
 rcases one_cases x with h | ⟨h, h2⟩
 · rw [h]
 · rw [h]
   have e1 : classX 9221120237041090560 = 1 := by unfold classX ordX; rw [if_pos nan_nan]
   have e2 : classX x = 1 := by unfold classX ordX; rw [if_pos h2]
   rw [e1, e2]
theorem beq_of_bne {a : Option Ordering} (h : (a != some .eq) = true) : (a == some .eq) = false := by
 cases a with
 | none => rfl
 | some o => cases o <;> first | rfl | (exact absurd h (by decide))
theorem negX_one (x : Nat) : negX (oneX x) = negX x := by
 rcases one_cases x with h | ⟨h, h2⟩
 · rw [h]
 · rw [h]; unfold negX; rw [beq_of_bne h2, beq_of_bne nan_nan, Bool.false_and, Bool.false_and]
theorem zero_zero : ((FloatKind.format .f64).order 0 0 != some .eq) = false := by decide +kernel
theorem oneX_zero (x : Nat) : oneX x = 0 ↔ x = 0 := by
 rcases one_cases x with h | ⟨h, h2⟩
 · rw [h]
 · rw [h]
   constructor
   · intro e; exact absurd e (by decide)
   · rintro rfl; rw [zero_zero] at h2; cases h2
mutual
theorem copyT_idem : ∀ t : NodeT, copyT (copyT t) = copyT t
 | .mk k op x s b f r q args => by simp only [copyT, oneX_idem, copyL_idem args]
theorem copyL_idem : ∀ l : List NodeT, copyL (copyL l) = copyL l
 | [] => rfl
 | t :: r => by simp only [copyL, copyT_idem t, copyL_idem r]
end
theorem copyL_len (l : List NodeT) : (copyL l).length = l.length := by rw [copyL_map]; simp
mutual
theorem measT_copy : ∀ t : NodeT, measT (copyT t) = measT t
 | .mk k op x s b f r q args => by simp only [copyT, measT, measL_copy args]
theorem measL_copy : ∀ (l : List NodeT) (n d : Int), measL (copyL l) n d = measL l n d
 | [], n, d => rfl
 | t :: r, n, d => by simp only [copyL, measL, measT_copy t, measL_copy r]
end
theorem alike_iff (t u : NodeT) : alikeB t u = true ↔ t.kind = u.kind ∧ t.op = u.op ∧ ((oneX t.x : Nat) : Int) = ((oneX u.x : Nat) : Int) ∧ t.s.toList = u.s.toList ∧ t.b = u.b ∧ t.f = u.f ∧ refB t.ref u.ref = true ∧ refB t.to u.to = true := by
 unfold alikeB
 simp only [Bool.and_eq_true, decide_eq_true_eq, and_assoc]
theorem alikeB_x (k op : Int) (x y : Nat) (s : ByteArray) (b : Bool) (f : Int) (r q : RefT) (args : List NodeT) (t : NodeT) (h : oneX x = oneX y) : alikeB t (.mk k op x s b f r q args) = alikeB t (.mk k op y s b f r q args) := by
 rw [Bool.eq_iff_iff, alike_iff, alike_iff]
 show (_ ∧ _ ∧ _ = ((oneX x : Nat) : Int) ∧ _) ↔ (_ ∧ _ ∧ _ = ((oneX y : Nat) : Int) ∧ _)
 rw [h]; exact Iff.rfl
theorem alikeB_l (k op : Int) (x y : Nat) (s : ByteArray) (b : Bool) (f : Int) (r q : RefT) (a1 a2 : List NodeT) (t : NodeT) (h : oneX x = oneX y) : alikeB (.mk k op x s b f r q a1) t = alikeB (.mk k op y s b f r q a2) t := by
 rw [Bool.eq_iff_iff, alike_iff, alike_iff]
 show (_ ∧ _ ∧ ((oneX x : Nat) : Int) = _ ∧ _) ↔ (_ ∧ _ ∧ ((oneX y : Nat) : Int) = _ ∧ _)
 rw [h]; exact Iff.rfl
theorem madeB_copy (t : NodeT) : madeB (copyT t) = madeB t := by
 obtain ⟨k, op, x, s, b, f, r, q, args⟩ := t
 have hl := fun u => alikeB_l k op (oneX x) x s b f r q (copyL args) args u (oneX_idem x)
 simp only [copyT, madeB, classX_one, negX_one, copyL_len, hl]
 rw [alikeB_x 1 0 (oneX x) x ⟨#[]⟩ false 0 zR zR [] _ (oneX_idem x)]
mutual
theorem faultT_copy : ∀ (t : NodeT) (i : Bool), faultT (copyT t) i = faultT t i
 | .mk k op x s b f r q args, i => by
  have hm := madeB_copy (.mk k op x s b f r q args)
  simp only [copyT] at hm ⊢
  rw [faultT, faultT, hm, faultL_copy args, copyL_len]
theorem faultL_copy : ∀ (l : List NodeT) (c : Bool), faultL (copyL l) c = faultL l c
 | [], c => rfl
 | t :: r, c => by rw [copyL, faultL, faultL, faultT_copy t, faultL_copy r]
end
theorem checkT_copy (t : NodeT) : checkT (copyT t) = checkT t := by unfold checkT; rw [measT_copy, faultT_copy]
theorem dec_one (x : Nat) : decide (((oneX x : Nat) : Int) = 0) = decide ((x : Int) = 0) := by
 have h := oneX_zero x
 rw [decide_eq_decide]; omega
theorem noNodeB_copy (t : NodeT) : noNodeB (copyT t) = noNodeB t := by
 unfold noNodeB
 rw [copyT_kind, copyT_op, copyT_x, copyT_s, copyT_b, copyT_f, copyT_ref, copyT_to, copyT_len, dec_one]
theorem noValB_copy (v : ValT) : noValB { v with x := oneX v.x } = noValB v := by unfold noValB; simp only [dec_one]
theorem vvalidB_copy (v : ValT) : vvalidB { v with x := oneX v.x } = vvalidB v := by unfold vvalidB restB; simp only [dec_one]
theorem gvalidB_copy (c : ContT) : gvalidB (copyC c) = gvalidB c := by
 unfold gvalidB copyC
 simp only [noValB_copy, noNodeB_copy, vvalidB_copy, checkT_copy]
theorem copyC_idem (c : ContT) : copyC (copyC c) = copyC c := by unfold copyC; simp only [oneX_idem, copyT_idem]
theorem oneX_lt {x : Nat} (h : x < 18446744073709551616) : oneX x < 18446744073709551616 := by unfold oneX; split <;> omega
mutual
theorem okT_copy : ∀ t : NodeT, t.ok → (copyT t).ok
 | .mk k op x s b f r q args, h => by simp only [copyT, NodeT.ok] at h ⊢; exact ⟨h.1, oneX_lt h.2.1, okL_copy args h.2.2⟩
theorem okL_copy : ∀ l : List NodeT, okL l → okL (copyL l)
 | [], h => h
 | t :: r, h => by simp only [copyL, okL] at h ⊢; exact ⟨okT_copy t h.1, okL_copy r h.2⟩
end
theorem okC_copy {c : ContT} (h : c.ok) : (copyC c).ok := ⟨h.1, okT_copy _ h.2.1, oneX_lt h.2.2⟩
end Go.Proofs.YtdoeejhdenifpaaGreatDoor
namespace Go.Proofs.YtdoeejhdenifpaaGreatDoor
open Go.RowKit Go.Sort
set_option maxRecDepth 100000 in
set_option maxHeartbeats 4000000 in
theorem gput_full (n : Nat) (gb mb : Nat) (M : GM) (a : Ad) (c : ContT) (ca : Option Addr) (cap : Nat) (w : World) (h : GridIs w gb mb M) (hok : c.ok) (hT : Tabs w) (hsm : smallT c.t) (hin : ArgsIn w n (.slice ca c.t.args.length cap) c.t.args) (hb : gvalidB c = true) (hb2 : validB a.1 a.2 = true) (hk : (c.kind == 0) = false) (his : (lkM a M).isSome = false) (hfu : fullB M a = true) : Calls Tryz.prog 25 #[.pointer (some ⟨gb, 0, none⟩), .agg #[.int .i64 a.1, .int .i64 a.2], contV c ca c.t.args.length cap] w fun e w' => e = .returned (.int .i64 41) ∧ Xt w w' := by
 have H := Lib.hid h
 obtain ⟨E, he, w1, hw1, hP1⟩ := put_start h a c ca cap
 have HE := Lib.hid he
 have HP1 := Lib.hid hP1
 have HLM : Hid (E.length = M.length) := Lib.hid ((H.out.xt hP1.xt).len hP1.map he)
 have HIN := Lib.hid hin
 have HSM := Lib.hid hsm
 have HV := Lib.hid (gvalid_any n c ca cap w1 hok (hT.xt hP1.xt) (hin.xt hP1.xt))
 clear h he hP1 hin hsm hok hT
 have HIS : Hid ((lk a E).isSome = false) := by have h0 := HE.out a; rw [h0, Option.isSome_map]; exact his
 obtain ⟨⟨X, xa⟩, hX⟩ : ∃ x, (lkM a M).getD (zeroC, none) = x := ⟨_, rfl⟩
 have HX : Hid ((lk a E).getD (contV zeroC none 0 0) = contV X xa X.t.args.length X.t.args.length) := by rw [HE.out]; revert hX; cases lkM a M <;> (intro hX; cases hX; rfl)
 have HLE : Hid (4096 ≤ M.length) := Lib.hid (by unfold fullB at hfu; rw [his] at hfu; simpa using hfu)
 clear hfu his hX
 have HB := Lib.hid hb
 have HB2 := Lib.hid hb2
 clear hb hb2
 go_enter Tryz.func25, Tryz.ntmps25
 go_wp2_with (first
  | (refine HV.out.mono ?_; rintro e w2 ⟨rfl, hx2⟩; rw [HB.out]; have HP2 := Lib.hid (HP1.out.step hx2); have hc2 := HP2.out.cell; obtain ⟨d0, d1⟩ := HP2.out.ad;  clear hx2)
  | (refine (valid_gr a.1 a.2 w2).mono ?_; rintro e w3 ⟨rfl, hg3⟩; rw [HB2.out]; have HP3 := Lib.hid (HP2.out.step hg3.xt); have hc3 := HP3.out.cell; obtain ⟨p0, p1⟩ := HP3.out.ad; have k3 := HP3.out.kind; clear hg3)
  | (refine BigFrame.wpList_want (by rfl) (fun K hK => wp_load_row 51 _ rfl (w.heap.size + 1) rfl 51 _ (0, 0) _ HP1.out.con Tryz.underlying51 rfl (by kernel_rfl) (hK _ _ ?_)); clear hK K))
 have HL : Hid (∀ w', MapIs w' mb E → (Instr.lookup 100 (.map (some mb)) (.agg #[.int .i64 a.1, .int .i64 a.2]) true).run Tryz.prog w' = .ok (.tuple #[contV X xa X.t.args.length X.t.args.length, .bool false]) w') := fun w' hm => by
  have := hm.lookup_ok (P := Tryz.prog) (t := 100) (k := 24) (e := 51) adrKey Tryz.underlying100 zeroCon a
  rw [HX.out, HIS.out] at this
  exact this
 have hS3 : w3.drew.cell? ⟨gb, 0, none⟩ = some (.map (some mb)) ∧ w3.drew.cell? ⟨w.heap.size, 0, none⟩ = some (.int .i64 a.1) ∧ w3.drew.cell? ⟨w.heap.size, 1, none⟩ = some (.int .i64 a.2) ∧ MapIs w3.drew mb E := ⟨hc3, p0, p1, HP3.out.map⟩
 refine wp_region_held_drew (S := fun w' => w'.cell? ⟨gb, 0, none⟩ = some (.map (some mb)) ∧ w'.cell? ⟨w.heap.size, 0, none⟩ = some (.int .i64 a.1) ∧ w'.cell? ⟨w.heap.size, 1, none⟩ = some (.int .i64 a.2) ∧ MapIs w' mb E) (by kernel_rfl) hS3 (fun hHeld => ?_)
 refine tkH 0 ?_ ?_ ?_
 rotate_left
 · intro w hSw; (try dsimp only at hSw); obtain ⟨s0, s1, s2, s3⟩ := hSw; go_simp; first | done | with_reducible rfl
 try simp only [Act.put, nm]
 refine tkH 1 ?_ ?_ ?_
 rotate_left
 · intro w hSw; (try dsimp only at hSw); obtain ⟨s0, s1, s2, s3⟩ := hSw; go_simp; first | done | with_reducible rfl
 try simp only [Act.put, nm]
 refine tkH 2 ?_ ?_ ?_
 rotate_left
 · intro w hSw; (try dsimp only at hSw); obtain ⟨s0, s1, s2, s3⟩ := hSw; go_simp; first | done | with_reducible rfl
 try simp only [Act.put, nm]
 refine tkH 3 ?_ ?_ ?_
 rotate_left
 · intro w hSw; (try dsimp only at hSw); obtain ⟨s0, s1, s2, s3⟩ := hSw; go_simp; first | done | with_reducible rfl
 try simp only [Act.put, nm]
 refine tkH 4 ?_ ?_ ?_
 rotate_left
 · intro w hSw; (try dsimp only at hSw); obtain ⟨s0, s1, s2, s3⟩ := hSw; go_simp; first | done | with_reducible rfl
 try simp only [Act.put, nm]
 refine tkH 5 ?_ ?_ ?_
 rotate_left
 · intro w hSw; (try dsimp only at hSw); obtain ⟨s0, s1, s2, s3⟩ := hSw; have hl := HL.out _ s3; go_simp; first | done | with_reducible rfl
 try simp only [Act.put, nm]
 refine tkH 6 ?_ ?_ ?_
 rotate_left
 · intro w hSw; (try dsimp only at hSw); go_simp; first | done | with_reducible rfl
 try simp only [Act.put, nm]
 refine tkH 7 ?_ ?_ ?_
 rotate_left
 · intro w hSw; (try dsimp only at hSw); go_simp; first | done | with_reducible rfl
 try simp only [Act.put, nm]
 refine tkH 8 ?_ ?_ ?_
 rotate_left
 · intro w hSw; (try dsimp only at hSw); go_simp; first | done | with_reducible rfl
 try simp only [Act.put, nm]
 refine rdH 9 (fun K hK => ?_)
 go_simp
 obtain ⟨wD, hwD⟩ : ∃ wD, (w3.alloc (.cells #[.int .i64 0, .int .i64 0, .float .f64 0, .string ⟨#[]⟩, .bool false, .int .i64 0, .int .i64 0, .int .i64 0, .float .f64 0, .string ⟨#[]⟩, .bool false, .int .i64 0, .int .i64 0, .int .i64 0, .bool false, .bool false, .int .i64 0, .int .i64 0, .bool false, .bool false, .slice none 0 0] 51)).drew = wD := ⟨_, rfl⟩
 have hxD : Xt w3 wD := by rw [← hwD]; exact ((Xt.refl w3).alloc _).drew
 have hrD : wD.heap[w3.heap.size]? = some (.cells #[.int .i64 0, .int .i64 0, .float .f64 0, .string ⟨#[]⟩, .bool false, .int .i64 0, .int .i64 0, .int .i64 0, .float .f64 0, .string ⟨#[]⟩, .bool false, .int .i64 0, .int .i64 0, .int .i64 0, .bool false, .bool false, .int .i64 0, .int .i64 0, .bool false, .bool false, .slice none 0 0] 51 (0, 0)) := by rw [← hwD]; exact (MapKept.heap_alloc w3 _).1
 have HPD := Lib.hid (HP3.out.step hxD)
 rw [hwD]
 refine hK.out _ _ ⟨HPD.out.cell, HPD.out.ad.1, HPD.out.ad.2, HPD.out.map⟩ (fun hHeld2 => ?_)
 clear hK K
 try simp only [Act.put, nm]
 refine rdH 10 (fun K hK => ?_)
 rw [if_pos (by rfl)]
 obtain ⟨w4, hw4⟩ : ∃ w4, wD.setRow w3.heap.size (contV X xa X.t.args.length X.t.args.length).cells = w4 := ⟨_, rfl⟩
 have hx4 : Xt w3 w4 := by rw [← hw4]; exact hxD.grownB (setRow_grown _ _ _) (fun m hm => by cases hm; exact Nat.le_refl _)
 refine wp_store_row 51 _ _ rfl w3.heap.size (contV X xa X.t.args.length X.t.args.length).cells rfl rfl 51 _ hrD (by kernel_rfl) rfl (by simp [Value.oneCell', Value.cells]) ?_
 rw [hw4]
 have HP4 := Lib.hid (HP3.out.step hx4)
 refine hK.out _ _ ⟨HP4.out.cell, HP4.out.ad.1, HP4.out.ad.2, HP4.out.map⟩ (fun hHeld3 => ?_)
 clear hK K
 try simp only [Act.put, List.getElem_toArray, List.getElem_cons_zero, List.getElem_cons_succ]
 refine tkH 11 ?_ ?_ ?_
 rotate_left
 · intro w hSw; (try dsimp only at hSw); go_simp; first | done | with_reducible rfl
 try simp only [Act.put, nm]
 refine wpAnyH_done (by kernel_rfl) ?_ _
 have hc4 := HP4.out.cell
 have hlen : ∀ ty, (Builtin.len_ #[100] ty #[.map (some mb)]).run Tryz.prog w4 = .ok (.int .i64 M.length) w4 := fun ty => by rw [← HLM.out]; exact HP4.out.map.len Tryz.underlying100
 have hge : (4096 : Int) ≤ (M.length : Int) := by have := HLE.out; omega
 go_wp2_with fail
 go_ret
 exact ⟨rfl, HP4.out.xt⟩
end Go.Proofs.YtdoeejhdenifpaaGreatDoor
