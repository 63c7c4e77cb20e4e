import Derived.Test.YtdoeejhdenifpaaGreatDoorZ1
import Derived.Deep.MidRow
import Derived.Laws.Tables
import Derived.OwnWalkIn
import Derived.BigFrameIn
import Derived.Test.YtdoeejhdenifpaaGreatDoorA6
import Derived.Test.YtdoeejhdenifpaaGreatDoorM6
import Derived.Test.YtdoeejhdenifpaaGreatDoorA4
/- The laws of rows (loads and stores of many cells), for the fenced walk. -/
namespace Go.Proofs.YtdoeejhdenifpaaGreatDoor
open Go.RowKit
theorem run_equalIn_func_nil {P : Program} (w : World) (d : Nat) (t : TypeId) (ps rs : Array TypeId) (v : Bool) (fn : Fn) (fi ca : Array Value) (h : P.underlying t = some (.func ps rs v)) :
    (Op.equalIn (d + 1) t (.func fn fi ca) .nilFunc).run P w = .ok false w := by simp [Op.equalIn, run_underlying h]
theorem run_eql_func_nil {P : Program} (w : World) (t : TypeId) (ps rs : Array TypeId) (v : Bool) (fn : Fn) (fi ca : Array Value) (h : P.underlying t = some (.func ps rs v)) :
    (binOp .eql t (.func fn fi ca) .nilFunc).run P w = .ok (.bool false) w := by
 simp only [binOp]
 simp [show Op.equal t (.func fn fi ca) .nilFunc = Op.equalIn (9999 + 1) t (.func fn fi ca) .nilFunc from rfl, run_equalIn_func_nil w 9999 t ps rs v fn fi ca h]
theorem exec_load_row {P : Program} {o : Oper} {a : Act} {w : World} (ty : TypeId) (x : Operand) (ho : o.op = .load ty x) (g : Nat) (hx : a.eval x = .pointer (some ⟨g, 0, none⟩)) (t : TypeId) (cs : Array Value) (fr : Nat × Nat) (d : TypeDesc) (hg : w.heap[g]? = some (.cells cs t fr))
    (hu : P.underlying ty = some d) (hd : (match d with | .struct _ | .array _ _ => true | _ => false) = true) (hi : (P.info? ty).map (·.size) = some cs.size) : (execOp a.eval o).run P w = .ok (.value (.agg cs)) w := by
 unfold execOp
 simp only [ho, hx, Instr.loadAt, Instr.sureAddr, Sem.run_bind, Sem.run_pure, Result.andThen_ok, run_loadVar_row w g t ty cs fr d hg hu hd hi]
theorem exec_load_mid {P : Program} {o : Oper} {a : Act} {w : World} (ty : TypeId) (x : Operand) (ho : o.op = .load ty x) (b off : Nat) (hx : a.eval x = .pointer (some ⟨b, off, none⟩)) (cs : List Value) (d : TypeDesc) (hc : w.rangeAt b off cs)
    (hu : P.underlying ty = some d) (hd : d.isRow = true) (hi : (P.info? ty).map (·.size) = some cs.length) : (execOp a.eval o).run P w = .ok (.value (.agg cs.toArray)) w := by
 unfold execOp
 simp only [ho, hx, Instr.loadAt, Instr.sureAddr, Sem.run_bind, Sem.run_pure, Result.andThen_ok, run_loadVar_mid w b off ty cs d hc hu hd hi]
section
variable {F : Fence} {n : Nat} {P : Program} {o : Oper} {a : Act} {w : World} {K : Act → World → Prop} {Q : Exit → Act → World → Prop}
theorem wpIn_load_row (ty : TypeId) (x : Operand) (ho : o.op = .load ty x) (g : Nat) (hx : a.eval x = .pointer (some ⟨g, 0, none⟩)) (t : TypeId) (cs : Array Value) (fr : Nat × Nat) (d : TypeDesc) (hg : w.heap[g]? = some (.cells cs t fr))
    (hu : P.underlying ty = some d) (hd : (match d with | .struct _ | .array _ _ => true | _ => false) = true) (hi : (P.info? ty).map (·.size) = some cs.size)
    (h : K (a.put o.dst (.agg cs)) w) : o.wpIn F n P a w K Q := by
 refine ⟨fun f hf => ?_, ?_⟩
 · simp [Oper.about, ho] at hf
 · rw [Oper.semAt_plain F _ _ (by rw [ho]; intro c hc'; cases hc')]
   unfold execOp
   simp only [ho, hx, Instr.loadAt, Instr.sureAddr, Sem.run_bind, Sem.run_pure, Result.andThen_ok, run_loadVar_row w g t ty cs fr d hg hu hd hi]
   exact h
theorem wpIn_store_row (ty : TypeId) (x y : Operand) (ho : o.op = .store ty x y) (g : Nat) (cells : Array Value) (hx : a.eval x = .pointer (some ⟨g, 0, none⟩)) (hy : a.eval y = .agg cells)
    (t : TypeId) (old : Array Value) (hg : w.heap[g]? = some (.cells old t (0, 0))) (hi : (P.info? ty).map (·.size) = some cells.size)
    (hold : old.size = cells.size) (h1 : cells.all (·.oneCell') = true)
    (h : K (a.put o.dst undef) (w.setRow g cells)) : o.wpIn F n P a w K Q := by
 refine ⟨fun f hf => ?_, ?_⟩
 · simp [Oper.about, ho] at hf
 · rw [Oper.semAt_plain F _ _ (by rw [ho]; intro c hc'; cases hc')]
   unfold execOp
   simp only [ho, hx, hy, Instr.storeAt, Instr.sureAddr, Sem.run_bind, Sem.run_pure, Result.andThen_ok, run_storeVar_row w g t ty old cells hg hi hold h1]
   exact h
end
section
variable {F : Fence} {n : Nat} {P : Program} {ops : Array Oper} {rest : List Oper} {o : Oper} {a : Act} {w : World} {Q : Exit → Act → World → Prop}
theorem wpListIn_store_row (hgd : o.guard = none) (ty : TypeId) (x y : Operand) (ho : o.op = .store ty x y) (g : Nat) (cells : Array Value) (hx : a.eval x = .pointer (some ⟨g, 0, none⟩)) (hy : a.eval y = .agg cells)
    (t : TypeId) (old : Array Value) (hg : w.heap[g]? = some (.cells old t (0, 0))) (hi : (P.info? ty).map (·.size) = some cells.size)
    (hold : old.size = cells.size) (h1 : cells.all (·.oneCell') = true)
    (h : wpListIn F n P ops Q rest (a.put o.dst undef) (w.setRow g cells)) : wpListIn F n P ops Q (o :: rest) a w :=
 wpListIn_plain hgd fun _ hK => wpIn_store_row ty x y ho g cells hx hy t old hg hi hold h1 (hK _ _ h)
end
end Go.Proofs.YtdoeejhdenifpaaGreatDoor
/- addr: a cell as a formula names it when it is copied so far (made by mkt1.py). -/
namespace Go.Proofs.YtdoeejhdenifpaaGreatDoor
open Go.RowKit Go.Sort Go.MapKept
attribute [local go_sem] Oper.semAt_some
theorem cells4R {w : World} {b : Nat} {v0 v1 v2 v3 : Value} {T : TypeId} (h : w.heap[b]? = some (.cells #[v0, v1, v2, v3] T (0, 0))) :
    w.cell? ⟨b, 0, none⟩ = some v0 ∧ w.cell? ⟨b, 1, none⟩ = some v1 ∧ w.cell? ⟨b, 2, none⟩ = some v2 ∧ w.cell? ⟨b, 3, none⟩ = some v3 ∧ w.frozen? ⟨b, 0, none⟩ = false ∧ w.frozen? ⟨b, 1, none⟩ = false ∧ w.frozen? ⟨b, 2, none⟩ = false ∧ w.frozen? ⟨b, 3, none⟩ = false := by
 refine ⟨?_, ?_, ?_, ?_, ?_, ?_, ?_, ?_⟩ <;> simp [World.cell?, World.frozen?, h]
set_option maxHeartbeats 2000000 in
theorem amoved_any (n b : Int) (fx : Bool) (w : World) :
    Calls Tryz.prog 178 #[.int .i64 n, .int .i64 b, .bool fx] w fun e w' => e = .returned (.int .i64 (shN n b fx)) ∧ w = w' := by
 unfold shN
 cases fx
 · simp only [Bool.false_eq_true, if_false]
   by_cases h1 : 1048576 < b
   · rw [if_pos h1]
     go_enter Tryz.func178, Tryz.ntmps178
     go_wp2
     go_ret
     exact ⟨rfl, rfl⟩
   · rw [if_neg h1]
     by_cases h2 : b < -1048576
     · rw [if_pos h2]
       go_enter Tryz.func178, Tryz.ntmps178
       go_wp2
       go_ret
       exact ⟨rfl, rfl⟩
     · rw [if_neg h2]
       obtain ⟨s, hs⟩ : ∃ s, wrap64 (n + b) = s := ⟨_, rfl⟩
       go_enter Tryz.func178, Tryz.ntmps178
       go_wp2
       go_ret
       exact ⟨by simp, rfl⟩
 · simp only [if_true]
   go_enter Tryz.func178, Tryz.ntmps178
   go_wp2
   go_ret
   exact ⟨rfl, rfl⟩
set_option maxRecDepth 100000 in
set_option maxHeartbeats 4000000 in
theorem ashift_any (x : RefT) (cc rr : Int) (w : World) :
    Calls Tryz.prog 164 #[.agg #[.int .i64 x.a.1, .int .i64 x.a.2, .bool x.cf, .bool x.rf], .int .i64 cc, .int .i64 rr] w fun e w' => e = .returned (.tuple #[.agg #[.int .i64 (shR cc rr x).a.1, .int .i64 (shR cc rr x).a.2, .bool (shR cc rr x).cf, .bool (shR cc rr x).rf], .bool (shB cc rr x)]) ∧ Xt w w' := by
 obtain ⟨B, hB⟩ : ∃ B, w.heap.size = B := ⟨_, rfl⟩
 obtain ⟨w0, hw0⟩ : ∃ w0, w.alloc (.cells #[.int .i64 x.a.1, .int .i64 x.a.2, .bool x.cf, .bool x.rf] 46) = w0 := ⟨_, rfl⟩
 have hs0 : w0.heap.size = B + 1 := by rw [← hw0, ← hB]; simp
 obtain ⟨w1, hw1⟩ : ∃ w1, w0.alloc (.cells #[.int .i64 0, .int .i64 0, .bool false, .bool false] 46) = w1 := ⟨_, rfl⟩
 have HX1 : Hid (Xt w w1) := by unfold Hid; rw [← hw1, ← hw0]; exact ((Xt.refl w).alloc _).alloc _
 have HR0 : Hid (w1.heap[B]? = some (.cells #[.int .i64 x.a.1, .int .i64 x.a.2, .bool x.cf, .bool x.rf] 46 (0, 0))) := rowX (w := w0) (by rw [← hw1]; exact (Xt.refl _).alloc _) (by rw [← hw0, ← hB]; exact (MapKept.heap_alloc w _).1)
 have HR1 : Hid (w1.heap[B + 1]? = some (.cells #[.int .i64 0, .int .i64 0, .bool false, .bool false] 46 (0, 0))) := by unfold Hid; rw [← hw1, ← hs0]; exact (MapKept.heap_alloc w0 _).1
 have hone : Hid (∀ (A : World) (b o : Nat) (u : Value), w.heap.size ≤ b → Xt w A → Xt w (A.setCell ⟨b, o, none⟩ u)) := Lib.hid fun A b o u hb h => h.grownB (setCell_grown _ _ _ _) (fun q hq => by cases hq; exact hb)
 have honeR : Hid (∀ (A : World) (b : Nat) (cs : Array Value), w.heap.size ≤ b → Xt w A → Xt w (A.setRow b cs)) := Lib.hid fun A b cs hb h => h.grownB (setRow_grown _ _ _) (fun q hq => by cases hq; exact hb)
 obtain ⟨b0, b1, b2, b3, f0, f1, _, _⟩ := cells4R HR0.out
 obtain ⟨y0, y1, y2, y3, g0, g1, g2, g3⟩ := cells4R HR1.out
 unfold shR shB
 cases hv : validB x.a.1 x.a.2
 · have HV1 := Lib.hid (valid_any x.a.1 x.a.2 w1)
   rw [hv] at HV1
   simp only [Bool.false_and, Bool.false_eq_true, if_false]
   clear hv
   go_enter Tryz.func164, Tryz.ntmps164
   go_wp2_with (first
    | (go_at_call 63; refine (HV1.out).mono ?_; rintro e w2 ⟨rfl, hg2⟩; have HX2 : Hid (Xt w1 w2) := (by unfold Hid; rw [hg2]; exact (Xt.refl _).alloc _); obtain ⟨y0, y1, y2, y3, g0, g1, g2, g3⟩ := cells4R (rowX HX2.out HR1.out); clear hg2))
   (try simp only [Exit.inBlock, Exit.then])
   have hrowE : ((((w2.setCell ⟨B + 1, 0, none⟩ (.int .i64 0)).setCell ⟨B + 1, 1, none⟩ (.int .i64 0)).setCell ⟨B + 1, 2, none⟩ (.bool false)).setCell ⟨B + 1, 3, none⟩ (.bool false)).heap[B + 1]? = some (.cells #[.int .i64 0, .int .i64 0, .bool false, .bool false] 46 (0, 0)) := (setCell_row (setCell_row (setCell_row (setCell_row (rowX HX2.out HR1.out) 0 (.int .i64 0)) 1 (.int .i64 0)) 2 (.bool false)) 3 (.bool false))
   have hxE : Xt w ((((w2.setCell ⟨B + 1, 0, none⟩ (.int .i64 0)).setCell ⟨B + 1, 1, none⟩ (.int .i64 0)).setCell ⟨B + 1, 2, none⟩ (.bool false)).setCell ⟨B + 1, 3, none⟩ (.bool false)) := (hone.out _ (B + 1) 3 (.bool false) (by omega) (hone.out _ (B + 1) 2 (.bool false) (by omega) (hone.out _ (B + 1) 1 (.int .i64 0) (by omega) (hone.out _ (B + 1) 0 (.int .i64 0) (by omega) (HX1.out.trans HX2.out)))))
   refine bodyPost_ret (v := .tuple #[.agg #[.int .i64 0, .int .i64 0, .bool false, .bool false], .bool false]) ?_ rfl ?_
   · rw [results_cell_tmp rfl]
     show ((asAddr (.pointer (some ⟨B + 1, 0, none⟩))).run _ _).andThen _ = _
     simp only [asAddr, Sem.run_pure, Result.andThen_ok, run_loadVar_row _ _ _ 46 #[.int .i64 0, .int .i64 0, .bool false, .bool false] _ _ hrowE Tryz.underlying46 rfl (by kernel_rfl)]
     rfl
   · exact ⟨rfl, hxE⟩
 · have HV1 := Lib.hid (valid_any x.a.1 x.a.2 w1)
   rw [hv] at HV1
   obtain ⟨m1, hm1⟩ : ∃ m, shN x.a.1 cc x.cf = m := ⟨_, rfl⟩
   obtain ⟨m2, hm2⟩ : ∃ m, shN x.a.2 rr x.rf = m := ⟨_, rfl⟩
   have HM1 := Lib.hid (fun V => amoved_any x.a.1 cc x.cf V)
   have HM2 := Lib.hid (fun V => amoved_any x.a.2 rr x.rf V)
   rw [hm1] at HM1
   rw [hm2] at HM2
   simp only [shA, Bool.true_and, hm1, hm2]
   obtain ⟨vb, hvb⟩ : ∃ v, validB m1 m2 = v := ⟨_, rfl⟩
   rw [hvb]
   have HVB := Lib.hid hvb
   have hk1 : True := trivial
   clear hv hm1 hm2 hvb
   go_enter Tryz.func164, Tryz.ntmps164
   go_wp2_with (first
    | (go_at_call 63; have hk0 := hk1; clear hk1 hk0; refine (HV1.out).mono ?_; rintro e w2 ⟨rfl, hg2⟩; have HX2 : Hid (Xt w1 w2) := (by unfold Hid; rw [hg2]; exact (Xt.refl _).alloc _); have HRB := Lib.hid (rowX HX2.out HR0.out); clear hg2))
   obtain ⟨z0, z1, z2, z3, f0, f1, _, _⟩ := cells4R HRB.out
   clear b0 b1 b2 b3 y0 y1 y2 y3 g0 g1 g2 g3
   refine wp_region_held_drew (S := fun V => V.cell? ⟨B, 2, none⟩ = some (.bool x.cf) ∧ V.cell? ⟨B, 3, none⟩ = some (.bool x.rf)) (by kernel_rfl) ⟨z2, z3⟩ (fun hHeld => ?_)
   refine tkH 0 ?_ ?_ ?_
   rotate_left
   · intro V hSw; obtain ⟨k2, k3⟩ := hSw; go_simp; first | done | with_reducible rfl
   try simp only [Act.put, nm]
   refine tkH 1 ?_ ?_ ?_
   rotate_left
   · intro V hSw; obtain ⟨k2, k3⟩ := hSw; go_simp; first | done | with_reducible rfl
   try simp only [Act.put, nm]
   refine tkH 3 ?_ ?_ ?_
   rotate_left
   · intro V hSw; obtain ⟨k2, k3⟩ := hSw; go_simp; first | done | with_reducible rfl
   try simp only [Act.put, nm]
   refine tkH 4 ?_ ?_ ?_
   rotate_left
   · intro V hSw; obtain ⟨k2, k3⟩ := hSw; go_simp; first | done | with_reducible rfl
   try simp only [Act.put, nm]
   refine tkH 5 ?_ ?_ ?_
   rotate_left
   · intro V hSw; obtain ⟨k2, k3⟩ := hSw; go_simp; first | done | with_reducible rfl
   try simp only [Act.put, nm]
   refine tkH 7 ?_ ?_ ?_
   rotate_left
   · intro V hSw; obtain ⟨k2, k3⟩ := hSw; go_simp; first | done | with_reducible rfl
   try simp only [Act.put, nm]
   refine tkH 8 ?_ ?_ ?_
   rotate_left
   · intro V hSw; obtain ⟨k2, k3⟩ := hSw; go_simp; first | done | with_reducible rfl
   try simp only [Act.put, nm]
   refine tkH 10 ?_ ?_ ?_
   rotate_left
   · intro V hSw; obtain ⟨k2, k3⟩ := hSw; go_simp; first | done | with_reducible rfl
   try simp only [Act.put, nm]
   refine tkH 11 ?_ ?_ ?_
   rotate_left
   · intro V hSw; obtain ⟨k2, k3⟩ := hSw; go_simp; first | done | with_reducible rfl
   try simp only [Act.put, nm]
   refine tkH 12 ?_ ?_ ?_
   rotate_left
   · intro V hSw; obtain ⟨k2, k3⟩ := hSw; go_simp; first | done | with_reducible rfl
   try simp only [Act.put, nm]
   refine wpAnyH_ready (rs := [2, 9]) (by kernel_rfl) (by simp) ?_
   refine AllReadyH.cons (o := _) rfl (fun K hK => ?_) (AllReadyH.cons (o := _) rfl (fun K hK => ?_) AllReadyH.nil)
   · go_simp
     refine hK.out _ _ hHeld (fun hHe => ?_)
     clear hK K
     try simp only [Act.put, nm]
     refine wpAnyH_ready (rs := [6, 9]) (by kernel_rfl) (by simp) ?_
     refine AllReadyH.cons (o := _) rfl (fun K hK => ?_) (AllReadyH.cons (o := _) rfl (fun K hK => ?_) AllReadyH.nil)
     · go_simp
       refine (HM1.out _).mono ?_
       rintro e w' ⟨rfl, rfl⟩
       refine hK.out _ _ hHeld (fun hHe => ?_)
       clear hK K
       try simp only [Act.put, nm]
       refine rdH 9 (fun K hK => ?_)
       go_simp
       refine hK.out _ _ hHeld (fun hHe => ?_)
       clear hK K
       try simp only [Act.put, nm]
       refine rdH 13 (fun K hK => ?_)
       go_simp
       refine (HM2.out _).mono ?_
       rintro e w' ⟨rfl, rfl⟩
       refine hK.out _ _ hHeld (fun hHe => ?_)
       clear hK K
       try simp only [Act.put, nm]
       refine tkH 14 ?_ ?_ ?_
       rotate_left
       · intro V hSw; obtain ⟨k2, k3⟩ := hSw; go_simp; first | done | with_reducible rfl
       try simp only [Act.put, nm]
       refine tkH 15 ?_ ?_ ?_
       rotate_left
       · intro V hSw; obtain ⟨k2, k3⟩ := hSw; go_simp; first | done | with_reducible rfl
       try simp only [Act.put, nm]
       refine rdH 16 (fun K hK => ?_)
       go_simp
       refine hK.out _ _ ?_ (fun hHe => ?_)
       · exact ⟨(World.cell?_setCell_other _ _ _ _ (by simp)).trans ((World.cell?_setCell_other _ _ _ _ (by simp)).trans z2), (World.cell?_setCell_other _ _ _ _ (by simp)).trans ((World.cell?_setCell_other _ _ _ _ (by simp)).trans z3)⟩
       clear hK K
       refine wpAnyH_done (by kernel_rfl) ?_ _
       obtain ⟨wS, hwS⟩ : ∃ wS, ((w2.setCell ⟨B, 0, none⟩ (.int .i64 m1)).setCell ⟨B, 1, none⟩ (.int .i64 m2)).drew = wS := ⟨_, rfl⟩
       have HRS : Hid (wS.heap[B]? = some (.cells #[.int .i64 m1, .int .i64 m2, .bool x.cf, .bool x.rf] 46 (0, 0))) := (by unfold Hid; rw [← hwS]; exact setCell_row (setCell_row HRB.out 0 _) 1 _)
       have HRE : Hid (wS.heap[B + 1]? = some (.cells #[.int .i64 0, .int .i64 0, .bool false, .bool false] 46 (0, 0))) := (by unfold Hid; rw [← hwS]; exact (Below.heap_setCell _ _ _ _ (by simp)).trans ((Below.heap_setCell _ _ _ _ (by simp)).trans (rowX HX2.out HR1.out)))
       have HXS : Hid (Xt w wS) := (by unfold Hid; rw [← hwS]; exact (hone.out _ _ _ _ (by omega) (hone.out _ _ _ _ (by omega) (HX1.out.trans HX2.out))).drew)
       rw [hwS]
       clear hwS z0 z1 z2 z3 f0 f1
       obtain ⟨x0, x1, x2, x3, h0, h1, _, _⟩ := cells4R HRS.out
       have HV2 := Lib.hid (valid_any m1 m2 wS)
       rw [HVB.out] at HV2
       cases vb
       · try simp only [Bool.false_eq_true, if_false]
         go_wp2_with (first
          | (go_at_call 63; refine (HV2.out).mono ?_; rintro e w3 ⟨rfl, hg3⟩; have HX3 : Hid (Xt wS w3) := (by unfold Hid; rw [hg3]; exact (Xt.refl _).alloc _); obtain ⟨x0, x1, x2, x3, h0, h1, _, _⟩ := cells4R (rowX HX3.out HRS.out); obtain ⟨y0, y1, y2, y3, g0, g1, g2, g3⟩ := cells4R (rowX HX3.out HRE.out); clear hg3))
         (try simp only [Exit.inBlock, Exit.then])
         have hrowE : ((((w3.setCell ⟨B + 1, 0, none⟩ (.int .i64 0)).setCell ⟨B + 1, 1, none⟩ (.int .i64 0)).setCell ⟨B + 1, 2, none⟩ (.bool false)).setCell ⟨B + 1, 3, none⟩ (.bool false)).heap[B + 1]? = some (.cells #[.int .i64 0, .int .i64 0, .bool false, .bool false] 46 (0, 0)) := (setCell_row (setCell_row (setCell_row (setCell_row (rowX HX3.out HRE.out) 0 (.int .i64 0)) 1 (.int .i64 0)) 2 (.bool false)) 3 (.bool false))
         have hxE : Xt w ((((w3.setCell ⟨B + 1, 0, none⟩ (.int .i64 0)).setCell ⟨B + 1, 1, none⟩ (.int .i64 0)).setCell ⟨B + 1, 2, none⟩ (.bool false)).setCell ⟨B + 1, 3, none⟩ (.bool false)) := (hone.out _ (B + 1) 3 (.bool false) (by omega) (hone.out _ (B + 1) 2 (.bool false) (by omega) (hone.out _ (B + 1) 1 (.int .i64 0) (by omega) (hone.out _ (B + 1) 0 (.int .i64 0) (by omega) (HXS.out.trans HX3.out)))))
         refine bodyPost_ret (v := .tuple #[.agg #[.int .i64 0, .int .i64 0, .bool false, .bool false], .bool false]) ?_ rfl ?_
         · rw [results_cell_tmp rfl]
           show ((asAddr (.pointer (some ⟨B + 1, 0, none⟩))).run _ _).andThen _ = _
           simp only [asAddr, Sem.run_pure, Result.andThen_ok, run_loadVar_row _ _ _ 46 #[.int .i64 0, .int .i64 0, .bool false, .bool false] _ _ hrowE Tryz.underlying46 rfl (by kernel_rfl)]
           rfl
         · exact ⟨rfl, hxE⟩
       · try simp only [if_true]
         go_wp2_with (first
          | (go_at_call 63; refine (HV2.out).mono ?_; rintro e w3 ⟨rfl, hg3⟩; have HX3 : Hid (Xt wS w3) := (by unfold Hid; rw [hg3]; exact (Xt.refl _).alloc _); obtain ⟨x0, x1, x2, x3, h0, h1, _, _⟩ := cells4R (rowX HX3.out HRS.out); obtain ⟨y0, y1, y2, y3, g0, g1, g2, g3⟩ := cells4R (rowX HX3.out HRE.out); clear hg3))
         (try simp only [Exit.inBlock, Exit.then])
         have hrowE : ((((w3.setCell ⟨B + 1, 0, none⟩ (.int .i64 m1)).setCell ⟨B + 1, 1, none⟩ (.int .i64 m2)).setCell ⟨B + 1, 2, none⟩ (.bool x.cf)).setCell ⟨B + 1, 3, none⟩ (.bool x.rf)).heap[B + 1]? = some (.cells #[.int .i64 m1, .int .i64 m2, .bool x.cf, .bool x.rf] 46 (0, 0)) := (setCell_row (setCell_row (setCell_row (setCell_row (rowX HX3.out HRE.out) 0 (.int .i64 m1)) 1 (.int .i64 m2)) 2 (.bool x.cf)) 3 (.bool x.rf))
         have hxE : Xt w ((((w3.setCell ⟨B + 1, 0, none⟩ (.int .i64 m1)).setCell ⟨B + 1, 1, none⟩ (.int .i64 m2)).setCell ⟨B + 1, 2, none⟩ (.bool x.cf)).setCell ⟨B + 1, 3, none⟩ (.bool x.rf)) := (hone.out _ (B + 1) 3 (.bool x.rf) (by omega) (hone.out _ (B + 1) 2 (.bool x.cf) (by omega) (hone.out _ (B + 1) 1 (.int .i64 m2) (by omega) (hone.out _ (B + 1) 0 (.int .i64 m1) (by omega) (HXS.out.trans HX3.out)))))
         refine bodyPost_ret (v := .tuple #[.agg #[.int .i64 m1, .int .i64 m2, .bool x.cf, .bool x.rf], .bool true]) ?_ rfl ?_
         · rw [results_cell_tmp rfl]
           show ((asAddr (.pointer (some ⟨B + 1, 0, none⟩))).run _ _).andThen _ = _
           simp only [asAddr, Sem.run_pure, Result.andThen_ok, run_loadVar_row _ _ _ 46 #[.int .i64 m1, .int .i64 m2, .bool x.cf, .bool x.rf] _ _ hrowE Tryz.underlying46 rfl (by kernel_rfl)]
           rfl
         · exact ⟨rfl, hxE⟩
     · go_simp
       refine hK.out _ _ hHeld (fun hHe => ?_)
       clear hK K
       try simp only [Act.put, nm]
       refine rdH 6 (fun K hK => ?_)
       go_simp
       refine (HM1.out _).mono ?_
       rintro e w' ⟨rfl, rfl⟩
       refine hK.out _ _ hHeld (fun hHe => ?_)
       clear hK K
       try simp only [Act.put, nm]
       refine rdH 13 (fun K hK => ?_)
       go_simp
       refine (HM2.out _).mono ?_
       rintro e w' ⟨rfl, rfl⟩
       refine hK.out _ _ hHeld (fun hHe => ?_)
       clear hK K
       try simp only [Act.put, nm]
       refine tkH 14 ?_ ?_ ?_
       rotate_left
       · intro V hSw; obtain ⟨k2, k3⟩ := hSw; go_simp; first | done | with_reducible rfl
       try simp only [Act.put, nm]
       refine tkH 15 ?_ ?_ ?_
       rotate_left
       · intro V hSw; obtain ⟨k2, k3⟩ := hSw; go_simp; first | done | with_reducible rfl
       try simp only [Act.put, nm]
       refine rdH 16 (fun K hK => ?_)
       go_simp
       refine hK.out _ _ ?_ (fun hHe => ?_)
       · exact ⟨(World.cell?_setCell_other _ _ _ _ (by simp)).trans ((World.cell?_setCell_other _ _ _ _ (by simp)).trans z2), (World.cell?_setCell_other _ _ _ _ (by simp)).trans ((World.cell?_setCell_other _ _ _ _ (by simp)).trans z3)⟩
       clear hK K
       refine wpAnyH_done (by kernel_rfl) ?_ _
       obtain ⟨wS, hwS⟩ : ∃ wS, ((w2.setCell ⟨B, 0, none⟩ (.int .i64 m1)).setCell ⟨B, 1, none⟩ (.int .i64 m2)).drew = wS := ⟨_, rfl⟩
       have HRS : Hid (wS.heap[B]? = some (.cells #[.int .i64 m1, .int .i64 m2, .bool x.cf, .bool x.rf] 46 (0, 0))) := (by unfold Hid; rw [← hwS]; exact setCell_row (setCell_row HRB.out 0 _) 1 _)
       have HRE : Hid (wS.heap[B + 1]? = some (.cells #[.int .i64 0, .int .i64 0, .bool false, .bool false] 46 (0, 0))) := (by unfold Hid; rw [← hwS]; exact (Below.heap_setCell _ _ _ _ (by simp)).trans ((Below.heap_setCell _ _ _ _ (by simp)).trans (rowX HX2.out HR1.out)))
       have HXS : Hid (Xt w wS) := (by unfold Hid; rw [← hwS]; exact (hone.out _ _ _ _ (by omega) (hone.out _ _ _ _ (by omega) (HX1.out.trans HX2.out))).drew)
       rw [hwS]
       clear hwS z0 z1 z2 z3 f0 f1
       obtain ⟨x0, x1, x2, x3, h0, h1, _, _⟩ := cells4R HRS.out
       have HV2 := Lib.hid (valid_any m1 m2 wS)
       rw [HVB.out] at HV2
       cases vb
       · try simp only [Bool.false_eq_true, if_false]
         go_wp2_with (first
          | (go_at_call 63; refine (HV2.out).mono ?_; rintro e w3 ⟨rfl, hg3⟩; have HX3 : Hid (Xt wS w3) := (by unfold Hid; rw [hg3]; exact (Xt.refl _).alloc _); obtain ⟨x0, x1, x2, x3, h0, h1, _, _⟩ := cells4R (rowX HX3.out HRS.out); obtain ⟨y0, y1, y2, y3, g0, g1, g2, g3⟩ := cells4R (rowX HX3.out HRE.out); clear hg3))
         (try simp only [Exit.inBlock, Exit.then])
         have hrowE : ((((w3.setCell ⟨B + 1, 0, none⟩ (.int .i64 0)).setCell ⟨B + 1, 1, none⟩ (.int .i64 0)).setCell ⟨B + 1, 2, none⟩ (.bool false)).setCell ⟨B + 1, 3, none⟩ (.bool false)).heap[B + 1]? = some (.cells #[.int .i64 0, .int .i64 0, .bool false, .bool false] 46 (0, 0)) := (setCell_row (setCell_row (setCell_row (setCell_row (rowX HX3.out HRE.out) 0 (.int .i64 0)) 1 (.int .i64 0)) 2 (.bool false)) 3 (.bool false))
         have hxE : Xt w ((((w3.setCell ⟨B + 1, 0, none⟩ (.int .i64 0)).setCell ⟨B + 1, 1, none⟩ (.int .i64 0)).setCell ⟨B + 1, 2, none⟩ (.bool false)).setCell ⟨B + 1, 3, none⟩ (.bool false)) := (hone.out _ (B + 1) 3 (.bool false) (by omega) (hone.out _ (B + 1) 2 (.bool false) (by omega) (hone.out _ (B + 1) 1 (.int .i64 0) (by omega) (hone.out _ (B + 1) 0 (.int .i64 0) (by omega) (HXS.out.trans HX3.out)))))
         refine bodyPost_ret (v := .tuple #[.agg #[.int .i64 0, .int .i64 0, .bool false, .bool false], .bool false]) ?_ rfl ?_
         · rw [results_cell_tmp rfl]
           show ((asAddr (.pointer (some ⟨B + 1, 0, none⟩))).run _ _).andThen _ = _
           simp only [asAddr, Sem.run_pure, Result.andThen_ok, run_loadVar_row _ _ _ 46 #[.int .i64 0, .int .i64 0, .bool false, .bool false] _ _ hrowE Tryz.underlying46 rfl (by kernel_rfl)]
           rfl
         · exact ⟨rfl, hxE⟩
       · try simp only [if_true]
         go_wp2_with (first
          | (go_at_call 63; refine (HV2.out).mono ?_; rintro e w3 ⟨rfl, hg3⟩; have HX3 : Hid (Xt wS w3) := (by unfold Hid; rw [hg3]; exact (Xt.refl _).alloc _); obtain ⟨x0, x1, x2, x3, h0, h1, _, _⟩ := cells4R (rowX HX3.out HRS.out); obtain ⟨y0, y1, y2, y3, g0, g1, g2, g3⟩ := cells4R (rowX HX3.out HRE.out); clear hg3))
         (try simp only [Exit.inBlock, Exit.then])
         have hrowE : ((((w3.setCell ⟨B + 1, 0, none⟩ (.int .i64 m1)).setCell ⟨B + 1, 1, none⟩ (.int .i64 m2)).setCell ⟨B + 1, 2, none⟩ (.bool x.cf)).setCell ⟨B + 1, 3, none⟩ (.bool x.rf)).heap[B + 1]? = some (.cells #[.int .i64 m1, .int .i64 m2, .bool x.cf, .bool x.rf] 46 (0, 0)) := (setCell_row (setCell_row (setCell_row (setCell_row (rowX HX3.out HRE.out) 0 (.int .i64 m1)) 1 (.int .i64 m2)) 2 (.bool x.cf)) 3 (.bool x.rf))
         have hxE : Xt w ((((w3.setCell ⟨B + 1, 0, none⟩ (.int .i64 m1)).setCell ⟨B + 1, 1, none⟩ (.int .i64 m2)).setCell ⟨B + 1, 2, none⟩ (.bool x.cf)).setCell ⟨B + 1, 3, none⟩ (.bool x.rf)) := (hone.out _ (B + 1) 3 (.bool x.rf) (by omega) (hone.out _ (B + 1) 2 (.bool x.cf) (by omega) (hone.out _ (B + 1) 1 (.int .i64 m2) (by omega) (hone.out _ (B + 1) 0 (.int .i64 m1) (by omega) (HXS.out.trans HX3.out)))))
         refine bodyPost_ret (v := .tuple #[.agg #[.int .i64 m1, .int .i64 m2, .bool x.cf, .bool x.rf], .bool true]) ?_ rfl ?_
         · rw [results_cell_tmp rfl]
           show ((asAddr (.pointer (some ⟨B + 1, 0, none⟩))).run _ _).andThen _ = _
           simp only [asAddr, Sem.run_pure, Result.andThen_ok, run_loadVar_row _ _ _ 46 #[.int .i64 m1, .int .i64 m2, .bool x.cf, .bool x.rf] _ _ hrowE Tryz.underlying46 rfl (by kernel_rfl)]
           rfl
         · exact ⟨rfl, hxE⟩
   · go_simp
     refine hK.out _ _ hHeld (fun hHe => ?_)
     clear hK K
     try simp only [Act.put, nm]
     refine rdH 2 (fun K hK => ?_)
     go_simp
     refine hK.out _ _ hHeld (fun hHe => ?_)
     clear hK K
     try simp only [Act.put, nm]
     refine rdH 6 (fun K hK => ?_)
     go_simp
     refine (HM1.out _).mono ?_
     rintro e w' ⟨rfl, rfl⟩
     refine hK.out _ _ hHeld (fun hHe => ?_)
     clear hK K
     try simp only [Act.put, nm]
     refine rdH 13 (fun K hK => ?_)
     go_simp
     refine (HM2.out _).mono ?_
     rintro e w' ⟨rfl, rfl⟩
     refine hK.out _ _ hHeld (fun hHe => ?_)
     clear hK K
     try simp only [Act.put, nm]
     refine tkH 14 ?_ ?_ ?_
     rotate_left
     · intro V hSw; obtain ⟨k2, k3⟩ := hSw; go_simp; first | done | with_reducible rfl
     try simp only [Act.put, nm]
     refine tkH 15 ?_ ?_ ?_
     rotate_left
     · intro V hSw; obtain ⟨k2, k3⟩ := hSw; go_simp; first | done | with_reducible rfl
     try simp only [Act.put, nm]
     refine rdH 16 (fun K hK => ?_)
     go_simp
     refine hK.out _ _ ?_ (fun hHe => ?_)
     · exact ⟨(World.cell?_setCell_other _ _ _ _ (by simp)).trans ((World.cell?_setCell_other _ _ _ _ (by simp)).trans z2), (World.cell?_setCell_other _ _ _ _ (by simp)).trans ((World.cell?_setCell_other _ _ _ _ (by simp)).trans z3)⟩
     clear hK K
     refine wpAnyH_done (by kernel_rfl) ?_ _
     obtain ⟨wS, hwS⟩ : ∃ wS, ((w2.setCell ⟨B, 0, none⟩ (.int .i64 m1)).setCell ⟨B, 1, none⟩ (.int .i64 m2)).drew = wS := ⟨_, rfl⟩
     have HRS : Hid (wS.heap[B]? = some (.cells #[.int .i64 m1, .int .i64 m2, .bool x.cf, .bool x.rf] 46 (0, 0))) := (by unfold Hid; rw [← hwS]; exact setCell_row (setCell_row HRB.out 0 _) 1 _)
     have HRE : Hid (wS.heap[B + 1]? = some (.cells #[.int .i64 0, .int .i64 0, .bool false, .bool false] 46 (0, 0))) := (by unfold Hid; rw [← hwS]; exact (Below.heap_setCell _ _ _ _ (by simp)).trans ((Below.heap_setCell _ _ _ _ (by simp)).trans (rowX HX2.out HR1.out)))
     have HXS : Hid (Xt w wS) := (by unfold Hid; rw [← hwS]; exact (hone.out _ _ _ _ (by omega) (hone.out _ _ _ _ (by omega) (HX1.out.trans HX2.out))).drew)
     rw [hwS]
     clear hwS z0 z1 z2 z3 f0 f1
     obtain ⟨x0, x1, x2, x3, h0, h1, _, _⟩ := cells4R HRS.out
     have HV2 := Lib.hid (valid_any m1 m2 wS)
     rw [HVB.out] at HV2
     cases vb
     · try simp only [Bool.false_eq_true, if_false]
       go_wp2_with (first
        | (go_at_call 63; refine (HV2.out).mono ?_; rintro e w3 ⟨rfl, hg3⟩; have HX3 : Hid (Xt wS w3) := (by unfold Hid; rw [hg3]; exact (Xt.refl _).alloc _); obtain ⟨x0, x1, x2, x3, h0, h1, _, _⟩ := cells4R (rowX HX3.out HRS.out); obtain ⟨y0, y1, y2, y3, g0, g1, g2, g3⟩ := cells4R (rowX HX3.out HRE.out); clear hg3))
       (try simp only [Exit.inBlock, Exit.then])
       have hrowE : ((((w3.setCell ⟨B + 1, 0, none⟩ (.int .i64 0)).setCell ⟨B + 1, 1, none⟩ (.int .i64 0)).setCell ⟨B + 1, 2, none⟩ (.bool false)).setCell ⟨B + 1, 3, none⟩ (.bool false)).heap[B + 1]? = some (.cells #[.int .i64 0, .int .i64 0, .bool false, .bool false] 46 (0, 0)) := (setCell_row (setCell_row (setCell_row (setCell_row (rowX HX3.out HRE.out) 0 (.int .i64 0)) 1 (.int .i64 0)) 2 (.bool false)) 3 (.bool false))
       have hxE : Xt w ((((w3.setCell ⟨B + 1, 0, none⟩ (.int .i64 0)).setCell ⟨B + 1, 1, none⟩ (.int .i64 0)).setCell ⟨B + 1, 2, none⟩ (.bool false)).setCell ⟨B + 1, 3, none⟩ (.bool false)) := (hone.out _ (B + 1) 3 (.bool false) (by omega) (hone.out _ (B + 1) 2 (.bool false) (by omega) (hone.out _ (B + 1) 1 (.int .i64 0) (by omega) (hone.out _ (B + 1) 0 (.int .i64 0) (by omega) (HXS.out.trans HX3.out)))))
       refine bodyPost_ret (v := .tuple #[.agg #[.int .i64 0, .int .i64 0, .bool false, .bool false], .bool false]) ?_ rfl ?_
       · rw [results_cell_tmp rfl]
         show ((asAddr (.pointer (some ⟨B + 1, 0, none⟩))).run _ _).andThen _ = _
         simp only [asAddr, Sem.run_pure, Result.andThen_ok, run_loadVar_row _ _ _ 46 #[.int .i64 0, .int .i64 0, .bool false, .bool false] _ _ hrowE Tryz.underlying46 rfl (by kernel_rfl)]
         rfl
       · exact ⟨rfl, hxE⟩
     · try simp only [if_true]
       go_wp2_with (first
        | (go_at_call 63; refine (HV2.out).mono ?_; rintro e w3 ⟨rfl, hg3⟩; have HX3 : Hid (Xt wS w3) := (by unfold Hid; rw [hg3]; exact (Xt.refl _).alloc _); obtain ⟨x0, x1, x2, x3, h0, h1, _, _⟩ := cells4R (rowX HX3.out HRS.out); obtain ⟨y0, y1, y2, y3, g0, g1, g2, g3⟩ := cells4R (rowX HX3.out HRE.out); clear hg3))
       (try simp only [Exit.inBlock, Exit.then])
       have hrowE : ((((w3.setCell ⟨B + 1, 0, none⟩ (.int .i64 m1)).setCell ⟨B + 1, 1, none⟩ (.int .i64 m2)).setCell ⟨B + 1, 2, none⟩ (.bool x.cf)).setCell ⟨B + 1, 3, none⟩ (.bool x.rf)).heap[B + 1]? = some (.cells #[.int .i64 m1, .int .i64 m2, .bool x.cf, .bool x.rf] 46 (0, 0)) := (setCell_row (setCell_row (setCell_row (setCell_row (rowX HX3.out HRE.out) 0 (.int .i64 m1)) 1 (.int .i64 m2)) 2 (.bool x.cf)) 3 (.bool x.rf))
       have hxE : Xt w ((((w3.setCell ⟨B + 1, 0, none⟩ (.int .i64 m1)).setCell ⟨B + 1, 1, none⟩ (.int .i64 m2)).setCell ⟨B + 1, 2, none⟩ (.bool x.cf)).setCell ⟨B + 1, 3, none⟩ (.bool x.rf)) := (hone.out _ (B + 1) 3 (.bool x.rf) (by omega) (hone.out _ (B + 1) 2 (.bool x.cf) (by omega) (hone.out _ (B + 1) 1 (.int .i64 m2) (by omega) (hone.out _ (B + 1) 0 (.int .i64 m1) (by omega) (HXS.out.trans HX3.out)))))
       refine bodyPost_ret (v := .tuple #[.agg #[.int .i64 m1, .int .i64 m2, .bool x.cf, .bool x.rf], .bool true]) ?_ rfl ?_
       · rw [results_cell_tmp rfl]
         show ((asAddr (.pointer (some ⟨B + 1, 0, none⟩))).run _ _).andThen _ = _
         simp only [asAddr, Sem.run_pure, Result.andThen_ok, run_loadVar_row _ _ _ 46 #[.int .i64 m1, .int .i64 m2, .bool x.cf, .bool x.rf] _ _ hrowE Tryz.underlying46 rfl (by kernel_rfl)]
         rfl
       · exact ⟨rfl, hxE⟩
end Go.Proofs.YtdoeejhdenifpaaGreatDoor
