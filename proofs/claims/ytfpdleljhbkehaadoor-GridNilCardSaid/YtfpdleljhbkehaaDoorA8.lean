import Derived.Test.YtfpdleljhbkehaaDoorW34
import Derived.Deep.MidRow
import Derived.Laws.Tables
import Derived.OwnWalkIn
import Derived.BigFrameIn
namespace Go.Proofs.YtfpdleljhbkehaaDoor
open Go.RowKit Go.Sort

/-! ### no grid's Clone, Equal, Puts -/
theorem gcloneNil_any (w : World) : Calls Tryd.prog 21 #[.pointer none] w fun e w' => e = .returned (.pointer none) ∧ Xt w w' := by
  go_enter Tryd.func21, Tryd.ntmps21
  go_wp2
  go_ret
  exact ⟨rfl, Xt.refl _⟩
theorem gequalNil_any (v : Option Addr) (w : World) : Calls Tryd.prog 15 #[.pointer none, .pointer v] w fun e w' => e = .returned (.bool false) ∧ Xt w w' := by
  go_enter Tryd.func15, Tryd.ntmps15
  go_wp2_with fail
  go_quiet (fail)
  go_wp2_with fail
  go_ret
  exact ⟨rfl, Gr.xt ((Gr.refl _).drewN _)⟩
set_option maxRecDepth 100000 in
theorem gputsNil_any (v : Option Addr) (w : World) : Calls Tryd.prog 16 #[.pointer none, .pointer v] w fun e w' => e = .returned (.slice none 0 0) ∧ Xt w w' := by
  go_enter Tryd.func16, Tryd.ntmps16
  go_wp2
  all_goals (go_ret; exact ⟨rfl, by first | exact Xt.refl _ | exact (Xt.refl _).alloc _⟩)
end Go.Proofs.YtfpdleljhbkehaaDoor
/- The laws of rows (loads and stores of many cells), for the fenced walk. -/
namespace Go.Proofs.YtfpdleljhbkehaaDoor
open Go.RowKit

theorem run_equalIn_func_nil {P : Program} (w : World) (d : Nat) (t : TypeId) (ps rs : Array TypeId) (v : Bool) (fn : Fn) (fi ca : Array Value) (h : P.underlying t = some (.func ps rs v)) :
    (Op.equalIn (d + 1) t (.func fn fi ca) .nilFunc).run P w = .ok false w := by simp [Op.equalIn, run_underlying h]
theorem run_eql_func_nil {P : Program} (w : World) (t : TypeId) (ps rs : Array TypeId) (v : Bool) (fn : Fn) (fi ca : Array Value) (h : P.underlying t = some (.func ps rs v)) :
    (binOp .eql t (.func fn fi ca) .nilFunc).run P w = .ok (.bool false) w := by
  simp only [binOp]
  simp [show Op.equal t (.func fn fi ca) .nilFunc = Op.equalIn (9999 + 1) t (.func fn fi ca) .nilFunc from rfl, run_equalIn_func_nil w 9999 t ps rs v fn fi ca h]
section
variable {F : Fence} {n : Nat} {P : Program} {o : Oper} {a : Act} {w : World} {K : Act → World → Prop} {Q : Exit → Act → World → Prop}
theorem wpIn_load_row (ty : TypeId) (x : Operand) (ho : o.op = .load ty x) (g : Nat) (hx : a.eval x = .pointer (some ⟨g, 0, none⟩)) (t : TypeId) (cs : Array Value) (fr : Nat × Nat) (d : TypeDesc) (hg : w.heap[g]? = some (.cells cs t fr))
    (hu : P.underlying ty = some d) (hd : (match d with | .struct _ | .array _ _ => true | _ => false) = true) (hi : (P.info? ty).map (·.size) = some cs.size)
    (h : K (a.put o.dst (.agg cs)) w) : o.wpIn F n P a w K Q := by
  refine ⟨fun f hf => ?_, ?_⟩
  · simp [Oper.about, ho] at hf
  · rw [Oper.semAt_plain F _ _ (by rw [ho]; intro c hc'; cases hc')]
    unfold execOp
    simp only [ho, hx, Instr.loadAt, Instr.sureAddr, Sem.run_bind, Sem.run_pure, Result.andThen_ok, run_loadVar_row w g t ty cs fr d hg hu hd hi]
    exact h
theorem wpIn_load_mid (ty : TypeId) (x : Operand) (ho : o.op = .load ty x) (b off : Nat) (hx : a.eval x = .pointer (some ⟨b, off, none⟩)) (cs : List Value) (d : TypeDesc) (hc : w.rangeAt b off cs)
    (hu : P.underlying ty = some d) (hd : d.isRow = true) (hi : (P.info? ty).map (·.size) = some cs.length)
    (h : K (a.put o.dst (.agg cs.toArray)) w) : o.wpIn F n P a w K Q := by
  refine ⟨fun f hf => ?_, ?_⟩
  · simp [Oper.about, ho] at hf
  · rw [Oper.semAt_plain F _ _ (by rw [ho]; intro c hc'; cases hc')]
    unfold execOp
    simp only [ho, hx, Instr.loadAt, Instr.sureAddr, Sem.run_bind, Sem.run_pure, Result.andThen_ok, run_loadVar_mid w b off ty cs d hc hu hd hi]
    exact h
theorem wpIn_store_row (ty : TypeId) (x y : Operand) (ho : o.op = .store ty x y) (g : Nat) (cells : Array Value) (hx : a.eval x = .pointer (some ⟨g, 0, none⟩)) (hy : a.eval y = .agg cells)
    (t : TypeId) (old : Array Value) (hg : w.heap[g]? = some (.cells old t (0, 0))) (hi : (P.info? ty).map (·.size) = some cells.size)
    (hold : old.size = cells.size) (h1 : cells.all (·.oneCell') = true)
    (h : K (a.put o.dst undef) (w.setRow g cells)) : o.wpIn F n P a w K Q := by
  refine ⟨fun f hf => ?_, ?_⟩
  · simp [Oper.about, ho] at hf
  · rw [Oper.semAt_plain F _ _ (by rw [ho]; intro c hc'; cases hc')]
    unfold execOp
    simp only [ho, hx, hy, Instr.storeAt, Instr.sureAddr, Sem.run_bind, Sem.run_pure, Result.andThen_ok, run_storeVar_row w g t ty old cells hg hi hold h1]
    exact h
end
section
variable {F : Fence} {n : Nat} {P : Program} {ops : Array Oper} {rest : List Oper} {o : Oper} {a : Act} {w : World} {Q : Exit → Act → World → Prop}
theorem wpListIn_load_row (hgd : o.guard = none) (ty : TypeId) (x : Operand) (ho : o.op = .load ty x) (g : Nat) (hx : a.eval x = .pointer (some ⟨g, 0, none⟩)) (t : TypeId) (cs : Array Value) (fr : Nat × Nat) (d : TypeDesc) (hg : w.heap[g]? = some (.cells cs t fr))
    (hu : P.underlying ty = some d) (hd : (match d with | .struct _ | .array _ _ => true | _ => false) = true) (hi : (P.info? ty).map (·.size) = some cs.size)
    (h : wpListIn F n P ops Q rest (a.put o.dst (.agg cs)) w) : wpListIn F n P ops Q (o :: rest) a w :=
  wpListIn_plain hgd fun _ hK => wpIn_load_row ty x ho g hx t cs fr d hg hu hd hi (hK _ _ h)
theorem wpListIn_load_mid (hgd : o.guard = none) (ty : TypeId) (x : Operand) (ho : o.op = .load ty x) (b off : Nat) (hx : a.eval x = .pointer (some ⟨b, off, none⟩)) (cs : List Value) (d : TypeDesc) (hc : w.rangeAt b off cs)
    (hu : P.underlying ty = some d) (hd : d.isRow = true) (hi : (P.info? ty).map (·.size) = some cs.length)
    (h : wpListIn F n P ops Q rest (a.put o.dst (.agg cs.toArray)) w) : wpListIn F n P ops Q (o :: rest) a w :=
  wpListIn_plain hgd fun _ hK => wpIn_load_mid ty x ho b off hx cs d hc hu hd hi (hK _ _ h)
theorem wpListIn_store_row (hgd : o.guard = none) (ty : TypeId) (x y : Operand) (ho : o.op = .store ty x y) (g : Nat) (cells : Array Value) (hx : a.eval x = .pointer (some ⟨g, 0, none⟩)) (hy : a.eval y = .agg cells)
    (t : TypeId) (old : Array Value) (hg : w.heap[g]? = some (.cells old t (0, 0))) (hi : (P.info? ty).map (·.size) = some cells.size)
    (hold : old.size = cells.size) (h1 : cells.all (·.oneCell') = true)
    (h : wpListIn F n P ops Q rest (a.put o.dst undef) (w.setRow g cells)) : wpListIn F n P ops Q (o :: rest) a w :=
  wpListIn_plain hgd fun _ hK => wpIn_store_row ty x y ho g cells hx hy t old hg hi hold h1 (hK _ _ h)
end
end Go.Proofs.YtfpdleljhbkehaaDoor
