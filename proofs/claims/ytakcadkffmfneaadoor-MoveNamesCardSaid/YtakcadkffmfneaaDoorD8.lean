import Derived.Test.YtakcadkffmfneaaDoorD6
import Derived.Test.YtakcadkffmfneaaDoorD2
import Derived.Test.YtakcadkffmfneaaDoorD4
import Derived.Deep.MidRow
import Derived.Laws.Rows
namespace Go.Proofs.YtakcadkffmfneaaDoor
open Go.RowKit Go.Sort

/-! ### rows of twenty-one cells (made by mkgcopy.py) -/
theorem row21 {cs : Array Value} (h : cs.size = 21) (v0 v1 v2 v3 v4 v5 v6 v7 v8 v9 v10 v11 v12 v13 v14 v15 v16 v17 v18 v19 v20 : Value) : (((((((((((((((((((((cs.setIfInBounds 0 v0).setIfInBounds 1 v1).setIfInBounds 2 v2).setIfInBounds 3 v3).setIfInBounds 4 v4).setIfInBounds 5 v5).setIfInBounds 6 v6).setIfInBounds 7 v7).setIfInBounds 8 v8).setIfInBounds 9 v9).setIfInBounds 10 v10).setIfInBounds 11 v11).setIfInBounds 12 v12).setIfInBounds 13 v13).setIfInBounds 14 v14).setIfInBounds 15 v15).setIfInBounds 16 v16).setIfInBounds 17 v17).setIfInBounds 18 v18).setIfInBounds 19 v19).setIfInBounds 20 v20) = #[v0, v1, v2, v3, v4, v5, v6, v7, v8, v9, v10, v11, v12, v13, v14, v15, v16, v17, v18, v19, v20] := by
  obtain ⟨l⟩ := cs
  have h' : l.length = 21 := h
  rcases l with _ | ⟨a0, l⟩
  · simp at h'
  rcases l with _ | ⟨a1, l⟩
  · simp at h'
  rcases l with _ | ⟨a2, l⟩
  · simp at h'
  rcases l with _ | ⟨a3, l⟩
  · simp at h'
  rcases l with _ | ⟨a4, l⟩
  · simp at h'
  rcases l with _ | ⟨a5, l⟩
  · simp at h'
  rcases l with _ | ⟨a6, l⟩
  · simp at h'
  rcases l with _ | ⟨a7, l⟩
  · simp at h'
  rcases l with _ | ⟨a8, l⟩
  · simp at h'
  rcases l with _ | ⟨a9, l⟩
  · simp at h'
  rcases l with _ | ⟨a10, l⟩
  · simp at h'
  rcases l with _ | ⟨a11, l⟩
  · simp at h'
  rcases l with _ | ⟨a12, l⟩
  · simp at h'
  rcases l with _ | ⟨a13, l⟩
  · simp at h'
  rcases l with _ | ⟨a14, l⟩
  · simp at h'
  rcases l with _ | ⟨a15, l⟩
  · simp at h'
  rcases l with _ | ⟨a16, l⟩
  · simp at h'
  rcases l with _ | ⟨a17, l⟩
  · simp at h'
  rcases l with _ | ⟨a18, l⟩
  · simp at h'
  rcases l with _ | ⟨a19, l⟩
  · simp at h'
  rcases l with _ | ⟨a20, l⟩
  · simp at h'
  rcases l with _ | ⟨a21, l⟩
  · simp only [List.setIfInBounds_toArray, List.set_cons_zero, List.set_cons_succ]
  · simp at h'
theorem fill21 {w : World} {b : Nat} {cs : Array Value} {T : TypeId} (h : w.heap[b]? = some (.cells cs T (0, 0))) (hs : cs.size = 21) (v0 v1 v2 v3 v4 v5 v6 v7 v8 v9 v10 v11 v12 v13 v14 v15 v16 v17 v18 v19 v20 : Value) :
    (((((((((((((((((((((w.setCell ⟨b, 0, none⟩ v0).setCell ⟨b, 1, none⟩ v1).setCell ⟨b, 2, none⟩ v2).setCell ⟨b, 3, none⟩ v3).setCell ⟨b, 4, none⟩ v4).setCell ⟨b, 5, none⟩ v5).setCell ⟨b, 6, none⟩ v6).setCell ⟨b, 7, none⟩ v7).setCell ⟨b, 8, none⟩ v8).setCell ⟨b, 9, none⟩ v9).setCell ⟨b, 10, none⟩ v10).setCell ⟨b, 11, none⟩ v11).setCell ⟨b, 12, none⟩ v12).setCell ⟨b, 13, none⟩ v13).setCell ⟨b, 14, none⟩ v14).setCell ⟨b, 15, none⟩ v15).setCell ⟨b, 16, none⟩ v16).setCell ⟨b, 17, none⟩ v17).setCell ⟨b, 18, none⟩ v18).setCell ⟨b, 19, none⟩ v19).setCell ⟨b, 20, none⟩ v20).heap[b]? = some (.cells #[v0, v1, v2, v3, v4, v5, v6, v7, v8, v9, v10, v11, v12, v13, v14, v15, v16, v17, v18, v19, v20] T (0, 0)) ∧ w.grownBy (((((((((((((((((((((w.setCell ⟨b, 0, none⟩ v0).setCell ⟨b, 1, none⟩ v1).setCell ⟨b, 2, none⟩ v2).setCell ⟨b, 3, none⟩ v3).setCell ⟨b, 4, none⟩ v4).setCell ⟨b, 5, none⟩ v5).setCell ⟨b, 6, none⟩ v6).setCell ⟨b, 7, none⟩ v7).setCell ⟨b, 8, none⟩ v8).setCell ⟨b, 9, none⟩ v9).setCell ⟨b, 10, none⟩ v10).setCell ⟨b, 11, none⟩ v11).setCell ⟨b, 12, none⟩ v12).setCell ⟨b, 13, none⟩ v13).setCell ⟨b, 14, none⟩ v14).setCell ⟨b, 15, none⟩ v15).setCell ⟨b, 16, none⟩ v16).setCell ⟨b, 17, none⟩ v17).setCell ⟨b, 18, none⟩ v18).setCell ⟨b, 19, none⟩ v19).setCell ⟨b, 20, none⟩ v20) (some b) := by
  refine ⟨?_, (grown_set (grown_set (grown_set (grown_set (grown_set (grown_set (grown_set (grown_set (grown_set (grown_set (grown_set (grown_set (grown_set (grown_set (grown_set (grown_set (grown_set (grown_set (grown_set (grown_set (grown_set (World.grownBy.refl w _) 0 v0) 1 v1) 2 v2) 3 v3) 4 v4) 5 v5) 6 v6) 7 v7) 8 v8) 9 v9) 10 v10) 11 v11) 12 v12) 13 v13) 14 v14) 15 v15) 16 v16) 17 v17) 18 v18) 19 v19) 20 v20)⟩
  rw [← row21 hs]
  exact (setCell_row (setCell_row (setCell_row (setCell_row (setCell_row (setCell_row (setCell_row (setCell_row (setCell_row (setCell_row (setCell_row (setCell_row (setCell_row (setCell_row (setCell_row (setCell_row (setCell_row (setCell_row (setCell_row (setCell_row (setCell_row h 0 v0) 1 v1) 2 v2) 3 v3) 4 v4) 5 v5) 6 v6) 7 v7) 8 v8) 9 v9) 10 v10) 11 v11) 12 v12) 13 v13) 14 v14) 15 v15) 16 v16) 17 v17) 18 v18) 19 v19) 20 v20)
theorem grown15at6 (w : World) (b : Nat) (u0 u1 u2 u3 u4 u5 u6 u7 u8 u9 u10 u11 u12 u13 u14 : Value) : w.grownBy (((((((((((((((w.setCell ⟨b, 6, none⟩ u0).setCell ⟨b, 7, none⟩ u1).setCell ⟨b, 8, none⟩ u2).setCell ⟨b, 9, none⟩ u3).setCell ⟨b, 10, none⟩ u4).setCell ⟨b, 11, none⟩ u5).setCell ⟨b, 12, none⟩ u6).setCell ⟨b, 13, none⟩ u7).setCell ⟨b, 14, none⟩ u8).setCell ⟨b, 15, none⟩ u9).setCell ⟨b, 16, none⟩ u10).setCell ⟨b, 17, none⟩ u11).setCell ⟨b, 18, none⟩ u12).setCell ⟨b, 19, none⟩ u13).setCell ⟨b, 20, none⟩ u14) (some b) := (grown_set (grown_set (grown_set (grown_set (grown_set (grown_set (grown_set (grown_set (grown_set (grown_set (grown_set (grown_set (grown_set (grown_set (grown_set (World.grownBy.refl w _) 6 u0) 7 u1) 8 u2) 9 u3) 10 u4) 11 u5) 12 u6) 13 u7) 14 u8) 15 u9) 16 u10) 17 u11) 18 u12) 19 u13) 20 u14)
theorem cells21 {w : World} {b : Nat} {v0 v1 v2 v3 v4 v5 v6 v7 v8 v9 v10 v11 v12 v13 v14 v15 v16 v17 v18 v19 v20 : Value} {T : TypeId} (h : w.heap[b]? = some (.cells #[v0, v1, v2, v3, v4, v5, v6, v7, v8, v9, v10, v11, v12, v13, v14, v15, v16, v17, v18, v19, v20] T (0, 0))) : w.cell? ⟨b, 0, none⟩ = some v0 ∧ w.cell? ⟨b, 1, none⟩ = some v1 ∧ w.cell? ⟨b, 2, none⟩ = some v2 ∧ w.cell? ⟨b, 3, none⟩ = some v3 ∧ w.cell? ⟨b, 4, none⟩ = some v4 ∧ w.cell? ⟨b, 5, none⟩ = some v5 ∧ w.cell? ⟨b, 6, none⟩ = some v6 ∧ w.cell? ⟨b, 7, none⟩ = some v7 ∧ w.cell? ⟨b, 8, none⟩ = some v8 ∧ w.cell? ⟨b, 9, none⟩ = some v9 ∧ w.cell? ⟨b, 10, none⟩ = some v10 ∧ w.cell? ⟨b, 11, none⟩ = some v11 ∧ w.cell? ⟨b, 12, none⟩ = some v12 ∧ w.cell? ⟨b, 13, none⟩ = some v13 ∧ w.cell? ⟨b, 14, none⟩ = some v14 ∧ w.cell? ⟨b, 15, none⟩ = some v15 ∧ w.cell? ⟨b, 16, none⟩ = some v16 ∧ w.cell? ⟨b, 17, none⟩ = some v17 ∧ w.cell? ⟨b, 18, none⟩ = some v18 ∧ w.cell? ⟨b, 19, none⟩ = some v19 ∧ w.cell? ⟨b, 20, none⟩ = some v20 := by
  have hk : ∀ o v, #[v0, v1, v2, v3, v4, v5, v6, v7, v8, v9, v10, v11, v12, v13, v14, v15, v16, v17, v18, v19, v20][o]? = some v → w.cell? ⟨b, o, none⟩ = some v := fun o v ho => by simpa [World.cell?, h] using ho
  exact ⟨hk 0 _ rfl, hk 1 _ rfl, hk 2 _ rfl, hk 3 _ rfl, hk 4 _ rfl, hk 5 _ rfl, hk 6 _ rfl, hk 7 _ rfl, hk 8 _ rfl, hk 9 _ rfl, hk 10 _ rfl, hk 11 _ rfl, hk 12 _ rfl, hk 13 _ rfl, hk 14 _ rfl, hk 15 _ rfl, hk 16 _ rfl, hk 17 _ rfl, hk 18 _ rfl, hk 19 _ rfl, hk 20 _ rfl⟩
theorem frozen21 {w : World} {b : Nat} {cs : Array Value} {T : TypeId} (h : w.heap[b]? = some (.cells cs T (0, 0))) : w.frozen? ⟨b, 0, none⟩ = false ∧ w.frozen? ⟨b, 1, none⟩ = false ∧ w.frozen? ⟨b, 2, none⟩ = false ∧ w.frozen? ⟨b, 3, none⟩ = false ∧ w.frozen? ⟨b, 4, none⟩ = false ∧ w.frozen? ⟨b, 5, none⟩ = false ∧ w.frozen? ⟨b, 6, none⟩ = false ∧ w.frozen? ⟨b, 7, none⟩ = false ∧ w.frozen? ⟨b, 8, none⟩ = false ∧ w.frozen? ⟨b, 9, none⟩ = false ∧ w.frozen? ⟨b, 10, none⟩ = false ∧ w.frozen? ⟨b, 11, none⟩ = false ∧ w.frozen? ⟨b, 12, none⟩ = false ∧ w.frozen? ⟨b, 13, none⟩ = false ∧ w.frozen? ⟨b, 14, none⟩ = false ∧ w.frozen? ⟨b, 15, none⟩ = false ∧ w.frozen? ⟨b, 16, none⟩ = false ∧ w.frozen? ⟨b, 17, none⟩ = false ∧ w.frozen? ⟨b, 18, none⟩ = false ∧ w.frozen? ⟨b, 19, none⟩ = false ∧ w.frozen? ⟨b, 20, none⟩ = false := by
  have hk : ∀ o, w.frozen? ⟨b, o, none⟩ = false := fun o => by simp [World.frozen?, h]
  exact ⟨hk 0, hk 1, hk 2, hk 3, hk 4, hk 5, hk 6, hk 7, hk 8, hk 9, hk 10, hk 11, hk 12, hk 13, hk 14, hk 15, hk 16, hk 17, hk 18, hk 19, hk 20⟩
theorem run_store_rowAt {P : Program} (w : World) (g : Nat) (t ty : TypeId) (old cells : Array Value) (hg : w.heap[g]? = some (.cells old t (0, 0))) (hi : (P.info? ty).map (·.size) = some cells.size) (ho : old.size = cells.size) (h1 : cells.all (·.oneCell') = true) :
    (Instr.storeAt ty (.pointer (some ⟨g, 0, none⟩)) (.agg cells)).run P w = .ok () (w.setRow g cells) := by
  simp only [Instr.storeAt, Instr.sureAddr, Sem.run_bind, Sem.run_pure, Result.andThen_ok, run_storeVar_row w g t ty old cells hg hi ho h1]
theorem run_load_rowAt {P : Program} (w : World) (g : Nat) (t ty : TypeId) (cs : Array Value) (fr : Nat × Nat) (d : TypeDesc) (hg : w.heap[g]? = some (.cells cs t fr))
    (hu : P.underlying ty = some d) (hd : (match d with | .struct _ | .array _ _ => true | _ => false) = true) (hi : (P.info? ty).map (·.size) = some cs.size) :
    (Instr.loadAt ty (.pointer (some ⟨g, 0, none⟩))).run P w = .ok (.agg cs) w := by
  simp only [Instr.loadAt, Instr.sureAddr, Sem.run_bind, Sem.run_pure, Result.andThen_ok, run_loadVar_row w g t ty cs fr d hg hu hd hi]
theorem setRow_grown (w : World) (g : Nat) (cs : Array Value) : w.grownBy (w.setRow g cs) (some g) := ⟨rfl, rfl, rfl, by simp, fun k _ hk => setRow_other w g k _ (fun e => hk (by rw [e]))⟩
theorem there_row {w : World} {b : Nat} {cs : Array Value} {T : TypeId} (h : w.heap[b]? = some (.cells cs T (0, 0))) (o n : Nat) (hn : o + n ≤ cs.size) : w.there b o n := fun j hj => by
  have : o + j < cs.size := by omega
  exact ⟨by simp [World.cell?, h, this], by simp [World.frozen?, h]⟩
theorem fill15at6 {w : World} {b : Nat} {v0 v1 v2 v3 v4 v5 v6 v7 v8 v9 v10 v11 v12 v13 v14 v15 v16 v17 v18 v19 v20 u0 u1 u2 u3 u4 u5 u6 u7 u8 u9 u10 u11 u12 u13 u14 : Value} {T : TypeId} (h : w.heap[b]? = some (.cells #[v0, v1, v2, v3, v4, v5, v6, v7, v8, v9, v10, v11, v12, v13, v14, v15, v16, v17, v18, v19, v20] T (0, 0))) : (w.setCells b 6 [u0, u1, u2, u3, u4, u5, u6, u7, u8, u9, u10, u11, u12, u13, u14]).heap[b]? = some (.cells #[v0, v1, v2, v3, v4, v5, u0, u1, u2, u3, u4, u5, u6, u7, u8, u9, u10, u11, u12, u13, u14] T (0, 0)) := by
  have := (setCell_row (setCell_row (setCell_row (setCell_row (setCell_row (setCell_row (setCell_row (setCell_row (setCell_row (setCell_row (setCell_row (setCell_row (setCell_row (setCell_row (setCell_row h 6 u0) 7 u1) 8 u2) 9 u3) 10 u4) 11 u5) 12 u6) 13 u7) 14 u8) 15 u9) 16 u10) 17 u11) 18 u12) 19 u13) 20 u14)
  simp only [List.setIfInBounds_toArray, List.set_cons_zero, List.set_cons_succ] at this
  exact this
/-! ### what a content's copy is -/
def copyC (c : ContT) : ContT := ⟨c.kind, { c.v with x := oneX c.v.x }, copyT c.t⟩
theorem copyT_kind (t : NodeT) : (copyT t).kind = t.kind := by cases t; rfl
theorem copyT_op (t : NodeT) : (copyT t).op = t.op := by cases t; rfl
theorem copyT_x (t : NodeT) : (copyT t).x = oneX t.x := by cases t; rfl
theorem copyT_s (t : NodeT) : (copyT t).s = t.s := by cases t; rfl
theorem copyT_b (t : NodeT) : (copyT t).b = t.b := by cases t; rfl
theorem copyT_f (t : NodeT) : (copyT t).f = t.f := by cases t; rfl
theorem copyT_ref (t : NodeT) : (copyT t).ref = t.ref := by cases t; rfl
theorem copyT_to (t : NodeT) : (copyT t).to = t.to := by cases t; rfl
theorem copyT_args (t : NodeT) : (copyT t).args = copyL t.args := by cases t; rfl
theorem copyT_len (t : NodeT) : (copyT t).args.length = t.args.length := by rw [copyT_args, copyL_map]; simp
/-- A content's copy, as a value; a: where its list lies. -/
abbrev copyCV (c : ContT) (a : Option Addr) : Value := contV (copyC c) a c.t.args.length c.t.args.length
theorem copyCV_eq (c : ContT) (a : Option Addr) : copyCV c a = .agg #[.int .i64 c.kind, .int .i64 c.v.kind, .float .f64 (oneX c.v.x), .string c.v.s, .bool c.v.b, .int .i64 c.v.f, .int .i64 c.t.kind, .int .i64 c.t.op, .float .f64 (oneX c.t.x), .string c.t.s, .bool c.t.b, .int .i64 c.t.f, .int .i64 c.t.ref.a.1, .int .i64 c.t.ref.a.2, .bool c.t.ref.cf, .bool c.t.ref.rf, .int .i64 c.t.to.a.1, .int .i64 c.t.to.a.2, .bool c.t.to.cf, .bool c.t.to.rf, .slice a c.t.args.length c.t.args.length] := by
  simp only [copyCV, contV, copyC, copyT_kind, copyT_op, copyT_x, copyT_s, copyT_b, copyT_f, copyT_ref, copyT_to]
end Go.Proofs.YtakcadkffmfneaaDoor
