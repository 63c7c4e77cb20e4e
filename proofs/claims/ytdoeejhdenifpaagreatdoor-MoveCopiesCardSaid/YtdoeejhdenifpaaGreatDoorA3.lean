import Derived.Test.YtdoeejhdenifpaaGreatDoorProg
import Derived.Shelf.Unicode.ValidAny
import Derived.Test.YtdoeejhdenifpaaGreatDoorW12
namespace Go.Proofs.YtdoeejhdenifpaaGreatDoor
open Go.Shelf Go.RowKit Go.Lib
def Tryz.valid8_ren : Go.Shelf.Ren := ⟨fun | 196 => 133 | 259 => 159 | n => n, fun | 9 => 9 | 4 => 4 | 3 => 3 | 5 => 5 | 12 => 12 | 119 => 180 | 0 => 0 | 46 => 184 | 139 => 183 | 138 => 182 | 53 => 159 | n => n, fun | 3 => 1 | 4 => 2 | n => n⟩
set_option maxRecDepth 100000 in
theorem Tryz.valid8 : Lays.n196 Tryz.prog Tryz.valid8_ren := {
 mixed := by kernel_rfl
 f196 := Tryz.func133.trans (congrArg some (by kernel_rfl))
 f259 := Tryz.func159.trans (congrArg some (by kernel_rfl))
 t0 := Tryz.underlying0
 a0 := Tryz.isAgg0
 z0 := Tryz.sizeOf0
 v0 := Tryz.zeroValue0
 t3 := Tryz.underlying3
 a3 := Tryz.isAgg3
 z3 := Tryz.sizeOf3
 v3 := Tryz.zeroValue3
 t4 := Tryz.underlying4
 a4 := Tryz.isAgg4
 z4 := Tryz.sizeOf4
 v4 := Tryz.zeroValue4
 t5 := Tryz.underlying5
 a5 := Tryz.isAgg5
 z5 := Tryz.sizeOf5
 v5 := Tryz.zeroValue5
 t9 := Tryz.underlying9
 a9 := Tryz.isAgg9
 z9 := Tryz.sizeOf9
 v9 := Tryz.zeroValue9
 t12 := Tryz.underlying12
 a12 := Tryz.isAgg12
 z12 := Tryz.sizeOf12
 v12 := Tryz.zeroValue12
 t46 := Tryz.underlying184
 a46 := Tryz.isAgg184
 z46 := Tryz.sizeOf184
 v46 := Tryz.zeroValue184
 t53 := Tryz.underlying159
 a53 := Tryz.isAgg159
 z53 := Tryz.sizeOf159
 v53 := Tryz.zeroValue159
 t119 := Tryz.underlying180
 a119 := Tryz.isAgg180
 z119 := Tryz.sizeOf180
 t138 := Tryz.underlying182
 a138 := Tryz.isAgg182
 z138 := Tryz.sizeOf182
 v138 := Tryz.zeroValue182
 t139 := Tryz.underlying183
 a139 := Tryz.isAgg183
 z139 := Tryz.sizeOf183
 v139 := Tryz.zeroValue183
 g3 := by kernel_rfl
 g4 := by kernel_rfl
}
def Tabs (w : World) : Prop := Lib.Utf8Tabs (Tryz.valid8_ren.g 3) (Tryz.valid8_ren.g 4) w
theorem validString_any (s : ByteArray) (w : World) (hs : s.size ≤ 9223372036854775807) (hT : Tabs w) :
    Calls Tryz.prog 133 #[.string s] w fun e w' => e = .returned (.bool (Lib.validD s.data.toList)) ∧ Below w.heap.size w w' :=
 Any.utf8_ValidString Tryz.valid8 s w hs hT
end Go.Proofs.YtdoeejhdenifpaaGreatDoor
namespace Go.Proofs.YtdoeejhdenifpaaGreatDoor
open Go.RowKit Go.Sort
theorem Tabs.xt {w w' : World} (h : Tabs w) (hx : Xt w w') : Tabs w' := by
 refine ⟨fun c hc => ?_, fun i hi => ⟨?_, ?_⟩⟩
 · exact ((hx.cells).1 _ _ (World.block_lt_of_cell? w _ (h.1 c hc))).trans (h.1 c hc)
 · exact ((hx.cells).1 _ _ (World.block_lt_of_cell? w _ (h.2 i hi).1)).trans (h.2 i hi).1
 · exact ((hx.cells).1 _ _ (World.block_lt_of_cell? w _ (h.2 i hi).2)).trans (h.2 i hi).2
abbrev nodeW (k op : Int) (x : Nat) (s : ByteArray) (b : Bool) (f : Int) (r q : RefT) (a : Option Addr) (n cap : Nat) : Value :=
 .agg #[.int .i64 k, .int .i64 op, .float .f64 x, .string s, .bool b, .int .i64 f, .int .i64 r.a.1, .int .i64 r.a.2, .bool r.cf, .bool r.rf, .int .i64 q.a.1, .int .i64 q.a.2, .bool q.cf, .bool q.rf, .slice a n cap]
abbrev zR : RefT := ⟨(0, 0), false, false⟩
end Go.Proofs.YtdoeejhdenifpaaGreatDoor
