import Derived.Test.YtdoeejhdenifpaaGreatDoorProg
import Derived.Shelf.SlSortCmp.WholeK
import Derived.Shelf.SlicesE.Clone
namespace Go.Proofs.YtdoeejhdenifpaaGreatDoor
section
open Go.Shelf Go.RowKit Go.Lib Go.Sort
def Tryz.sortAd_ren : Go.Shelf.Ren := ⟨fun | 6 => 151 | 15 => 167 | 14 => 166 | 28 => 187 | 29 => 188 | 20 => 179 | 21 => 180 | 22 => 181 | 23 => 182 | 24 => 183 | 25 => 184 | 26 => 185 | 27 => 186 | 46 => 194 | 47 => 195 | 48 => 196 | 49 => 197 | 50 => 198 | 57 => 199 | n => n, fun | 22 => 80 | 24 => 24 | 25 => 142 | 3 => 3 | 39 => 184 | 0 => 0 | 53 => 207 | 55 => 159 | 4 => 4 | 46 => 201 | 45 => 200 | 50 => 117 | 5 => 5 | 9 => 9 | 66 => 213 | 70 => 217 | 76 => 219 | 77 => 90 | n => n, fun | n => n⟩
theorem Tryz.sortAd : Go.Proofs.SlLaysF0.n6 Tryz.prog Tryz.sortAd_ren := {
 mixed := by kernel_rfl
 f6 := ⟨Tryz.f151.name, by decide, Tryz.func151.trans (congrArg some (by kernel_rfl))⟩
 f14 := ⟨Tryz.f166.name, by decide, Tryz.func166.trans (congrArg some (by kernel_rfl))⟩
 f15 := Tryz.func167.trans (congrArg some (by kernel_rfl))
 f20 := ⟨Tryz.f179.name, by decide, Tryz.func179.trans (congrArg some (by kernel_rfl))⟩
 f21 := ⟨Tryz.f180.name, by decide, Tryz.func180.trans (congrArg some (by kernel_rfl))⟩
 f22 := ⟨Tryz.f181.name, by decide, Tryz.func181.trans (congrArg some (by kernel_rfl))⟩
 f23 := ⟨Tryz.f182.name, by decide, Tryz.func182.trans (congrArg some (by kernel_rfl))⟩
 f24 := ⟨Tryz.f183.name, by decide, Tryz.func183.trans (congrArg some (by kernel_rfl))⟩
 f25 := ⟨Tryz.f184.name, by decide, Tryz.func184.trans (congrArg some (by kernel_rfl))⟩
 f26 := ⟨Tryz.f185.name, by decide, Tryz.func185.trans (congrArg some (by kernel_rfl))⟩
 f27 := ⟨Tryz.f186.name, by decide, Tryz.func186.trans (congrArg some (by kernel_rfl))⟩
 f28 := Tryz.func187.trans (congrArg some (by kernel_rfl))
 f29 := Tryz.func188.trans (congrArg some (by kernel_rfl))
 f46 := ⟨Tryz.f194.name, by decide, Tryz.func194.trans (congrArg some (by kernel_rfl))⟩
 f47 := Tryz.func195.trans (congrArg some (by kernel_rfl))
 f48 := Tryz.func196.trans (congrArg some (by kernel_rfl))
 f49 := ⟨Tryz.f197.name, by decide, Tryz.func197.trans (congrArg some (by kernel_rfl))⟩
 f50 := ⟨Tryz.f198.name, by decide, Tryz.func198.trans (congrArg some (by kernel_rfl))⟩
 f57 := ⟨Tryz.f199.name, by decide, Tryz.func199.trans (congrArg some (by kernel_rfl))⟩
 t0 := Tryz.underlying0
 a0 := Tryz.isAgg0
 z0 := Tryz.sizeOf0
 v0 := Tryz.zeroValue0
 t3 := Tryz.underlying3
 a3 := Tryz.isAgg3
 z3 := Tryz.sizeOf3
 v3 := Tryz.zeroValue3
 t4 := Tryz.underlying4
 a4 := Tryz.isAgg4
 z4 := Tryz.sizeOf4
 v4 := Tryz.zeroValue4
 t5 := Tryz.underlying5
 a5 := Tryz.isAgg5
 z5 := Tryz.sizeOf5
 v5 := Tryz.zeroValue5
 t9 := Tryz.underlying9
 a9 := Tryz.isAgg9
 z9 := Tryz.sizeOf9
 v9 := Tryz.zeroValue9
 t22 := Tryz.underlying80
 a22 := Tryz.isAgg80
 z22 := Tryz.sizeOf80
 v22 := Tryz.zeroValue80
 t25 := Tryz.underlying142
 a25 := Tryz.isAgg142
 z25 := Tryz.sizeOf142
 v25 := Tryz.zeroValue142
 t39 := Tryz.underlying184
 a39 := Tryz.isAgg184
 z39 := Tryz.sizeOf184
 v39 := Tryz.zeroValue184
 t45 := Tryz.underlying200
 a45 := Tryz.isAgg200
 z45 := Tryz.sizeOf200
 v45 := Tryz.zeroValue200
 t46 := Tryz.underlying201
 a46 := Tryz.isAgg201
 z46 := Tryz.sizeOf201
 v46 := Tryz.zeroValue201
 t50 := Tryz.underlying117
 a50 := Tryz.isAgg117
 z50 := Tryz.sizeOf117
 v50 := Tryz.zeroValue117
 t53 := Tryz.underlying207
 a53 := Tryz.isAgg207
 z53 := Tryz.sizeOf207
 v53 := Tryz.zeroValue207
 t55 := Tryz.underlying159
 a55 := Tryz.isAgg159
 z55 := Tryz.sizeOf159
 v55 := Tryz.zeroValue159
 t66 := Tryz.underlying213
 a66 := Tryz.isAgg213
 z66 := Tryz.sizeOf213
 v66 := Tryz.zeroValue213
 t70 := Tryz.underlying217
 a70 := Tryz.isAgg217
 z70 := Tryz.sizeOf217
 v70 := Tryz.zeroValue217
 t76 := Tryz.underlying219
 a76 := Tryz.isAgg219
 z76 := Tryz.sizeOf219
 v76 := Tryz.zeroValue219
 t77 := Tryz.underlying90
 a77 := Tryz.isAgg90
 z77 := Tryz.sizeOf90
 v77 := Tryz.zeroValue90 }
end
end Go.Proofs.YtdoeejhdenifpaaGreatDoor
