/- Own text for the seat: LayS. -/
import Derived.Shelf.SlIterI.Nil
import Derived.Shelf.SortM.Plain
import Derived.Test.YtdlenbajhalknaaGreatProg
set_option linter.unusedVariables false
set_option linter.unusedSimpArgs false
set_option linter.unnecessarySimpa false
set_option linter.deprecated false
set_option maxRecDepth 100000
namespace Go.Proofs
open Go.RowKit Go.Maps Go.Sort Go.Shelf
def Tryz.keysP_ren : Go.Shelf.Ren := ⟨fun | 7 => 64 | 10 => 102 | n => n, fun | 23 => 79 | 26 => 3 | 3 => 127 | 28 => 124 | 0 => 0 | 27 => 123 | 33 => 99 | 4 => 4 | n => n, fun  | n => n⟩
theorem Tryz.keysP : SlLaysZI.n7 Tryz.prog Tryz.keysP_ren where
  mixed := by kernel_rfl
  f7 := ⟨Tryz.f64.name, by decide, Tryz.func64.trans (congrArg some (by kernel_rfl))⟩
  f10 := ⟨Tryz.f102.name, by decide, Tryz.func102.trans (congrArg some (by kernel_rfl))⟩
  t0 := Tryz.underlying0
  a0 := Tryz.isAgg0
  z0 := Tryz.sizeOf0
  v0 := Tryz.zeroValue0
  t4 := Tryz.underlying4
  a4 := Tryz.isAgg4
  z4 := Tryz.sizeOf4
  v4 := Tryz.zeroValue4
  t23 := Tryz.underlying79
  a23 := Tryz.isAgg79
  z23 := Tryz.sizeOf79
  v23 := Tryz.zeroValue79
  t26 := Tryz.underlying3
  a26 := Tryz.isAgg3
  z26 := Tryz.sizeOf3
  v26 := Tryz.zeroValue3
  t27 := Tryz.underlying123
  a27 := Tryz.isAgg123
  z27 := Tryz.sizeOf123
  v27 := Tryz.zeroValue123
  t28 := Tryz.underlying124
  a28 := Tryz.isAgg124
  z28 := Tryz.sizeOf124
  v28 := Tryz.zeroValue124
  t33 := Tryz.underlying99
  a33 := Tryz.isAgg99
  z33 := Tryz.sizeOf99
  v33 := Tryz.zeroValue99
def Tryz.sortedI_ren : Go.Shelf.Ren := ⟨fun | 6 => 63 | 8 => 100 | 9 => 101 | 11 => 143 | 13 => 145 | 12 => 144 | 23 => 177 | 24 => 178 | 14 => 168 | 15 => 169 | 16 => 170 | 17 => 171 | 18 => 172 | 19 => 173 | 20 => 174 | 21 => 175 | 22 => 176 | 25 => 189 | 26 => 190 | 27 => 191 | 28 => 192 | 29 => 193 | 30 => 194 | 31 => 196 | n => n, fun | 26 => 3 | 28 => 124 | 24 => 80 | 0 => 0 | 3 => 3 | 37 => 87 | 48 => 131 | 50 => 28 | 4 => 4 | 40 => 218 | 39 => 217 | 45 => 174 | 5 => 5 | 9 => 9 | 51 => 232 | 55 => 235 | 57 => 238 | 58 => 75 | 33 => 99 | n => n, fun  | n => n⟩
theorem Tryz.sortedI : SlLaysZI.n6 Tryz.prog Tryz.sortedI_ren where
  mixed := by kernel_rfl
  f6 := ⟨Tryz.f63.name, by decide, Tryz.func63.trans (congrArg some (by kernel_rfl))⟩
  f8 := ⟨Tryz.f100.name, by decide, Tryz.func100.trans (congrArg some (by kernel_rfl))⟩
  f11 := ⟨Tryz.f143.name, by decide, Tryz.func143.trans (congrArg some (by kernel_rfl))⟩
  t0 := Tryz.underlying0
  a0 := Tryz.isAgg0
  z0 := Tryz.sizeOf0
  v0 := Tryz.zeroValue0
  t24 := Tryz.underlying80
  a24 := Tryz.isAgg80
  z24 := Tryz.sizeOf80
  v24 := Tryz.zeroValue80
  t26 := Tryz.underlying3
  a26 := Tryz.isAgg3
  z26 := Tryz.sizeOf3
  v26 := Tryz.zeroValue3
  t28 := Tryz.underlying124
  a28 := Tryz.isAgg124
  z28 := Tryz.sizeOf124
  v28 := Tryz.zeroValue124
  i26 := by kernel_rfl
def Tryz.sortI_ren : Go.Shelf.Ren := ⟨fun | 5 => 101 | 8 => 145 | 7 => 144 | 19 => 177 | 20 => 178 | 10 => 168 | 11 => 169 | 12 => 170 | 13 => 171 | 14 => 172 | 15 => 173 | 16 => 174 | 17 => 175 | 18 => 176 | 30 => 189 | 31 => 190 | 32 => 191 | 33 => 192 | 34 => 193 | 35 => 194 | 40 => 196 | n => n, fun | 23 => 80 | 25 => 3 | 3 => 3 | 32 => 87 | 22 => 80 | 0 => 0 | 44 => 131 | 46 => 28 | 4 => 4 | 36 => 218 | 35 => 217 | 41 => 174 | 5 => 5 | 9 => 9 | 53 => 232 | 57 => 235 | 63 => 238 | 64 => 75 | n => n, fun  | n => n⟩
theorem Tryz.sortI : SlLaysM.n5 Tryz.prog Tryz.sortI_ren where
  mixed := by kernel_rfl
  f5 := ⟨Tryz.f101.name, by decide, Tryz.func101.trans (congrArg some (by kernel_rfl))⟩
  f7 := ⟨Tryz.f144.name, by decide, Tryz.func144.trans (congrArg some (by kernel_rfl))⟩
  f8 := Tryz.func145.trans (congrArg some (by kernel_rfl))
  f10 := ⟨Tryz.f168.name, by decide, Tryz.func168.trans (congrArg some (by kernel_rfl))⟩
  f11 := ⟨Tryz.f169.name, by decide, Tryz.func169.trans (congrArg some (by kernel_rfl))⟩
  f12 := ⟨Tryz.f170.name, by decide, Tryz.func170.trans (congrArg some (by kernel_rfl))⟩
  f13 := ⟨Tryz.f171.name, by decide, Tryz.func171.trans (congrArg some (by kernel_rfl))⟩
  f14 := ⟨Tryz.f172.name, by decide, Tryz.func172.trans (congrArg some (by kernel_rfl))⟩
  f15 := ⟨Tryz.f173.name, by decide, Tryz.func173.trans (congrArg some (by kernel_rfl))⟩
  f16 := ⟨Tryz.f174.name, by decide, Tryz.func174.trans (congrArg some (by kernel_rfl))⟩
  f17 := ⟨Tryz.f175.name, by decide, Tryz.func175.trans (congrArg some (by kernel_rfl))⟩
  f18 := ⟨Tryz.f176.name, by decide, Tryz.func176.trans (congrArg some (by kernel_rfl))⟩
  f19 := Tryz.func177.trans (congrArg some (by kernel_rfl))
  f20 := Tryz.func178.trans (congrArg some (by kernel_rfl))
  f30 := ⟨Tryz.f189.name, by decide, Tryz.func189.trans (congrArg some (by kernel_rfl))⟩
  f31 := Tryz.func190.trans (congrArg some (by kernel_rfl))
  f32 := Tryz.func191.trans (congrArg some (by kernel_rfl))
  f33 := ⟨Tryz.f192.name, by decide, Tryz.func192.trans (congrArg some (by kernel_rfl))⟩
  f34 := ⟨Tryz.f193.name, by decide, Tryz.func193.trans (congrArg some (by kernel_rfl))⟩
  f35 := ⟨Tryz.f194.name, by decide, Tryz.func194.trans (congrArg some (by kernel_rfl))⟩
  f40 := ⟨Tryz.f196.name, by decide, Tryz.func196.trans (congrArg some (by kernel_rfl))⟩
  t0 := Tryz.underlying0
  a0 := Tryz.isAgg0
  z0 := Tryz.sizeOf0
  v0 := Tryz.zeroValue0
  t3 := Tryz.underlying3
  a3 := Tryz.isAgg3
  z3 := Tryz.sizeOf3
  v3 := Tryz.zeroValue3
  t4 := Tryz.underlying4
  a4 := Tryz.isAgg4
  z4 := Tryz.sizeOf4
  v4 := Tryz.zeroValue4
  t5 := Tryz.underlying5
  a5 := Tryz.isAgg5
  z5 := Tryz.sizeOf5
  v5 := Tryz.zeroValue5
  t9 := Tryz.underlying9
  a9 := Tryz.isAgg9
  z9 := Tryz.sizeOf9
  v9 := Tryz.zeroValue9
  t22 := Tryz.underlying80
  a22 := Tryz.isAgg80
  z22 := Tryz.sizeOf80
  v22 := Tryz.zeroValue80
  t23 := Tryz.underlying80
  a23 := Tryz.isAgg80
  z23 := Tryz.sizeOf80
  v23 := Tryz.zeroValue80
  t25 := Tryz.underlying3
  a25 := Tryz.isAgg3
  z25 := Tryz.sizeOf3
  v25 := Tryz.zeroValue3
  t32 := Tryz.underlying87
  a32 := Tryz.isAgg87
  z32 := Tryz.sizeOf87
  v32 := Tryz.zeroValue87
  t35 := Tryz.underlying217
  a35 := Tryz.isAgg217
  z35 := Tryz.sizeOf217
  v35 := Tryz.zeroValue217
  t36 := Tryz.underlying218
  a36 := Tryz.isAgg218
  z36 := Tryz.sizeOf218
  v36 := Tryz.zeroValue218
  t41 := Tryz.underlying174
  a41 := Tryz.isAgg174
  z41 := Tryz.sizeOf174
  v41 := Tryz.zeroValue174
  t44 := Tryz.underlying131
  a44 := Tryz.isAgg131
  z44 := Tryz.sizeOf131
  v44 := Tryz.zeroValue131
  t46 := Tryz.underlying28
  a46 := Tryz.isAgg28
  z46 := Tryz.sizeOf28
  v46 := Tryz.zeroValue28
  t53 := Tryz.underlying232
  a53 := Tryz.isAgg232
  z53 := Tryz.sizeOf232
  v53 := Tryz.zeroValue232
  t57 := Tryz.underlying235
  a57 := Tryz.isAgg235
  z57 := Tryz.sizeOf235
  v57 := Tryz.zeroValue235
  t63 := Tryz.underlying238
  a63 := Tryz.isAgg238
  z63 := Tryz.sizeOf238
  v63 := Tryz.zeroValue238
  t64 := Tryz.underlying75
  a64 := Tryz.isAgg75
  z64 := Tryz.sizeOf75
  v64 := Tryz.zeroValue75
end Go.Proofs
