/- Own text for the seat: LayS. -/
import Derived.Shelf.SlIterI.Nil
import Derived.Shelf.SortM.Plain
import Derived.Test.YtpmghonehgnjlaaGreatProg
set_option linter.unusedVariables false
set_option linter.unusedSimpArgs false
set_option linter.unnecessarySimpa false
set_option linter.deprecated false
set_option maxRecDepth 100000
namespace Go.Proofs
open Go.RowKit Go.Maps Go.Sort Go.Shelf
def Tryz.keysP_ren : Go.Shelf.Ren := ⟨fun | 7 => 97 | 10 => 138 | n => n, fun | 23 => 82 | 26 => 3 | 3 => 130 | 28 => 159 | 0 => 0 | 27 => 158 | 33 => 99 | 4 => 4 | n => n, fun  | n => n⟩
theorem Tryz.keysP : SlLaysZI.n7 Tryz.prog Tryz.keysP_ren where
  mixed := by kernel_rfl
  f7 := ⟨Tryz.f97.name, by decide, Tryz.func97.trans (congrArg some (by kernel_rfl))⟩
  f10 := ⟨Tryz.f138.name, by decide, Tryz.func138.trans (congrArg some (by kernel_rfl))⟩
  t0 := Tryz.underlying0
  a0 := Tryz.isAgg0
  z0 := Tryz.sizeOf0
  v0 := Tryz.zeroValue0
  t4 := Tryz.underlying4
  a4 := Tryz.isAgg4
  z4 := Tryz.sizeOf4
  v4 := Tryz.zeroValue4
  t23 := Tryz.underlying82
  a23 := Tryz.isAgg82
  z23 := Tryz.sizeOf82
  v23 := Tryz.zeroValue82
  t26 := Tryz.underlying3
  a26 := Tryz.isAgg3
  z26 := Tryz.sizeOf3
  v26 := Tryz.zeroValue3
  t27 := Tryz.underlying158
  a27 := Tryz.isAgg158
  z27 := Tryz.sizeOf158
  v27 := Tryz.zeroValue158
  t28 := Tryz.underlying159
  a28 := Tryz.isAgg159
  z28 := Tryz.sizeOf159
  v28 := Tryz.zeroValue159
  t33 := Tryz.underlying99
  a33 := Tryz.isAgg99
  z33 := Tryz.sizeOf99
  v33 := Tryz.zeroValue99
def Tryz.sortedI_ren : Go.Shelf.Ren := ⟨fun | 6 => 96 | 8 => 136 | 9 => 137 | 11 => 150 | 13 => 152 | 12 => 151 | 23 => 168 | 24 => 169 | 14 => 159 | 15 => 160 | 16 => 161 | 17 => 162 | 18 => 163 | 19 => 164 | 20 => 165 | 21 => 166 | 22 => 167 | 25 => 174 | 26 => 175 | 27 => 176 | 28 => 177 | 29 => 178 | 30 => 179 | 31 => 181 | n => n, fun | 26 => 3 | 28 => 159 | 24 => 37 | 0 => 0 | 3 => 3 | 37 => 145 | 48 => 38 | 50 => 49 | 4 => 4 | 40 => 210 | 39 => 209 | 45 => 184 | 5 => 5 | 9 => 9 | 51 => 222 | 55 => 225 | 57 => 227 | 58 => 124 | 33 => 99 | n => n, fun  | n => n⟩
theorem Tryz.sortedI : SlLaysZI.n6 Tryz.prog Tryz.sortedI_ren where
  mixed := by kernel_rfl
  f6 := ⟨Tryz.f96.name, by decide, Tryz.func96.trans (congrArg some (by kernel_rfl))⟩
  f8 := ⟨Tryz.f136.name, by decide, Tryz.func136.trans (congrArg some (by kernel_rfl))⟩
  f11 := ⟨Tryz.f150.name, by decide, Tryz.func150.trans (congrArg some (by kernel_rfl))⟩
  t0 := Tryz.underlying0
  a0 := Tryz.isAgg0
  z0 := Tryz.sizeOf0
  v0 := Tryz.zeroValue0
  t24 := Tryz.underlying37
  a24 := Tryz.isAgg37
  z24 := Tryz.sizeOf37
  v24 := Tryz.zeroValue37
  t26 := Tryz.underlying3
  a26 := Tryz.isAgg3
  z26 := Tryz.sizeOf3
  v26 := Tryz.zeroValue3
  t28 := Tryz.underlying159
  a28 := Tryz.isAgg159
  z28 := Tryz.sizeOf159
  v28 := Tryz.zeroValue159
  i26 := by kernel_rfl
def Tryz.sortI_ren : Go.Shelf.Ren := ⟨fun | 5 => 137 | 8 => 152 | 7 => 151 | 19 => 168 | 20 => 169 | 10 => 159 | 11 => 160 | 12 => 161 | 13 => 162 | 14 => 163 | 15 => 164 | 16 => 165 | 17 => 166 | 18 => 167 | 30 => 174 | 31 => 175 | 32 => 176 | 33 => 177 | 34 => 178 | 35 => 179 | 40 => 181 | n => n, fun | 23 => 37 | 25 => 3 | 3 => 3 | 32 => 145 | 22 => 37 | 0 => 0 | 44 => 38 | 46 => 49 | 4 => 4 | 36 => 210 | 35 => 209 | 41 => 184 | 5 => 5 | 9 => 9 | 53 => 222 | 57 => 225 | 63 => 227 | 64 => 124 | n => n, fun  | n => n⟩
theorem Tryz.sortI : SlLaysM.n5 Tryz.prog Tryz.sortI_ren where
  mixed := by kernel_rfl
  f5 := ⟨Tryz.f137.name, by decide, Tryz.func137.trans (congrArg some (by kernel_rfl))⟩
  f7 := ⟨Tryz.f151.name, by decide, Tryz.func151.trans (congrArg some (by kernel_rfl))⟩
  f8 := Tryz.func152.trans (congrArg some (by kernel_rfl))
  f10 := ⟨Tryz.f159.name, by decide, Tryz.func159.trans (congrArg some (by kernel_rfl))⟩
  f11 := ⟨Tryz.f160.name, by decide, Tryz.func160.trans (congrArg some (by kernel_rfl))⟩
  f12 := ⟨Tryz.f161.name, by decide, Tryz.func161.trans (congrArg some (by kernel_rfl))⟩
  f13 := ⟨Tryz.f162.name, by decide, Tryz.func162.trans (congrArg some (by kernel_rfl))⟩
  f14 := ⟨Tryz.f163.name, by decide, Tryz.func163.trans (congrArg some (by kernel_rfl))⟩
  f15 := ⟨Tryz.f164.name, by decide, Tryz.func164.trans (congrArg some (by kernel_rfl))⟩
  f16 := ⟨Tryz.f165.name, by decide, Tryz.func165.trans (congrArg some (by kernel_rfl))⟩
  f17 := ⟨Tryz.f166.name, by decide, Tryz.func166.trans (congrArg some (by kernel_rfl))⟩
  f18 := ⟨Tryz.f167.name, by decide, Tryz.func167.trans (congrArg some (by kernel_rfl))⟩
  f19 := Tryz.func168.trans (congrArg some (by kernel_rfl))
  f20 := Tryz.func169.trans (congrArg some (by kernel_rfl))
  f30 := ⟨Tryz.f174.name, by decide, Tryz.func174.trans (congrArg some (by kernel_rfl))⟩
  f31 := Tryz.func175.trans (congrArg some (by kernel_rfl))
  f32 := Tryz.func176.trans (congrArg some (by kernel_rfl))
  f33 := ⟨Tryz.f177.name, by decide, Tryz.func177.trans (congrArg some (by kernel_rfl))⟩
  f34 := ⟨Tryz.f178.name, by decide, Tryz.func178.trans (congrArg some (by kernel_rfl))⟩
  f35 := ⟨Tryz.f179.name, by decide, Tryz.func179.trans (congrArg some (by kernel_rfl))⟩
  f40 := ⟨Tryz.f181.name, by decide, Tryz.func181.trans (congrArg some (by kernel_rfl))⟩
  t0 := Tryz.underlying0
  a0 := Tryz.isAgg0
  z0 := Tryz.sizeOf0
  v0 := Tryz.zeroValue0
  t3 := Tryz.underlying3
  a3 := Tryz.isAgg3
  z3 := Tryz.sizeOf3
  v3 := Tryz.zeroValue3
  t4 := Tryz.underlying4
  a4 := Tryz.isAgg4
  z4 := Tryz.sizeOf4
  v4 := Tryz.zeroValue4
  t5 := Tryz.underlying5
  a5 := Tryz.isAgg5
  z5 := Tryz.sizeOf5
  v5 := Tryz.zeroValue5
  t9 := Tryz.underlying9
  a9 := Tryz.isAgg9
  z9 := Tryz.sizeOf9
  v9 := Tryz.zeroValue9
  t22 := Tryz.underlying37
  a22 := Tryz.isAgg37
  z22 := Tryz.sizeOf37
  v22 := Tryz.zeroValue37
  t23 := Tryz.underlying37
  a23 := Tryz.isAgg37
  z23 := Tryz.sizeOf37
  v23 := Tryz.zeroValue37
  t25 := Tryz.underlying3
  a25 := Tryz.isAgg3
  z25 := Tryz.sizeOf3
  v25 := Tryz.zeroValue3
  t32 := Tryz.underlying145
  a32 := Tryz.isAgg145
  z32 := Tryz.sizeOf145
  v32 := Tryz.zeroValue145
  t35 := Tryz.underlying209
  a35 := Tryz.isAgg209
  z35 := Tryz.sizeOf209
  v35 := Tryz.zeroValue209
  t36 := Tryz.underlying210
  a36 := Tryz.isAgg210
  z36 := Tryz.sizeOf210
  v36 := Tryz.zeroValue210
  t41 := Tryz.underlying184
  a41 := Tryz.isAgg184
  z41 := Tryz.sizeOf184
  v41 := Tryz.zeroValue184
  t44 := Tryz.underlying38
  a44 := Tryz.isAgg38
  z44 := Tryz.sizeOf38
  v44 := Tryz.zeroValue38
  t46 := Tryz.underlying49
  a46 := Tryz.isAgg49
  z46 := Tryz.sizeOf49
  v46 := Tryz.zeroValue49
  t53 := Tryz.underlying222
  a53 := Tryz.isAgg222
  z53 := Tryz.sizeOf222
  v53 := Tryz.zeroValue222
  t57 := Tryz.underlying225
  a57 := Tryz.isAgg225
  z57 := Tryz.sizeOf225
  v57 := Tryz.zeroValue225
  t63 := Tryz.underlying227
  a63 := Tryz.isAgg227
  z63 := Tryz.sizeOf227
  v63 := Tryz.zeroValue227
  t64 := Tryz.underlying124
  a64 := Tryz.isAgg124
  z64 := Tryz.sizeOf124
  v64 := Tryz.zeroValue124
end Go.Proofs
