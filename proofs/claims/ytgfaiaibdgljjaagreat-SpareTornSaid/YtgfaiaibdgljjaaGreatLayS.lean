/- Own text for the seat: LayS. -/
import Derived.Shelf.SlIterI.Nil
import Derived.Shelf.SortM.Plain
import Derived.Test.YtgfaiaibdgljjaaGreatProg
set_option linter.unusedVariables false
set_option linter.unusedSimpArgs false
set_option linter.unnecessarySimpa false
set_option linter.deprecated false
set_option maxRecDepth 100000
namespace Go.Proofs
open Go.RowKit Go.Maps Go.Sort Go.Shelf
def Tryz.keysP_ren : Go.Shelf.Ren := ⟨fun | 7 => 132 | 10 => 162 | n => n, fun | 23 => 113 | 26 => 3 | 3 => 162 | 28 => 187 | 0 => 0 | 27 => 186 | 33 => 111 | 4 => 4 | n => n, fun  | n => n⟩
theorem Tryz.keysP : SlLaysZI.n7 Tryz.prog Tryz.keysP_ren where
  mixed := by kernel_rfl
  f7 := ⟨Tryz.f132.name, by decide, Tryz.func132.trans (congrArg some (by kernel_rfl))⟩
  f10 := ⟨Tryz.f162.name, by decide, Tryz.func162.trans (congrArg some (by kernel_rfl))⟩
  t0 := Tryz.underlying0
  a0 := Tryz.isAgg0
  z0 := Tryz.sizeOf0
  v0 := Tryz.zeroValue0
  t4 := Tryz.underlying4
  a4 := Tryz.isAgg4
  z4 := Tryz.sizeOf4
  v4 := Tryz.zeroValue4
  t23 := Tryz.underlying113
  a23 := Tryz.isAgg113
  z23 := Tryz.sizeOf113
  v23 := Tryz.zeroValue113
  t26 := Tryz.underlying3
  a26 := Tryz.isAgg3
  z26 := Tryz.sizeOf3
  v26 := Tryz.zeroValue3
  t27 := Tryz.underlying186
  a27 := Tryz.isAgg186
  z27 := Tryz.sizeOf186
  v27 := Tryz.zeroValue186
  t28 := Tryz.underlying187
  a28 := Tryz.isAgg187
  z28 := Tryz.sizeOf187
  v28 := Tryz.zeroValue187
  t33 := Tryz.underlying111
  a33 := Tryz.isAgg111
  z33 := Tryz.sizeOf111
  v33 := Tryz.zeroValue111
def Tryz.sortedI_ren : Go.Shelf.Ren := ⟨fun | 6 => 131 | 8 => 160 | 9 => 161 | 11 => 170 | 13 => 172 | 12 => 171 | 23 => 185 | 24 => 186 | 14 => 176 | 15 => 177 | 16 => 178 | 17 => 179 | 18 => 180 | 19 => 181 | 20 => 182 | 21 => 183 | 22 => 184 | 25 => 187 | 26 => 188 | 27 => 189 | 28 => 190 | 29 => 191 | 30 => 192 | 31 => 193 | n => n, fun | 26 => 3 | 28 => 187 | 24 => 62 | 0 => 0 | 3 => 3 | 37 => 166 | 48 => 87 | 50 => 33 | 4 => 4 | 40 => 225 | 39 => 224 | 45 => 126 | 5 => 5 | 9 => 9 | 51 => 232 | 55 => 235 | 57 => 237 | 58 => 157 | 33 => 111 | n => n, fun  | n => n⟩
theorem Tryz.sortedI : SlLaysZI.n6 Tryz.prog Tryz.sortedI_ren where
  mixed := by kernel_rfl
  f6 := ⟨Tryz.f131.name, by decide, Tryz.func131.trans (congrArg some (by kernel_rfl))⟩
  f8 := ⟨Tryz.f160.name, by decide, Tryz.func160.trans (congrArg some (by kernel_rfl))⟩
  f11 := ⟨Tryz.f170.name, by decide, Tryz.func170.trans (congrArg some (by kernel_rfl))⟩
  t0 := Tryz.underlying0
  a0 := Tryz.isAgg0
  z0 := Tryz.sizeOf0
  v0 := Tryz.zeroValue0
  t24 := Tryz.underlying62
  a24 := Tryz.isAgg62
  z24 := Tryz.sizeOf62
  v24 := Tryz.zeroValue62
  t26 := Tryz.underlying3
  a26 := Tryz.isAgg3
  z26 := Tryz.sizeOf3
  v26 := Tryz.zeroValue3
  t28 := Tryz.underlying187
  a28 := Tryz.isAgg187
  z28 := Tryz.sizeOf187
  v28 := Tryz.zeroValue187
  i26 := by kernel_rfl
def Tryz.sortI_ren : Go.Shelf.Ren := ⟨fun | 5 => 161 | 8 => 172 | 7 => 171 | 19 => 185 | 20 => 186 | 10 => 176 | 11 => 177 | 12 => 178 | 13 => 179 | 14 => 180 | 15 => 181 | 16 => 182 | 17 => 183 | 18 => 184 | 30 => 187 | 31 => 188 | 32 => 189 | 33 => 190 | 34 => 191 | 35 => 192 | 40 => 193 | n => n, fun | 23 => 62 | 25 => 3 | 3 => 3 | 32 => 166 | 22 => 62 | 0 => 0 | 44 => 87 | 46 => 33 | 4 => 4 | 36 => 225 | 35 => 224 | 41 => 126 | 5 => 5 | 9 => 9 | 53 => 232 | 57 => 235 | 63 => 237 | 64 => 157 | n => n, fun  | n => n⟩
theorem Tryz.sortI : SlLaysM.n5 Tryz.prog Tryz.sortI_ren where
  mixed := by kernel_rfl
  f5 := ⟨Tryz.f161.name, by decide, Tryz.func161.trans (congrArg some (by kernel_rfl))⟩
  f7 := ⟨Tryz.f171.name, by decide, Tryz.func171.trans (congrArg some (by kernel_rfl))⟩
  f8 := Tryz.func172.trans (congrArg some (by kernel_rfl))
  f10 := ⟨Tryz.f176.name, by decide, Tryz.func176.trans (congrArg some (by kernel_rfl))⟩
  f11 := ⟨Tryz.f177.name, by decide, Tryz.func177.trans (congrArg some (by kernel_rfl))⟩
  f12 := ⟨Tryz.f178.name, by decide, Tryz.func178.trans (congrArg some (by kernel_rfl))⟩
  f13 := ⟨Tryz.f179.name, by decide, Tryz.func179.trans (congrArg some (by kernel_rfl))⟩
  f14 := ⟨Tryz.f180.name, by decide, Tryz.func180.trans (congrArg some (by kernel_rfl))⟩
  f15 := ⟨Tryz.f181.name, by decide, Tryz.func181.trans (congrArg some (by kernel_rfl))⟩
  f16 := ⟨Tryz.f182.name, by decide, Tryz.func182.trans (congrArg some (by kernel_rfl))⟩
  f17 := ⟨Tryz.f183.name, by decide, Tryz.func183.trans (congrArg some (by kernel_rfl))⟩
  f18 := ⟨Tryz.f184.name, by decide, Tryz.func184.trans (congrArg some (by kernel_rfl))⟩
  f19 := Tryz.func185.trans (congrArg some (by kernel_rfl))
  f20 := Tryz.func186.trans (congrArg some (by kernel_rfl))
  f30 := ⟨Tryz.f187.name, by decide, Tryz.func187.trans (congrArg some (by kernel_rfl))⟩
  f31 := Tryz.func188.trans (congrArg some (by kernel_rfl))
  f32 := Tryz.func189.trans (congrArg some (by kernel_rfl))
  f33 := ⟨Tryz.f190.name, by decide, Tryz.func190.trans (congrArg some (by kernel_rfl))⟩
  f34 := ⟨Tryz.f191.name, by decide, Tryz.func191.trans (congrArg some (by kernel_rfl))⟩
  f35 := ⟨Tryz.f192.name, by decide, Tryz.func192.trans (congrArg some (by kernel_rfl))⟩
  f40 := ⟨Tryz.f193.name, by decide, Tryz.func193.trans (congrArg some (by kernel_rfl))⟩
  t0 := Tryz.underlying0
  a0 := Tryz.isAgg0
  z0 := Tryz.sizeOf0
  v0 := Tryz.zeroValue0
  t3 := Tryz.underlying3
  a3 := Tryz.isAgg3
  z3 := Tryz.sizeOf3
  v3 := Tryz.zeroValue3
  t4 := Tryz.underlying4
  a4 := Tryz.isAgg4
  z4 := Tryz.sizeOf4
  v4 := Tryz.zeroValue4
  t5 := Tryz.underlying5
  a5 := Tryz.isAgg5
  z5 := Tryz.sizeOf5
  v5 := Tryz.zeroValue5
  t9 := Tryz.underlying9
  a9 := Tryz.isAgg9
  z9 := Tryz.sizeOf9
  v9 := Tryz.zeroValue9
  t22 := Tryz.underlying62
  a22 := Tryz.isAgg62
  z22 := Tryz.sizeOf62
  v22 := Tryz.zeroValue62
  t23 := Tryz.underlying62
  a23 := Tryz.isAgg62
  z23 := Tryz.sizeOf62
  v23 := Tryz.zeroValue62
  t25 := Tryz.underlying3
  a25 := Tryz.isAgg3
  z25 := Tryz.sizeOf3
  v25 := Tryz.zeroValue3
  t32 := Tryz.underlying166
  a32 := Tryz.isAgg166
  z32 := Tryz.sizeOf166
  v32 := Tryz.zeroValue166
  t35 := Tryz.underlying224
  a35 := Tryz.isAgg224
  z35 := Tryz.sizeOf224
  v35 := Tryz.zeroValue224
  t36 := Tryz.underlying225
  a36 := Tryz.isAgg225
  z36 := Tryz.sizeOf225
  v36 := Tryz.zeroValue225
  t41 := Tryz.underlying126
  a41 := Tryz.isAgg126
  z41 := Tryz.sizeOf126
  v41 := Tryz.zeroValue126
  t44 := Tryz.underlying87
  a44 := Tryz.isAgg87
  z44 := Tryz.sizeOf87
  v44 := Tryz.zeroValue87
  t46 := Tryz.underlying33
  a46 := Tryz.isAgg33
  z46 := Tryz.sizeOf33
  v46 := Tryz.zeroValue33
  t53 := Tryz.underlying232
  a53 := Tryz.isAgg232
  z53 := Tryz.sizeOf232
  v53 := Tryz.zeroValue232
  t57 := Tryz.underlying235
  a57 := Tryz.isAgg235
  z57 := Tryz.sizeOf235
  v57 := Tryz.zeroValue235
  t63 := Tryz.underlying237
  a63 := Tryz.isAgg237
  z63 := Tryz.sizeOf237
  v63 := Tryz.zeroValue237
  t64 := Tryz.underlying157
  a64 := Tryz.isAgg157
  z64 := Tryz.sizeOf157
  v64 := Tryz.zeroValue157
end Go.Proofs
