/- Own text for the seat: LayS. -/
import Derived.Shelf.SlIterI.Nil
import Derived.Shelf.SortM.Plain
import Derived.Test.YtjdleeamgmkbkaaGreatProg
set_option linter.unusedVariables false
set_option linter.unusedSimpArgs false
set_option linter.unnecessarySimpa false
set_option linter.deprecated false
set_option maxRecDepth 100000
namespace Go.Proofs
open Go.RowKit Go.Maps Go.Sort Go.Shelf
def Tryz.keysP_ren : Go.Shelf.Ren := ⟨fun | 7 => 167 | 10 => 218 | n => n, fun | 23 => 134 | 26 => 3 | 3 => 191 | 28 => 242 | 0 => 0 | 27 => 241 | 33 => 164 | 4 => 4 | n => n, fun  | n => n⟩
theorem Tryz.keysP : SlLaysZI.n7 Tryz.prog Tryz.keysP_ren where
  mixed := by kernel_rfl
  f7 := ⟨Tryz.f167.name, by decide, Tryz.func167.trans (congrArg some (by kernel_rfl))⟩
  f10 := ⟨Tryz.f218.name, by decide, Tryz.func218.trans (congrArg some (by kernel_rfl))⟩
  t0 := Tryz.underlying0
  a0 := Tryz.isAgg0
  z0 := Tryz.sizeOf0
  v0 := Tryz.zeroValue0
  t4 := Tryz.underlying4
  a4 := Tryz.isAgg4
  z4 := Tryz.sizeOf4
  v4 := Tryz.zeroValue4
  t23 := Tryz.underlying134
  a23 := Tryz.isAgg134
  z23 := Tryz.sizeOf134
  v23 := Tryz.zeroValue134
  t26 := Tryz.underlying3
  a26 := Tryz.isAgg3
  z26 := Tryz.sizeOf3
  v26 := Tryz.zeroValue3
  t27 := Tryz.underlying241
  a27 := Tryz.isAgg241
  z27 := Tryz.sizeOf241
  v27 := Tryz.zeroValue241
  t28 := Tryz.underlying242
  a28 := Tryz.isAgg242
  z28 := Tryz.sizeOf242
  v28 := Tryz.zeroValue242
  t33 := Tryz.underlying164
  a33 := Tryz.isAgg164
  z33 := Tryz.sizeOf164
  v33 := Tryz.zeroValue164
def Tryz.sortedI_ren : Go.Shelf.Ren := ⟨fun | 6 => 166 | 8 => 216 | 9 => 217 | 11 => 247 | 13 => 249 | 12 => 248 | 23 => 267 | 24 => 268 | 14 => 258 | 15 => 259 | 16 => 260 | 17 => 261 | 18 => 262 | 19 => 263 | 20 => 264 | 21 => 265 | 22 => 266 | 25 => 269 | 26 => 270 | 27 => 271 | 28 => 272 | 29 => 273 | 30 => 274 | 31 => 275 | n => n, fun | 26 => 3 | 28 => 242 | 24 => 84 | 0 => 0 | 3 => 3 | 37 => 213 | 48 => 68 | 50 => 22 | 4 => 4 | 40 => 323 | 39 => 322 | 45 => 279 | 5 => 5 | 9 => 9 | 51 => 330 | 55 => 333 | 57 => 335 | 58 => 89 | 33 => 164 | n => n, fun  | n => n⟩
theorem Tryz.sortedI : SlLaysZI.n6 Tryz.prog Tryz.sortedI_ren where
  mixed := by kernel_rfl
  f6 := ⟨Tryz.f166.name, by decide, Tryz.func166.trans (congrArg some (by kernel_rfl))⟩
  f8 := ⟨Tryz.f216.name, by decide, Tryz.func216.trans (congrArg some (by kernel_rfl))⟩
  f11 := ⟨Tryz.f247.name, by decide, Tryz.func247.trans (congrArg some (by kernel_rfl))⟩
  t0 := Tryz.underlying0
  a0 := Tryz.isAgg0
  z0 := Tryz.sizeOf0
  v0 := Tryz.zeroValue0
  t24 := Tryz.underlying84
  a24 := Tryz.isAgg84
  z24 := Tryz.sizeOf84
  v24 := Tryz.zeroValue84
  t26 := Tryz.underlying3
  a26 := Tryz.isAgg3
  z26 := Tryz.sizeOf3
  v26 := Tryz.zeroValue3
  t28 := Tryz.underlying242
  a28 := Tryz.isAgg242
  z28 := Tryz.sizeOf242
  v28 := Tryz.zeroValue242
  i26 := by kernel_rfl
def Tryz.sortI_ren : Go.Shelf.Ren := ⟨fun | 5 => 217 | 8 => 249 | 7 => 248 | 19 => 267 | 20 => 268 | 10 => 258 | 11 => 259 | 12 => 260 | 13 => 261 | 14 => 262 | 15 => 263 | 16 => 264 | 17 => 265 | 18 => 266 | 30 => 269 | 31 => 270 | 32 => 271 | 33 => 272 | 34 => 273 | 35 => 274 | 40 => 275 | n => n, fun | 23 => 84 | 25 => 3 | 3 => 3 | 32 => 213 | 22 => 84 | 0 => 0 | 44 => 68 | 46 => 22 | 4 => 4 | 36 => 323 | 35 => 322 | 41 => 279 | 5 => 5 | 9 => 9 | 53 => 330 | 57 => 333 | 63 => 335 | 64 => 89 | n => n, fun  | n => n⟩
theorem Tryz.sortI : SlLaysM.n5 Tryz.prog Tryz.sortI_ren where
  mixed := by kernel_rfl
  f5 := ⟨Tryz.f217.name, by decide, Tryz.func217.trans (congrArg some (by kernel_rfl))⟩
  f7 := ⟨Tryz.f248.name, by decide, Tryz.func248.trans (congrArg some (by kernel_rfl))⟩
  f8 := Tryz.func249.trans (congrArg some (by kernel_rfl))
  f10 := ⟨Tryz.f258.name, by decide, Tryz.func258.trans (congrArg some (by kernel_rfl))⟩
  f11 := ⟨Tryz.f259.name, by decide, Tryz.func259.trans (congrArg some (by kernel_rfl))⟩
  f12 := ⟨Tryz.f260.name, by decide, Tryz.func260.trans (congrArg some (by kernel_rfl))⟩
  f13 := ⟨Tryz.f261.name, by decide, Tryz.func261.trans (congrArg some (by kernel_rfl))⟩
  f14 := ⟨Tryz.f262.name, by decide, Tryz.func262.trans (congrArg some (by kernel_rfl))⟩
  f15 := ⟨Tryz.f263.name, by decide, Tryz.func263.trans (congrArg some (by kernel_rfl))⟩
  f16 := ⟨Tryz.f264.name, by decide, Tryz.func264.trans (congrArg some (by kernel_rfl))⟩
  f17 := ⟨Tryz.f265.name, by decide, Tryz.func265.trans (congrArg some (by kernel_rfl))⟩
  f18 := ⟨Tryz.f266.name, by decide, Tryz.func266.trans (congrArg some (by kernel_rfl))⟩
  f19 := Tryz.func267.trans (congrArg some (by kernel_rfl))
  f20 := Tryz.func268.trans (congrArg some (by kernel_rfl))
  f30 := ⟨Tryz.f269.name, by decide, Tryz.func269.trans (congrArg some (by kernel_rfl))⟩
  f31 := Tryz.func270.trans (congrArg some (by kernel_rfl))
  f32 := Tryz.func271.trans (congrArg some (by kernel_rfl))
  f33 := ⟨Tryz.f272.name, by decide, Tryz.func272.trans (congrArg some (by kernel_rfl))⟩
  f34 := ⟨Tryz.f273.name, by decide, Tryz.func273.trans (congrArg some (by kernel_rfl))⟩
  f35 := ⟨Tryz.f274.name, by decide, Tryz.func274.trans (congrArg some (by kernel_rfl))⟩
  f40 := ⟨Tryz.f275.name, by decide, Tryz.func275.trans (congrArg some (by kernel_rfl))⟩
  t0 := Tryz.underlying0
  a0 := Tryz.isAgg0
  z0 := Tryz.sizeOf0
  v0 := Tryz.zeroValue0
  t3 := Tryz.underlying3
  a3 := Tryz.isAgg3
  z3 := Tryz.sizeOf3
  v3 := Tryz.zeroValue3
  t4 := Tryz.underlying4
  a4 := Tryz.isAgg4
  z4 := Tryz.sizeOf4
  v4 := Tryz.zeroValue4
  t5 := Tryz.underlying5
  a5 := Tryz.isAgg5
  z5 := Tryz.sizeOf5
  v5 := Tryz.zeroValue5
  t9 := Tryz.underlying9
  a9 := Tryz.isAgg9
  z9 := Tryz.sizeOf9
  v9 := Tryz.zeroValue9
  t22 := Tryz.underlying84
  a22 := Tryz.isAgg84
  z22 := Tryz.sizeOf84
  v22 := Tryz.zeroValue84
  t23 := Tryz.underlying84
  a23 := Tryz.isAgg84
  z23 := Tryz.sizeOf84
  v23 := Tryz.zeroValue84
  t25 := Tryz.underlying3
  a25 := Tryz.isAgg3
  z25 := Tryz.sizeOf3
  v25 := Tryz.zeroValue3
  t32 := Tryz.underlying213
  a32 := Tryz.isAgg213
  z32 := Tryz.sizeOf213
  v32 := Tryz.zeroValue213
  t35 := Tryz.underlying322
  a35 := Tryz.isAgg322
  z35 := Tryz.sizeOf322
  v35 := Tryz.zeroValue322
  t36 := Tryz.underlying323
  a36 := Tryz.isAgg323
  z36 := Tryz.sizeOf323
  v36 := Tryz.zeroValue323
  t41 := Tryz.underlying279
  a41 := Tryz.isAgg279
  z41 := Tryz.sizeOf279
  v41 := Tryz.zeroValue279
  t44 := Tryz.underlying68
  a44 := Tryz.isAgg68
  z44 := Tryz.sizeOf68
  v44 := Tryz.zeroValue68
  t46 := Tryz.underlying22
  a46 := Tryz.isAgg22
  z46 := Tryz.sizeOf22
  v46 := Tryz.zeroValue22
  t53 := Tryz.underlying330
  a53 := Tryz.isAgg330
  z53 := Tryz.sizeOf330
  v53 := Tryz.zeroValue330
  t57 := Tryz.underlying333
  a57 := Tryz.isAgg333
  z57 := Tryz.sizeOf333
  v57 := Tryz.zeroValue333
  t63 := Tryz.underlying335
  a63 := Tryz.isAgg335
  z63 := Tryz.sizeOf335
  v63 := Tryz.zeroValue335
  t64 := Tryz.underlying89
  a64 := Tryz.isAgg89
  z64 := Tryz.sizeOf89
  v64 := Tryz.zeroValue89
end Go.Proofs
