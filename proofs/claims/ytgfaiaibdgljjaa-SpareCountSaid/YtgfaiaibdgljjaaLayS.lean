/- Own text for the seat: LayS. -/
import Derived.Shelf.SlIterI.Nil
import Derived.Shelf.SortM.Plain
import Derived.Test.YtgfaiaibdgljjaaProg
set_option linter.unusedVariables false
set_option linter.unusedSimpArgs false
set_option linter.unnecessarySimpa false
set_option linter.deprecated false
set_option maxRecDepth 100000
namespace Go.Proofs
open Go.RowKit Go.Maps Go.Sort Go.Shelf
def Try.keysP_ren : Go.Shelf.Ren := ⟨fun | 7 => 75 | 10 => 79 | n => n, fun | 23 => 40 | 26 => 3 | 3 => 82 | 28 => 113 | 0 => 0 | 27 => 112 | 33 => 57 | 4 => 4 | n => n, fun  | n => n⟩
theorem Try.keysP : SlLaysZI.n7 Try.prog Try.keysP_ren where
  mixed := by kernel_rfl
  f7 := ⟨Try.f75.name, by decide, Try.func75.trans (congrArg some (by kernel_rfl))⟩
  f10 := ⟨Try.f79.name, by decide, Try.func79.trans (congrArg some (by kernel_rfl))⟩
  t0 := Try.underlying0
  a0 := Try.isAgg0
  z0 := Try.sizeOf0
  v0 := Try.zeroValue0
  t4 := Try.underlying4
  a4 := Try.isAgg4
  z4 := Try.sizeOf4
  v4 := Try.zeroValue4
  t23 := Try.underlying40
  a23 := Try.isAgg40
  z23 := Try.sizeOf40
  v23 := Try.zeroValue40
  t26 := Try.underlying3
  a26 := Try.isAgg3
  z26 := Try.sizeOf3
  v26 := Try.zeroValue3
  t27 := Try.underlying112
  a27 := Try.isAgg112
  z27 := Try.sizeOf112
  v27 := Try.zeroValue112
  t28 := Try.underlying113
  a28 := Try.isAgg113
  z28 := Try.sizeOf113
  v28 := Try.zeroValue113
  t33 := Try.underlying57
  a33 := Try.isAgg57
  z33 := Try.sizeOf57
  v33 := Try.zeroValue57
def Try.sortedI_ren : Go.Shelf.Ren := ⟨fun | 6 => 74 | 8 => 77 | 9 => 78 | 11 => 80 | 13 => 82 | 12 => 81 | 23 => 92 | 24 => 93 | 14 => 83 | 15 => 84 | 16 => 85 | 17 => 86 | 18 => 87 | 19 => 88 | 20 => 89 | 21 => 90 | 22 => 91 | 25 => 94 | 26 => 95 | 27 => 96 | 28 => 97 | 29 => 98 | 30 => 99 | 31 => 100 | n => n, fun | 26 => 3 | 28 => 113 | 24 => 41 | 0 => 0 | 3 => 3 | 37 => 65 | 48 => 92 | 50 => 53 | 4 => 4 | 40 => 122 | 39 => 121 | 45 => 78 | 5 => 5 | 9 => 9 | 51 => 130 | 55 => 134 | 57 => 136 | 58 => 137 | 33 => 57 | n => n, fun  | n => n⟩
theorem Try.sortedI : SlLaysZI.n6 Try.prog Try.sortedI_ren where
  mixed := by kernel_rfl
  f6 := ⟨Try.f74.name, by decide, Try.func74.trans (congrArg some (by kernel_rfl))⟩
  f8 := ⟨Try.f77.name, by decide, Try.func77.trans (congrArg some (by kernel_rfl))⟩
  f11 := ⟨Try.f80.name, by decide, Try.func80.trans (congrArg some (by kernel_rfl))⟩
  t0 := Try.underlying0
  a0 := Try.isAgg0
  z0 := Try.sizeOf0
  v0 := Try.zeroValue0
  t24 := Try.underlying41
  a24 := Try.isAgg41
  z24 := Try.sizeOf41
  v24 := Try.zeroValue41
  t26 := Try.underlying3
  a26 := Try.isAgg3
  z26 := Try.sizeOf3
  v26 := Try.zeroValue3
  t28 := Try.underlying113
  a28 := Try.isAgg113
  z28 := Try.sizeOf113
  v28 := Try.zeroValue113
  i26 := by kernel_rfl
def Try.sortI_ren : Go.Shelf.Ren := ⟨fun | 5 => 78 | 8 => 82 | 7 => 81 | 19 => 92 | 20 => 93 | 10 => 83 | 11 => 84 | 12 => 85 | 13 => 86 | 14 => 87 | 15 => 88 | 16 => 89 | 17 => 90 | 18 => 91 | 30 => 94 | 31 => 95 | 32 => 96 | 33 => 97 | 34 => 98 | 35 => 99 | 40 => 100 | n => n, fun | 23 => 41 | 25 => 3 | 3 => 3 | 32 => 65 | 22 => 41 | 0 => 0 | 44 => 92 | 46 => 53 | 4 => 4 | 36 => 122 | 35 => 121 | 41 => 78 | 5 => 5 | 9 => 9 | 53 => 130 | 57 => 134 | 63 => 136 | 64 => 137 | n => n, fun  | n => n⟩
theorem Try.sortI : SlLaysM.n5 Try.prog Try.sortI_ren where
  mixed := by kernel_rfl
  f5 := ⟨Try.f78.name, by decide, Try.func78.trans (congrArg some (by kernel_rfl))⟩
  f7 := ⟨Try.f81.name, by decide, Try.func81.trans (congrArg some (by kernel_rfl))⟩
  f8 := Try.func82.trans (congrArg some (by kernel_rfl))
  f10 := ⟨Try.f83.name, by decide, Try.func83.trans (congrArg some (by kernel_rfl))⟩
  f11 := ⟨Try.f84.name, by decide, Try.func84.trans (congrArg some (by kernel_rfl))⟩
  f12 := ⟨Try.f85.name, by decide, Try.func85.trans (congrArg some (by kernel_rfl))⟩
  f13 := ⟨Try.f86.name, by decide, Try.func86.trans (congrArg some (by kernel_rfl))⟩
  f14 := ⟨Try.f87.name, by decide, Try.func87.trans (congrArg some (by kernel_rfl))⟩
  f15 := ⟨Try.f88.name, by decide, Try.func88.trans (congrArg some (by kernel_rfl))⟩
  f16 := ⟨Try.f89.name, by decide, Try.func89.trans (congrArg some (by kernel_rfl))⟩
  f17 := ⟨Try.f90.name, by decide, Try.func90.trans (congrArg some (by kernel_rfl))⟩
  f18 := ⟨Try.f91.name, by decide, Try.func91.trans (congrArg some (by kernel_rfl))⟩
  f19 := Try.func92.trans (congrArg some (by kernel_rfl))
  f20 := Try.func93.trans (congrArg some (by kernel_rfl))
  f30 := ⟨Try.f94.name, by decide, Try.func94.trans (congrArg some (by kernel_rfl))⟩
  f31 := Try.func95.trans (congrArg some (by kernel_rfl))
  f32 := Try.func96.trans (congrArg some (by kernel_rfl))
  f33 := ⟨Try.f97.name, by decide, Try.func97.trans (congrArg some (by kernel_rfl))⟩
  f34 := ⟨Try.f98.name, by decide, Try.func98.trans (congrArg some (by kernel_rfl))⟩
  f35 := ⟨Try.f99.name, by decide, Try.func99.trans (congrArg some (by kernel_rfl))⟩
  f40 := ⟨Try.f100.name, by decide, Try.func100.trans (congrArg some (by kernel_rfl))⟩
  t0 := Try.underlying0
  a0 := Try.isAgg0
  z0 := Try.sizeOf0
  v0 := Try.zeroValue0
  t3 := Try.underlying3
  a3 := Try.isAgg3
  z3 := Try.sizeOf3
  v3 := Try.zeroValue3
  t4 := Try.underlying4
  a4 := Try.isAgg4
  z4 := Try.sizeOf4
  v4 := Try.zeroValue4
  t5 := Try.underlying5
  a5 := Try.isAgg5
  z5 := Try.sizeOf5
  v5 := Try.zeroValue5
  t9 := Try.underlying9
  a9 := Try.isAgg9
  z9 := Try.sizeOf9
  v9 := Try.zeroValue9
  t22 := Try.underlying41
  a22 := Try.isAgg41
  z22 := Try.sizeOf41
  v22 := Try.zeroValue41
  t23 := Try.underlying41
  a23 := Try.isAgg41
  z23 := Try.sizeOf41
  v23 := Try.zeroValue41
  t25 := Try.underlying3
  a25 := Try.isAgg3
  z25 := Try.sizeOf3
  v25 := Try.zeroValue3
  t32 := Try.underlying65
  a32 := Try.isAgg65
  z32 := Try.sizeOf65
  v32 := Try.zeroValue65
  t35 := Try.underlying121
  a35 := Try.isAgg121
  z35 := Try.sizeOf121
  v35 := Try.zeroValue121
  t36 := Try.underlying122
  a36 := Try.isAgg122
  z36 := Try.sizeOf122
  v36 := Try.zeroValue122
  t41 := Try.underlying78
  a41 := Try.isAgg78
  z41 := Try.sizeOf78
  v41 := Try.zeroValue78
  t44 := Try.underlying92
  a44 := Try.isAgg92
  z44 := Try.sizeOf92
  v44 := Try.zeroValue92
  t46 := Try.underlying53
  a46 := Try.isAgg53
  z46 := Try.sizeOf53
  v46 := Try.zeroValue53
  t53 := Try.underlying130
  a53 := Try.isAgg130
  z53 := Try.sizeOf130
  v53 := Try.zeroValue130
  t57 := Try.underlying134
  a57 := Try.isAgg134
  z57 := Try.sizeOf134
  v57 := Try.zeroValue134
  t63 := Try.underlying136
  a63 := Try.isAgg136
  z63 := Try.sizeOf136
  v63 := Try.zeroValue136
  t64 := Try.underlying137
  a64 := Try.isAgg137
  z64 := Try.sizeOf137
  v64 := Try.zeroValue137
end Go.Proofs
