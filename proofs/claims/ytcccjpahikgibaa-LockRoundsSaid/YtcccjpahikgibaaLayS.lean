/- Own text for the seat: LayS. -/
import Derived.Shelf.SortM.Plain
import Derived.Test.YtcccjpahikgibaaProg
set_option linter.unusedVariables false
set_option linter.unusedSimpArgs false
set_option linter.unnecessarySimpa false
set_option linter.deprecated false
set_option maxRecDepth 100000
namespace Go.Proofs
open Go.RowKit Go.Sort Go.Shelf
def Try.sortI_ren : Go.Shelf.Ren := ⟨fun | 5 => 29 | 8 => 34 | 7 => 33 | 19 => 45 | 20 => 46 | 10 => 36 | 11 => 37 | 12 => 38 | 13 => 39 | 14 => 40 | 15 => 41 | 16 => 42 | 17 => 43 | 18 => 44 | 30 => 47 | 31 => 48 | 32 => 49 | 33 => 50 | 34 => 51 | 35 => 52 | 40 => 53 | n => n, fun | 23 => 32 | 25 => 3 | 3 => 3 | 32 => 72 | 22 => 32 | 0 => 0 | 44 => 82 | 46 => 84 | 4 => 4 | 36 => 76 | 35 => 75 | 41 => 66 | 5 => 5 | 9 => 9 | 53 => 85 | 57 => 89 | 63 => 91 | 64 => 92 | n => n, fun  | n => n⟩
theorem Try.sortI : SlLaysM.n5 Try.prog Try.sortI_ren where
  mixed := by kernel_rfl
  f5 := ⟨Try.f29.name, by decide, Try.func29.trans (congrArg some (by kernel_rfl))⟩
  f7 := ⟨Try.f33.name, by decide, Try.func33.trans (congrArg some (by kernel_rfl))⟩
  f8 := Try.func34.trans (congrArg some (by kernel_rfl))
  f10 := ⟨Try.f36.name, by decide, Try.func36.trans (congrArg some (by kernel_rfl))⟩
  f11 := ⟨Try.f37.name, by decide, Try.func37.trans (congrArg some (by kernel_rfl))⟩
  f12 := ⟨Try.f38.name, by decide, Try.func38.trans (congrArg some (by kernel_rfl))⟩
  f13 := ⟨Try.f39.name, by decide, Try.func39.trans (congrArg some (by kernel_rfl))⟩
  f14 := ⟨Try.f40.name, by decide, Try.func40.trans (congrArg some (by kernel_rfl))⟩
  f15 := ⟨Try.f41.name, by decide, Try.func41.trans (congrArg some (by kernel_rfl))⟩
  f16 := ⟨Try.f42.name, by decide, Try.func42.trans (congrArg some (by kernel_rfl))⟩
  f17 := ⟨Try.f43.name, by decide, Try.func43.trans (congrArg some (by kernel_rfl))⟩
  f18 := ⟨Try.f44.name, by decide, Try.func44.trans (congrArg some (by kernel_rfl))⟩
  f19 := Try.func45.trans (congrArg some (by kernel_rfl))
  f20 := Try.func46.trans (congrArg some (by kernel_rfl))
  f30 := ⟨Try.f47.name, by decide, Try.func47.trans (congrArg some (by kernel_rfl))⟩
  f31 := Try.func48.trans (congrArg some (by kernel_rfl))
  f32 := Try.func49.trans (congrArg some (by kernel_rfl))
  f33 := ⟨Try.f50.name, by decide, Try.func50.trans (congrArg some (by kernel_rfl))⟩
  f34 := ⟨Try.f51.name, by decide, Try.func51.trans (congrArg some (by kernel_rfl))⟩
  f35 := ⟨Try.f52.name, by decide, Try.func52.trans (congrArg some (by kernel_rfl))⟩
  f40 := ⟨Try.f53.name, by decide, Try.func53.trans (congrArg some (by kernel_rfl))⟩
  t0 := Try.underlying0
  a0 := Try.isAgg0
  z0 := Try.sizeOf0
  v0 := Try.zeroValue0
  t3 := Try.underlying3
  a3 := Try.isAgg3
  z3 := Try.sizeOf3
  v3 := Try.zeroValue3
  t4 := Try.underlying4
  a4 := Try.isAgg4
  z4 := Try.sizeOf4
  v4 := Try.zeroValue4
  t5 := Try.underlying5
  a5 := Try.isAgg5
  z5 := Try.sizeOf5
  v5 := Try.zeroValue5
  t9 := Try.underlying9
  a9 := Try.isAgg9
  z9 := Try.sizeOf9
  v9 := Try.zeroValue9
  t22 := Try.underlying32
  a22 := Try.isAgg32
  z22 := Try.sizeOf32
  v22 := Try.zeroValue32
  t23 := Try.underlying32
  a23 := Try.isAgg32
  z23 := Try.sizeOf32
  v23 := Try.zeroValue32
  t25 := Try.underlying3
  a25 := Try.isAgg3
  z25 := Try.sizeOf3
  v25 := Try.zeroValue3
  t32 := Try.underlying72
  a32 := Try.isAgg72
  z32 := Try.sizeOf72
  v32 := Try.zeroValue72
  t35 := Try.underlying75
  a35 := Try.isAgg75
  z35 := Try.sizeOf75
  v35 := Try.zeroValue75
  t36 := Try.underlying76
  a36 := Try.isAgg76
  z36 := Try.sizeOf76
  v36 := Try.zeroValue76
  t41 := Try.underlying66
  a41 := Try.isAgg66
  z41 := Try.sizeOf66
  v41 := Try.zeroValue66
  t44 := Try.underlying82
  a44 := Try.isAgg82
  z44 := Try.sizeOf82
  v44 := Try.zeroValue82
  t46 := Try.underlying84
  a46 := Try.isAgg84
  z46 := Try.sizeOf84
  v46 := Try.zeroValue84
  t53 := Try.underlying85
  a53 := Try.isAgg85
  z53 := Try.sizeOf85
  v53 := Try.zeroValue85
  t57 := Try.underlying89
  a57 := Try.isAgg89
  z57 := Try.sizeOf89
  v57 := Try.zeroValue89
  t63 := Try.underlying91
  a63 := Try.isAgg91
  z63 := Try.sizeOf91
  v63 := Try.zeroValue91
  t64 := Try.underlying92
  a64 := Try.isAgg92
  z64 := Try.sizeOf92
  v64 := Try.zeroValue92
end Go.Proofs
