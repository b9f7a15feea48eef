/- Own text for the seat: LayA. -/
import Derived.Shelf.Strings.IndexAnyAll
import Derived.Test.YtcccjpahikgibaaDoorProg
set_option linter.unusedVariables false
set_option linter.unusedSimpArgs false
set_option linter.unnecessarySimpa false
set_option linter.deprecated false
set_option maxRecDepth 100000
namespace Go.Proofs
open Go.RowKit Go.Shelf
def Tryd.idxA_ren : Go.Shelf.Ren := ⟨fun | 153 => 69 | 152 => 85 | 226 => 86 | 227 => 78 | 228 => 87 | 137 => 96 | 119 => 97 | 224 => 94 | 225 => 93 | 217 => 92 | 266 => 99 | n => n, fun | 9 => 9 | 3 => 3 | 4 => 4 | 5 => 5 | 21 => 21 | 117 => 122 | 116 => 121 | 0 => 0 | 46 => 98 | 124 => 125 | n => n, fun  | n => n⟩
theorem Tryd.idxA : Lays.n153 Tryd.prog Tryd.idxA_ren where
  mixed := by kernel_rfl
  f119 := Tryd.func97.trans (congrArg some (by kernel_rfl))
  f137 := Tryd.func96.trans (congrArg some (by kernel_rfl))
  f152 := Tryd.func85.trans (congrArg some (by kernel_rfl))
  f153 := Tryd.func69.trans (congrArg some (by kernel_rfl))
  f217 := Tryd.func92.trans (congrArg some (by kernel_rfl))
  f224 := Tryd.func94.trans (congrArg some (by kernel_rfl))
  f225 := Tryd.func93.trans (congrArg some (by kernel_rfl))
  f226 := Tryd.func86.trans (congrArg some (by kernel_rfl))
  f227 := Tryd.func78.trans (congrArg some (by kernel_rfl))
  f228 := Tryd.func87.trans (congrArg some (by kernel_rfl))
  f266 := Tryd.func99.trans (congrArg some (by kernel_rfl))
  t0 := Tryd.underlying0
  a0 := Tryd.isAgg0
  z0 := Tryd.sizeOf0
  v0 := Tryd.zeroValue0
  t3 := Tryd.underlying3
  a3 := Tryd.isAgg3
  z3 := Tryd.sizeOf3
  v3 := Tryd.zeroValue3
  t4 := Tryd.underlying4
  a4 := Tryd.isAgg4
  z4 := Tryd.sizeOf4
  v4 := Tryd.zeroValue4
  t5 := Tryd.underlying5
  a5 := Tryd.isAgg5
  z5 := Tryd.sizeOf5
  v5 := Tryd.zeroValue5
  t9 := Tryd.underlying9
  a9 := Tryd.isAgg9
  z9 := Tryd.sizeOf9
  v9 := Tryd.zeroValue9
  t21 := Tryd.underlying21
  a21 := Tryd.isAgg21
  z21 := Tryd.sizeOf21
  v21 := Tryd.zeroValue21
  t46 := Tryd.underlying98
  a46 := Tryd.isAgg98
  z46 := Tryd.sizeOf98
  v46 := Tryd.zeroValue98
  t116 := Tryd.underlying121
  a116 := Tryd.isAgg121
  z116 := Tryd.sizeOf121
  t117 := Tryd.underlying122
  a117 := Tryd.isAgg122
  z117 := Tryd.sizeOf122
  v117 := Tryd.zeroValue122
  t124 := Tryd.underlying125
  a124 := Tryd.isAgg125
  z124 := Tryd.sizeOf125
  v124 := Tryd.zeroValue125
end Go.Proofs
