/- Own text for the seat: LayR. -/
import Derived.Shelf.Strings.Repeat
import Derived.Test.YtgfaiaibdgljjaaGreatProg
set_option linter.unusedVariables false
set_option linter.unusedSimpArgs false
set_option linter.unnecessarySimpa false
set_option linter.deprecated false
set_option maxRecDepth 100000
namespace Go.Proofs
open Go.RowKit Go.Shelf
def Tryz.rep_ren : Go.Shelf.Ren := ⟨fun | 105 => 62 | 212 => 117 | 99 => 118 | 165 => 119 | 166 => 120 | 170 => 121 | 169 => 122 | 263 => 149 | 264 => 150 | 206 => 151 | 240 => 152 | 241 => 153 | 276 => 167 | 277 => 168 | n => n, fun | 9 => 9 | 3 => 3 | 4 => 4 | 20 => 20 | 0 => 0 | 46 => 166 | 109 => 167 | 5 => 5 | 72 => 172 | 76 => 175 | 51 => 87 | 146 => 200 | 53 => 33 | 148 => 202 | 70 => 170 | 37 => 73 | 75 => 174 | 127 => 204 | 164 => 214 | 80 => 177 | n => n, fun  | n => n⟩
theorem Tryz.rep : Lays.n105 Tryz.prog Tryz.rep_ren where
  mixed := by kernel_rfl
  f99 := Tryz.func118.trans (congrArg some (by kernel_rfl))
  f105 := Tryz.func62.trans (congrArg some (by kernel_rfl))
  f165 := Tryz.func119.trans (congrArg some (by kernel_rfl))
  f166 := Tryz.func120.trans (congrArg some (by kernel_rfl))
  f169 := Tryz.func122.trans (congrArg some (by kernel_rfl))
  f170 := Tryz.func121.trans (congrArg some (by kernel_rfl))
  f206 := Tryz.func151.trans (congrArg some (by kernel_rfl))
  f212 := Tryz.func117.trans (congrArg some (by kernel_rfl))
  f240 := Tryz.func152.trans (congrArg some (by kernel_rfl))
  f241 := Tryz.func153.trans (congrArg some (by kernel_rfl))
  f263 := Tryz.func149.trans (congrArg some (by kernel_rfl))
  f264 := Tryz.func150.trans (congrArg some (by kernel_rfl))
  f276 := Tryz.func167.trans (congrArg some (by kernel_rfl))
  f277 := Tryz.func168.trans (congrArg some (by kernel_rfl))
  t0 := Tryz.underlying0
  a0 := Tryz.isAgg0
  z0 := Tryz.sizeOf0
  v0 := Tryz.zeroValue0
  t3 := Tryz.underlying3
  a3 := Tryz.isAgg3
  z3 := Tryz.sizeOf3
  v3 := Tryz.zeroValue3
  t4 := Tryz.underlying4
  a4 := Tryz.isAgg4
  z4 := Tryz.sizeOf4
  v4 := Tryz.zeroValue4
  t5 := Tryz.underlying5
  a5 := Tryz.isAgg5
  z5 := Tryz.sizeOf5
  v5 := Tryz.zeroValue5
  t9 := Tryz.underlying9
  a9 := Tryz.isAgg9
  z9 := Tryz.sizeOf9
  v9 := Tryz.zeroValue9
  t20 := Tryz.underlying20
  a20 := Tryz.isAgg20
  z20 := Tryz.sizeOf20
  v20 := Tryz.zeroValue20
  t37 := Tryz.underlying73
  a37 := Tryz.isAgg73
  z37 := Tryz.sizeOf73
  v37 := Tryz.zeroValue73
  t46 := Tryz.underlying166
  a46 := Tryz.isAgg166
  z46 := Tryz.sizeOf166
  v46 := Tryz.zeroValue166
  t51 := Tryz.underlying87
  a51 := Tryz.isAgg87
  z51 := Tryz.sizeOf87
  v51 := Tryz.zeroValue87
  t53 := Tryz.underlying33
  a53 := Tryz.isAgg33
  z53 := Tryz.sizeOf33
  v53 := Tryz.zeroValue33
  t70 := Tryz.underlying170
  a70 := Tryz.isAgg170
  z70 := Tryz.sizeOf170
  v70 := Tryz.zeroValue170
  t72 := Tryz.underlying172
  a72 := Tryz.isAgg172
  z72 := Tryz.sizeOf172
  v72 := Tryz.zeroValue172
  t75 := Tryz.underlying174
  a75 := Tryz.isAgg174
  z75 := Tryz.sizeOf174
  v75 := Tryz.zeroValue174
  t76 := Tryz.underlying175
  a76 := Tryz.isAgg175
  z76 := Tryz.sizeOf175
  v76 := Tryz.zeroValue175
  t109 := Tryz.underlying167
  a109 := Tryz.isAgg167
  z109 := Tryz.sizeOf167
  v109 := Tryz.zeroValue167
  t127 := Tryz.underlying204
  a127 := Tryz.isAgg204
  z127 := Tryz.sizeOf204
  v127 := Tryz.zeroValue204
  t146 := Tryz.underlying200
  a146 := Tryz.isAgg200
  z146 := Tryz.sizeOf200
  v146 := Tryz.zeroValue200
  t148 := Tryz.underlying202
  a148 := Tryz.isAgg202
  z148 := Tryz.sizeOf202
  v148 := Tryz.zeroValue202
  t164 := Tryz.underlying214
  a164 := Tryz.isAgg214
  z164 := Tryz.sizeOf214
  v164 := Tryz.zeroValue214
end Go.Proofs
