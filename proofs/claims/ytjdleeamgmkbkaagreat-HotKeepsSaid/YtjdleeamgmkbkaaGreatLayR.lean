/- Own text for the seat: LayR. -/
import Derived.Shelf.Strings.Repeat
import Derived.Test.YtjdleeamgmkbkaaGreatProg
set_option linter.unusedVariables false
set_option linter.unusedSimpArgs false
set_option linter.unnecessarySimpa false
set_option linter.deprecated false
set_option maxRecDepth 100000
namespace Go.Proofs
open Go.RowKit Go.Shelf
def Tryz.rep_ren : Go.Shelf.Ren := ⟨fun | 105 => 76 | 212 => 137 | 99 => 138 | 165 => 139 | 166 => 140 | 170 => 141 | 169 => 142 | 263 => 199 | 264 => 200 | 206 => 201 | 240 => 202 | 241 => 203 | 276 => 241 | 277 => 242 | n => n, fun | 9 => 9 | 3 => 3 | 4 => 4 | 20 => 20 | 0 => 0 | 46 => 213 | 109 => 214 | 5 => 5 | 72 => 219 | 76 => 222 | 51 => 68 | 146 => 266 | 53 => 22 | 148 => 268 | 70 => 217 | 37 => 175 | 75 => 221 | 127 => 270 | 164 => 300 | 80 => 146 | n => n, fun  | n => n⟩
theorem Tryz.rep : Lays.n105 Tryz.prog Tryz.rep_ren where
  mixed := by kernel_rfl
  f99 := Tryz.func138.trans (congrArg some (by kernel_rfl))
  f105 := Tryz.func76.trans (congrArg some (by kernel_rfl))
  f165 := Tryz.func139.trans (congrArg some (by kernel_rfl))
  f166 := Tryz.func140.trans (congrArg some (by kernel_rfl))
  f169 := Tryz.func142.trans (congrArg some (by kernel_rfl))
  f170 := Tryz.func141.trans (congrArg some (by kernel_rfl))
  f206 := Tryz.func201.trans (congrArg some (by kernel_rfl))
  f212 := Tryz.func137.trans (congrArg some (by kernel_rfl))
  f240 := Tryz.func202.trans (congrArg some (by kernel_rfl))
  f241 := Tryz.func203.trans (congrArg some (by kernel_rfl))
  f263 := Tryz.func199.trans (congrArg some (by kernel_rfl))
  f264 := Tryz.func200.trans (congrArg some (by kernel_rfl))
  f276 := Tryz.func241.trans (congrArg some (by kernel_rfl))
  f277 := Tryz.func242.trans (congrArg some (by kernel_rfl))
  t0 := Tryz.underlying0
  a0 := Tryz.isAgg0
  z0 := Tryz.sizeOf0
  v0 := Tryz.zeroValue0
  t3 := Tryz.underlying3
  a3 := Tryz.isAgg3
  z3 := Tryz.sizeOf3
  v3 := Tryz.zeroValue3
  t4 := Tryz.underlying4
  a4 := Tryz.isAgg4
  z4 := Tryz.sizeOf4
  v4 := Tryz.zeroValue4
  t5 := Tryz.underlying5
  a5 := Tryz.isAgg5
  z5 := Tryz.sizeOf5
  v5 := Tryz.zeroValue5
  t9 := Tryz.underlying9
  a9 := Tryz.isAgg9
  z9 := Tryz.sizeOf9
  v9 := Tryz.zeroValue9
  t20 := Tryz.underlying20
  a20 := Tryz.isAgg20
  z20 := Tryz.sizeOf20
  v20 := Tryz.zeroValue20
  t37 := Tryz.underlying175
  a37 := Tryz.isAgg175
  z37 := Tryz.sizeOf175
  v37 := Tryz.zeroValue175
  t46 := Tryz.underlying213
  a46 := Tryz.isAgg213
  z46 := Tryz.sizeOf213
  v46 := Tryz.zeroValue213
  t51 := Tryz.underlying68
  a51 := Tryz.isAgg68
  z51 := Tryz.sizeOf68
  v51 := Tryz.zeroValue68
  t53 := Tryz.underlying22
  a53 := Tryz.isAgg22
  z53 := Tryz.sizeOf22
  v53 := Tryz.zeroValue22
  t70 := Tryz.underlying217
  a70 := Tryz.isAgg217
  z70 := Tryz.sizeOf217
  v70 := Tryz.zeroValue217
  t72 := Tryz.underlying219
  a72 := Tryz.isAgg219
  z72 := Tryz.sizeOf219
  v72 := Tryz.zeroValue219
  t75 := Tryz.underlying221
  a75 := Tryz.isAgg221
  z75 := Tryz.sizeOf221
  v75 := Tryz.zeroValue221
  t76 := Tryz.underlying222
  a76 := Tryz.isAgg222
  z76 := Tryz.sizeOf222
  v76 := Tryz.zeroValue222
  t109 := Tryz.underlying214
  a109 := Tryz.isAgg214
  z109 := Tryz.sizeOf214
  v109 := Tryz.zeroValue214
  t127 := Tryz.underlying270
  a127 := Tryz.isAgg270
  z127 := Tryz.sizeOf270
  v127 := Tryz.zeroValue270
  t146 := Tryz.underlying266
  a146 := Tryz.isAgg266
  z146 := Tryz.sizeOf266
  v146 := Tryz.zeroValue266
  t148 := Tryz.underlying268
  a148 := Tryz.isAgg268
  z148 := Tryz.sizeOf268
  v148 := Tryz.zeroValue268
  t164 := Tryz.underlying300
  a164 := Tryz.isAgg300
  z164 := Tryz.sizeOf300
  v164 := Tryz.zeroValue300
end Go.Proofs
