/- Own text for the seat: LayR. -/
import Derived.Shelf.Strings.Repeat
import Derived.Test.YtgfaiaibdgljjaaProg
set_option linter.unusedVariables false
set_option linter.unusedSimpArgs false
set_option linter.unnecessarySimpa false
set_option linter.deprecated false
set_option maxRecDepth 100000
namespace Go.Proofs
open Go.RowKit Go.Shelf
def Try.rep_ren : Go.Shelf.Ren := ⟨fun | 105 => 15 | 212 => 32 | 99 => 33 | 165 => 34 | 166 => 35 | 170 => 36 | 169 => 37 | 263 => 53 | 264 => 54 | 206 => 55 | 240 => 56 | 241 => 57 | 276 => 69 | 277 => 70 | n => n, fun | 9 => 9 | 3 => 3 | 4 => 4 | 20 => 20 | 0 => 0 | 46 => 65 | 109 => 66 | 5 => 5 | 72 => 72 | 76 => 75 | 51 => 92 | 146 => 93 | 53 => 53 | 148 => 95 | 70 => 69 | 37 => 70 | 75 => 74 | 127 => 97 | 164 => 105 | 80 => 77 | n => n, fun  | n => n⟩
theorem Try.rep : Lays.n105 Try.prog Try.rep_ren where
  mixed := by kernel_rfl
  f99 := Try.func33.trans (congrArg some (by kernel_rfl))
  f105 := Try.func15.trans (congrArg some (by kernel_rfl))
  f165 := Try.func34.trans (congrArg some (by kernel_rfl))
  f166 := Try.func35.trans (congrArg some (by kernel_rfl))
  f169 := Try.func37.trans (congrArg some (by kernel_rfl))
  f170 := Try.func36.trans (congrArg some (by kernel_rfl))
  f206 := Try.func55.trans (congrArg some (by kernel_rfl))
  f212 := Try.func32.trans (congrArg some (by kernel_rfl))
  f240 := Try.func56.trans (congrArg some (by kernel_rfl))
  f241 := Try.func57.trans (congrArg some (by kernel_rfl))
  f263 := Try.func53.trans (congrArg some (by kernel_rfl))
  f264 := Try.func54.trans (congrArg some (by kernel_rfl))
  f276 := Try.func69.trans (congrArg some (by kernel_rfl))
  f277 := Try.func70.trans (congrArg some (by kernel_rfl))
  t0 := Try.underlying0
  a0 := Try.isAgg0
  z0 := Try.sizeOf0
  v0 := Try.zeroValue0
  t3 := Try.underlying3
  a3 := Try.isAgg3
  z3 := Try.sizeOf3
  v3 := Try.zeroValue3
  t4 := Try.underlying4
  a4 := Try.isAgg4
  z4 := Try.sizeOf4
  v4 := Try.zeroValue4
  t5 := Try.underlying5
  a5 := Try.isAgg5
  z5 := Try.sizeOf5
  v5 := Try.zeroValue5
  t9 := Try.underlying9
  a9 := Try.isAgg9
  z9 := Try.sizeOf9
  v9 := Try.zeroValue9
  t20 := Try.underlying20
  a20 := Try.isAgg20
  z20 := Try.sizeOf20
  v20 := Try.zeroValue20
  t37 := Try.underlying70
  a37 := Try.isAgg70
  z37 := Try.sizeOf70
  v37 := Try.zeroValue70
  t46 := Try.underlying65
  a46 := Try.isAgg65
  z46 := Try.sizeOf65
  v46 := Try.zeroValue65
  t51 := Try.underlying92
  a51 := Try.isAgg92
  z51 := Try.sizeOf92
  v51 := Try.zeroValue92
  t53 := Try.underlying53
  a53 := Try.isAgg53
  z53 := Try.sizeOf53
  v53 := Try.zeroValue53
  t70 := Try.underlying69
  a70 := Try.isAgg69
  z70 := Try.sizeOf69
  v70 := Try.zeroValue69
  t72 := Try.underlying72
  a72 := Try.isAgg72
  z72 := Try.sizeOf72
  v72 := Try.zeroValue72
  t75 := Try.underlying74
  a75 := Try.isAgg74
  z75 := Try.sizeOf74
  v75 := Try.zeroValue74
  t76 := Try.underlying75
  a76 := Try.isAgg75
  z76 := Try.sizeOf75
  v76 := Try.zeroValue75
  t109 := Try.underlying66
  a109 := Try.isAgg66
  z109 := Try.sizeOf66
  v109 := Try.zeroValue66
  t127 := Try.underlying97
  a127 := Try.isAgg97
  z127 := Try.sizeOf97
  v127 := Try.zeroValue97
  t146 := Try.underlying93
  a146 := Try.isAgg93
  z146 := Try.sizeOf93
  v146 := Try.zeroValue93
  t148 := Try.underlying95
  a148 := Try.isAgg95
  z148 := Try.sizeOf95
  v148 := Try.zeroValue95
  t164 := Try.underlying105
  a164 := Try.isAgg105
  z164 := Try.sizeOf105
  v164 := Try.zeroValue105
end Go.Proofs
