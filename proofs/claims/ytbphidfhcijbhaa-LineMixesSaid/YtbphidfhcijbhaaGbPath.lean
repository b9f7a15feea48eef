/- Own text for the seat: GbPath. -/
import Derived.Test.YtbphidfhcijbhaaGbRun
set_option linter.unusedVariables false
set_option linter.unusedSimpArgs false
set_option linter.unnecessarySimpa false
set_option linter.deprecated false
namespace Go.Gb

/-- A part of some code. -/
def cAt : Code → List Nat → Code
  | c, [] => c
  | .seq a _, 0 :: r => cAt a r
  | .seq _ b, _ :: r => cAt b r
  | .cond _ a _, 0 :: r => cAt a r
  | .cond _ _ b, _ :: r => cAt b r
  | .block _ c, _ :: r => cAt c r
  | .loop c, _ :: r => cAt c r
  | .scope c, _ :: r => cAt c r
  | c, _ => c

def bodyOf (fn : Func) : Code :=
  match fn.body with
  | some c => c
  | none => .skip

end Go.Gb
