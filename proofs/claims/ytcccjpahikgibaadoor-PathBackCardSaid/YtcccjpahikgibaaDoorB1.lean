/- Own texts for the seat: Hp. -/
import Derived.Test.YtcccjpahikgibaaDoorA7
import Derived.Test.YtcccjpahikgibaaDoorA13
set_option linter.unusedVariables false
set_option linter.unusedSimpArgs false
set_option linter.unnecessarySimpa false
set_option linter.deprecated false
namespace Go.Gb
open IntWalk

/-! Small helps. -/

end Go.Gb
