/- Own texts for the seat: GbArgs. -/
import Derived.Test.YtcccjpahikgibaaA11
import Derived.Test.YtcccjpahikgibaaA7
set_option linter.unusedVariables false
set_option linter.unusedSimpArgs false
set_option linter.unnecessarySimpa false
set_option linter.deprecated false
namespace Go.Gb
open Go.ChangeShapes Go.WideShapes Go.ChangeAt Go.RowKit

/-! Arguments of whatever type: what their cells are, told by the type. -/


end Go.Gb
