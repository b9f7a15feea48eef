/- Own texts for the seat: GbArgs GbArgs2. -/
import Derived.Test.YtcccjpahikgibaaDoorA12
import Derived.Test.YtcccjpahikgibaaDoorA7
set_option linter.unusedVariables false
set_option linter.unusedSimpArgs false
set_option linter.unnecessarySimpa false
set_option linter.deprecated false
namespace Go.Gb
open Go.ChangeShapes Go.WideShapes Go.ChangeAt Go.RowKit

/-! Arguments of whatever type: what their cells are, told by the type. -/


end Go.Gb
namespace Go.Gb

/-! The cells of a struct or an array, each by its own type. -/

end Go.Gb
