/- Own texts for the seat: GbArgs GbArgs2. -/
import Derived.Test.YtdlenbajhalknaaGreatA10
import Derived.Test.YtdlenbajhalknaaGreatA6
set_option linter.unusedVariables false
set_option linter.unusedSimpArgs false
set_option linter.unnecessarySimpa false
set_option linter.deprecated false
namespace Go.Gb
open Go.ChangeShapes Go.WideShapes Go.ChangeAt Go.RowKit
end Go.Gb
namespace Go.Gb
end Go.Gb
