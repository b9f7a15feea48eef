/- Own text for the seat: W6. -/
import Derived.Test.YtjdleeamgmkbkaaGreatW5
set_option linter.unusedVariables false
set_option linter.unusedSimpArgs false
set_option linter.unnecessarySimpa false
set_option linter.deprecated false
set_option maxRecDepth 100000
namespace Go.Gb
open Go.Proofs

end Go.Gb

