/- Own text for the seat: W. -/
import Derived.Test.YtcccjpahikgibaaDoorW2
set_option linter.unusedVariables false
set_option linter.unusedSimpArgs false
set_option linter.unnecessarySimpa false
set_option linter.deprecated false
