/- Own texts for the seat: Hp. -/
import Derived.Test.YtcccjpahikgibaaDoorA7
import Derived.Test.YtcccjpahikgibaaDoorA13
set_option linter.unusedVariables false
set_option linter.unusedSimpArgs false
set_option linter.unnecessarySimpa false
set_option linter.deprecated false
namespace Go.Gb
open IntWalk

/-! Small helps. -/

theorem oneCells_of : ∀ {l : List Value}, (∀ v, v ∈ l → Value.oneCell' v = true) → oneCells l = true
  | [], _ => rfl
  | v :: l, h => by
    show (Value.oneCell' v && oneCells l) = true
    rw [h v (by simp), oneCells_of fun w hw => h w (by simp [hw])]; rfl

end Go.Gb
