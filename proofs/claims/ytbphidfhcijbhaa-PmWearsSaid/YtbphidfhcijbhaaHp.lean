/- Own text for the seat: Hp. -/
import Derived.Test.YtbphidfhcijbhaaGbOwn
import Derived.Test.YtbphidfhcijbhaaGbArgs2
set_option linter.unusedVariables false
set_option linter.unusedSimpArgs false
set_option linter.unnecessarySimpa false
set_option linter.deprecated false
namespace Go.Gb
open IntWalk

/-! Small helps. -/

theorem iquo8 {a : Nat} (b : Nat) (h : a < 256) : iquo .u8 (a : Int) (b : Int) = ((a / b : Nat) : Int) := by
  unfold iquo
  rw [Int.tdiv_eq_ediv_of_nonneg (by omega)]
  have : (a : Int) / (b : Int) = ((a / b : Nat) : Int) := rfl
  rw [this, u8_nat' (Nat.lt_of_le_of_lt (Nat.div_le_self a b) h)]

theorem slBase0 (a : Option Addr) (c : Int) (sz : Nat) : slBase a c 0 sz = a := by
  unfold slBase
  split
  · rfl
  · cases a with
    | none => rfl
    | some x => simp [Addr.add]

end Go.Gb
