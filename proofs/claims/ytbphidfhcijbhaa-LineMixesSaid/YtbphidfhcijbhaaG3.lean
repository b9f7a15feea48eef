/- Own text for the seat: G3. -/
import Derived.Test.YtbphidfhcijbhaaG2
set_option linter.unusedVariables false
set_option linter.unusedSimpArgs false
set_option linter.unnecessarySimpa false
set_option linter.deprecated false
namespace Go.Gb
open Go.Proofs IntWalk

/-! ## le: bits -/

def maskN (at0 width : Nat) : Nat := (2 ^ width - 1) * 2 ^ at0
def mayP (at0 width : Int) : Prop := 0 ≤ at0 ∧ at0 < 64 ∧ 1 ≤ width ∧ width ≤ 64 - at0
instance (a b : Int) : Decidable (mayP a b) := by unfold mayP; infer_instance

theorem maskN_test (a n i : Nat) : (maskN a n).testBit i = (decide (a ≤ i) && decide (i < a + n)) := by
  unfold maskN
  rw [Nat.testBit_mul_two_pow, Nat.testBit_two_pow_sub_one]
  by_cases h : a ≤ i <;> simp [h]
  omega

theorem maskN_pos {a n : Nat} (h : 1 ≤ n) : maskN a n ≠ 0 := by
  unfold maskN
  have : 2 ^ 1 ≤ 2 ^ n := Nat.pow_le_pow_right (by omega) h
  have h2 : 0 < 2 ^ a := Nat.two_pow_pos a
  exact Nat.mul_ne_zero (by omega) (by omega)

theorem maskN_lt {a n : Nat} (h : a + n ≤ 64) : maskN a n < 18446744073709551616 := by
  unfold maskN
  have h1 : 2 ^ n * 2 ^ a ≤ 2 ^ 64 := by rw [← Nat.pow_add]; exact Nat.pow_le_pow_right (by omega) (by omega)
  have h2 : 0 < 2 ^ a := Nat.two_pow_pos a
  rw [Nat.sub_mul]
  omega

theorem not_may {a n : Int} (h : ¬ (0 ≤ a ∧ a < 64 ∧ 1 ≤ n ∧ n ≤ 64 - a)) : ¬ mayP a n := h

/-- Some bits. -/
def fieldN (w a n : Nat) : Nat := w / 2 ^ a % 2 ^ n
/-- Others there. -/
def withN (w a n v : Nat) : Nat := (w &&& (18446744073709551615 - maskN a n)) ||| ((v * 2 ^ a % 18446744073709551616) &&& maskN a n)

theorem fieldN_test (w a n i : Nat) : (fieldN w a n).testBit i = (decide (i < n) && w.testBit (a + i)) := by
  unfold fieldN
  rw [Nat.testBit_mod_two_pow, Nat.testBit_div_two_pow, Nat.add_comm]

theorem field_and (w a n : Nat) : (w &&& maskN a n) / 2 ^ a = fieldN w a n := by
  apply Nat.eq_of_testBit_eq
  intro i
  rw [Nat.testBit_div_two_pow, Nat.testBit_and, maskN_test, fieldN_test, Nat.add_comm i a]
  simp
  by_cases h : i < n <;> simp [h]

theorem withN_test {w a n v i : Nat} (h : a + n ≤ 64) (hw : w < 18446744073709551616) :
    (withN w a n v).testBit i = if a ≤ i ∧ i < a + n then v.testBit (i - a) else w.testBit i := by
  unfold withN
  have hm := maskN_lt h
  have e : 18446744073709551615 - maskN a n = 2 ^ 64 - (maskN a n + 1) := by omega
  rw [Nat.testBit_or, Nat.testBit_and, Nat.testBit_and, e, Nat.testBit_two_pow_sub_succ hm, maskN_test]
  rw [show (18446744073709551616 : Nat) = 2 ^ 64 from rfl, Nat.testBit_mod_two_pow, Nat.testBit_mul_two_pow]
  by_cases h1 : a ≤ i ∧ i < a + n
  · rw [if_pos h1]
    have : i < 64 := by omega
    simp [h1.1, h1.2, this]
  · rw [if_neg h1]
    have : (decide (a ≤ i) && decide (i < a + n)) = false := by simp; omega
    rw [this]
    by_cases h64 : i < 64
    · simp [h64]
    · have : w.testBit i = false := Nat.testBit_lt_two_pow (Nat.lt_of_lt_of_le hw (Nat.pow_le_pow_right (n := 2) (by omega) (by omega : 64 ≤ i)))
      simp [this]

theorem withN_lt {w a n v : Nat} (h : a + n ≤ 64) (hw : w < 18446744073709551616) : withN w a n v < 18446744073709551616 := by
  unfold withN
  exact Nat.or_lt_two_pow (n := 64) (Nat.lt_of_le_of_lt Nat.and_le_left hw) (Nat.lt_of_le_of_lt Nat.and_le_right (maskN_lt h))

theorem fieldN_lt (w a n : Nat) : fieldN w a n < 2 ^ n := Nat.mod_lt _ (Nat.two_pow_pos n)
theorem fieldN_lt64 {w a n : Nat} (h : n ≤ 64) : fieldN w a n < 18446744073709551616 := Nat.lt_of_lt_of_le (fieldN_lt w a n) (Nat.pow_le_pow_right (n := 2) (by omega) h)

/-- Field and With, of whatever place. -/
def fieldV (w : Nat) (at0 width : Int) : Nat := if mayP at0 width then fieldN w at0.toNat width.toNat else 0
def withV (w : Nat) (at0 width : Int) (v : Nat) : Nat := if mayP at0 width then withN w at0.toNat width.toNat v else w

theorem fieldV_lt (w : Nat) (a n : Int) : fieldV w a n < 18446744073709551616 := by
  unfold fieldV
  split
  · rename_i hm
    unfold mayP at hm
    exact fieldN_lt64 (by omega)
  · omega
theorem withV_lt {w : Nat} (a n : Int) (v : Nat) (hw : w < 18446744073709551616) : withV w a n v < 18446744073709551616 := by
  unfold withV
  split
  · rename_i hm
    unfold mayP at hm
    exact withN_lt (by omega) hw
  · exact hw

/-! by definition -/

theorem field_step (w b i : Nat) : 2 * (w / 2 ^ (b + 1) % 2 ^ i) + w / 2 ^ b % 2 = w / 2 ^ b % 2 ^ (i + 1) := by
  rw [Nat.pow_succ, Nat.pow_succ, Nat.mul_comm (2 ^ i) 2, Nat.mod_mul, ← Nat.div_div_eq_div_mul]
  omega

end Go.Gb
