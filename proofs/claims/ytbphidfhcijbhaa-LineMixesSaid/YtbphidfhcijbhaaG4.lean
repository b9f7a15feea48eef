/- Own text for the seat: G4. -/
import Derived.Test.YtbphidfhcijbhaaG3
set_option linter.unusedVariables false
set_option linter.unusedSimpArgs false
set_option linter.unnecessarySimpa false
set_option linter.deprecated false
namespace Go.Gb
open Go.Proofs IntWalk

/-! ## The laws of le -/

theorem get8_put8 {n : Nat} (hn : n < 18446744073709551616) : get8 ⟨(putL n (cnt 8)).toArray⟩ = n := by
  unfold get8
  have : cnt 8 = 8 := by decide
  rw [this]
  simp only [List.take_of_length_le (Nat.le_of_eq (putL_length 8 n))]
  rw [getL_put]
  exact Nat.mod_eq_of_lt hn

theorem cell_new {h : Heap} {b : Nat} {vs : Array Value} {T : TypeId} {f : Nat × Nat} (i : Nat) : (upd h b (.cells vs T f)).cell b i = vs[i]? := by
  unfold Heap.cell
  rw [upd_same]

/-! LeParts -/

theorem fieldV_nat (w a n : Nat) (h1 : 1 ≤ n) (h : a + n ≤ 64) : fieldV w a n = fieldN w a n := by
  unfold fieldV
  rw [if_pos ⟨by omega, by omega, by omega, by omega⟩]; simp
theorem withV_nat (w a n v : Nat) (h1 : 1 ≤ n) (h : a + n ≤ 64) : withV w a n v = withN w a n v := by
  unfold withV
  rw [if_pos ⟨by omega, by omega, by omega, by omega⟩]; simp

theorem parts1 {w a n v : Nat} (h : a + n ≤ 64) (hw : w < 18446744073709551616) : fieldN (withN w a n v) a n = fieldN v 0 n := by
  apply Nat.eq_of_testBit_eq
  intro i
  rw [fieldN_test, fieldN_test, withN_test h hw]
  by_cases hi : i < n
  · rw [if_pos (by omega)]; simp
  · simp [hi]

theorem parts2 {w a n v : Nat} (h : a + n ≤ 64) (hw : w < 18446744073709551616) : withN (withN w a n v) a n (fieldN w a n) = w := by
  apply Nat.eq_of_testBit_eq
  intro i
  rw [withN_test h (withN_lt h hw)]
  by_cases hi : a ≤ i ∧ i < a + n
  · rw [if_pos hi, fieldN_test]
    have : i - a < n := by omega
    simp only [this, decide_true, Bool.true_and]
    congr 1; omega
  · rw [if_neg hi, withN_test h hw, if_neg hi]

theorem parts3 {w a n v c m : Nat} (h : a + n ≤ 64) (hw : w < 18446744073709551616) (hd : c + m ≤ a ∨ a + n ≤ c) : fieldN (withN w a n v) c m = fieldN w c m := by
  apply Nat.eq_of_testBit_eq
  intro i
  rw [fieldN_test, fieldN_test, withN_test h hw]
  by_cases hi : i < m
  · rw [if_neg (by omega)]
  · simp [hi]

/-! LeJoins -/

theorem cnt_nat {k : Nat} (h : k ≤ 8) : cnt (k : Int) = k := by unfold cnt; omega

end Go.Gb
