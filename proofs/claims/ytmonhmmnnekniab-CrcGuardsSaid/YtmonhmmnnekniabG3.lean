/- Own text for the seat: G3. -/
import Derived.Test.YtmonhmmnnekniabG2
set_option linter.unusedVariables false
set_option linter.unusedSimpArgs false
set_option linter.unnecessarySimpa false
set_option linter.deprecated false
namespace Go.Gb
open Go.Proofs IntWalk

/-! ## le: bits -/

def maskN (at0 width : Nat) : Nat := (2 ^ width - 1) * 2 ^ at0
def mayP (at0 width : Int) : Prop := 0 ≤ at0 ∧ at0 < 64 ∧ 1 ≤ width ∧ width ≤ 64 - at0
instance (a b : Int) : Decidable (mayP a b) := by unfold mayP; infer_instance

theorem maskN_test (a n i : Nat) : (maskN a n).testBit i = (decide (a ≤ i) && decide (i < a + n)) := by
  unfold maskN
  rw [Nat.testBit_mul_two_pow, Nat.testBit_two_pow_sub_one]
  by_cases h : a ≤ i <;> simp [h]
  omega

theorem maskN_pos {a n : Nat} (h : 1 ≤ n) : maskN a n ≠ 0 := by
  unfold maskN
  have : 2 ^ 1 ≤ 2 ^ n := Nat.pow_le_pow_right (by omega) h
  have h2 : 0 < 2 ^ a := Nat.two_pow_pos a
  exact Nat.mul_ne_zero (by omega) (by omega)

theorem maskN_lt {a n : Nat} (h : a + n ≤ 64) : maskN a n < 18446744073709551616 := by
  unfold maskN
  have h1 : 2 ^ n * 2 ^ a ≤ 2 ^ 64 := by rw [← Nat.pow_add]; exact Nat.pow_le_pow_right (by omega) (by omega)
  have h2 : 0 < 2 ^ a := Nat.two_pow_pos a
  rw [Nat.sub_mul]
  omega

theorem not_may {a n : Int} (h : ¬ (0 ≤ a ∧ a < 64 ∧ 1 ≤ n ∧ n ≤ 64 - a)) : ¬ mayP a n := h

theorem le_mask.c {at0 width : Int} {h : Heap} {Q : Value → Heap → Prop} (hq : Q (.int .u64 (if mayP at0 width then (maskN at0.toNat width.toNat : Nat) else 0 : Int)) h) : C Try.prog 44 #[.int .i64 at0, .int .i64 width] h Q := by
  apply le_mask.ok
  unfold le_mask.wp
  refine xsIf_intro (fun h1 => ?_) (fun h1 => xsIf_intro (fun h2 => ?_) (fun h2 => xsIf_intro (fun h3 => ?_) (fun h3 => ?_)))
  · simp at h1
    rw [if_neg (not_may (by omega))] at hq; exact hq
  · simp at h1 h2
    rw [if_neg (not_may (by omega))] at hq; exact hq
  · simp at h1 h2 h3
    rw [if_neg (not_may (by omega))] at hq; exact hq
  · simp at h1 h2 h3
    rw [i64_in (64 - at0) (by omega)]
    refine xsIf_intro (fun h4 => ?_) (fun h4 => ?_) <;> simp at h4
    · rw [if_neg (not_may (by omega))] at hq; exact hq
    · rw [if_pos (show mayP at0 width from ⟨by omega, by omega, by omega, by omega⟩)] at hq
      rw [i64_in (64 - width) (by omega)]
      refine ⟨by omega, by omega, ?_⟩
      obtain ⟨a, rfl⟩ : ∃ a : Nat, at0 = a := ⟨at0.toNat, by omega⟩
      obtain ⟨n, rfl⟩ : ∃ n : Nat, width = n := ⟨width.toNat, by omega⟩
      rw [show (64 : Int) - (n : Int) = ((64 - n : Nat) : Int) by omega, show (18446744073709551615 : Int) = ((18446744073709551615 : Nat) : Int) from rfl, ishr_u64 (by omega), ishl_u64 (by omega)]
      have e1 : 18446744073709551615 / 2 ^ (64 - n) = 2 ^ n - 1 := by
        have : (18446744073709551615 : Nat) = 2 ^ (64 - n) * 2 ^ n - 1 := by rw [← Nat.pow_add, show 64 - n + n = 64 by omega]
        rw [this]
        have hp : 0 < 2 ^ n := Nat.two_pow_pos n
        have hp2 : 0 < 2 ^ (64 - n) := Nat.two_pow_pos _
        have : 2 ^ (64 - n) * 2 ^ n - 1 = (2 ^ (64 - n) - 1) + 2 ^ (64 - n) * (2 ^ n - 1) := by
          rw [Nat.mul_sub, Nat.mul_one]
          have : 2 ^ (64 - n) ≤ 2 ^ (64 - n) * 2 ^ n := Nat.le_mul_of_pos_right _ hp
          omega
        rw [this, Nat.add_mul_div_left _ _ hp2, Nat.div_eq_of_lt (by omega)]
        omega
      have hml := maskN_lt (a := a) (n := n) (by omega)
      unfold maskN at hml
      rw [e1, Nat.mod_eq_of_lt hml]
      simpa [maskN] using hq

/-- Some bits. -/
def fieldN (w a n : Nat) : Nat := w / 2 ^ a % 2 ^ n
/-- Others there. -/
def withN (w a n v : Nat) : Nat := (w &&& (18446744073709551615 - maskN a n)) ||| ((v * 2 ^ a % 18446744073709551616) &&& maskN a n)

theorem fieldN_test (w a n i : Nat) : (fieldN w a n).testBit i = (decide (i < n) && w.testBit (a + i)) := by
  unfold fieldN
  rw [Nat.testBit_mod_two_pow, Nat.testBit_div_two_pow, Nat.add_comm]

theorem field_and (w a n : Nat) : (w &&& maskN a n) / 2 ^ a = fieldN w a n := by
  apply Nat.eq_of_testBit_eq
  intro i
  rw [Nat.testBit_div_two_pow, Nat.testBit_and, maskN_test, fieldN_test, Nat.add_comm i a]
  simp
  by_cases h : i < n <;> simp [h]

theorem withN_test {w a n v i : Nat} (h : a + n ≤ 64) (hw : w < 18446744073709551616) :
    (withN w a n v).testBit i = if a ≤ i ∧ i < a + n then v.testBit (i - a) else w.testBit i := by
  unfold withN
  have hm := maskN_lt h
  have e : 18446744073709551615 - maskN a n = 2 ^ 64 - (maskN a n + 1) := by omega
  rw [Nat.testBit_or, Nat.testBit_and, Nat.testBit_and, e, Nat.testBit_two_pow_sub_succ hm, maskN_test]
  rw [show (18446744073709551616 : Nat) = 2 ^ 64 from rfl, Nat.testBit_mod_two_pow, Nat.testBit_mul_two_pow]
  by_cases h1 : a ≤ i ∧ i < a + n
  · rw [if_pos h1]
    have : i < 64 := by omega
    simp [h1.1, h1.2, this]
  · rw [if_neg h1]
    have : (decide (a ≤ i) && decide (i < a + n)) = false := by simp; omega
    rw [this]
    by_cases h64 : i < 64
    · simp [h64]
    · have : w.testBit i = false := Nat.testBit_lt_two_pow (Nat.lt_of_lt_of_le hw (Nat.pow_le_pow_right (n := 2) (by omega) (by omega : 64 ≤ i)))
      simp [this]

theorem withN_lt {w a n v : Nat} (h : a + n ≤ 64) (hw : w < 18446744073709551616) : withN w a n v < 18446744073709551616 := by
  unfold withN
  exact Nat.or_lt_two_pow (n := 64) (Nat.lt_of_le_of_lt Nat.and_le_left hw) (Nat.lt_of_le_of_lt Nat.and_le_right (maskN_lt h))

theorem fieldN_lt (w a n : Nat) : fieldN w a n < 2 ^ n := Nat.mod_lt _ (Nat.two_pow_pos n)
theorem fieldN_lt64 {w a n : Nat} (h : n ≤ 64) : fieldN w a n < 18446744073709551616 := Nat.lt_of_lt_of_le (fieldN_lt w a n) (Nat.pow_le_pow_right (n := 2) (by omega) h)

/-- Field and With, of whatever place. -/
def fieldV (w : Nat) (at0 width : Int) : Nat := if mayP at0 width then fieldN w at0.toNat width.toNat else 0
def withV (w : Nat) (at0 width : Int) (v : Nat) : Nat := if mayP at0 width then withN w at0.toNat width.toNat v else w

theorem fieldV_lt (w : Nat) (a n : Int) : fieldV w a n < 18446744073709551616 := by
  unfold fieldV
  split
  · rename_i hm
    unfold mayP at hm
    exact fieldN_lt64 (by omega)
  · omega
theorem withV_lt {w : Nat} (a n : Int) (v : Nat) (hw : w < 18446744073709551616) : withV w a n v < 18446744073709551616 := by
  unfold withV
  split
  · rename_i hm
    unfold mayP at hm
    exact withN_lt (by omega) hw
  · exact hw

theorem le_Field.c {w : Nat} {at0 width : Int} {h : Heap} {Q : Value → Heap → Prop} (hw : w < 18446744073709551616) (hq : Q (.int .u64 (fieldV w at0 width)) h) : C Try.prog 38 #[.int .u64 w, .int .i64 at0, .int .i64 width] h Q := by
  apply le_Field.ok
  unfold le_Field.wp
  refine le_mask.c ⟨_, rfl, ?_⟩
  unfold fieldV at hq
  split
  · rename_i hm
    rw [if_pos hm] at hq
    have hm' := hm
    unfold mayP at hm'
    have h1 : maskN at0.toNat width.toNat ≠ 0 := maskN_pos (by omega)
    refine xsIf_f (by simp; exact h1) ⟨hm.1, ?_⟩
    obtain ⟨a, rfl⟩ : ∃ a : Nat, at0 = a := ⟨at0.toNat, by omega⟩
    rw [iand_u64 hw (maskN_lt (by omega)), ishr_u64 (by omega)]
    simp only [Int.toNat_natCast] at hq ⊢
    rw [field_and]
    exact hq
  · rename_i hm
    rw [if_neg hm] at hq
    exact xsIf_t (by simp) hq

/-! by definition -/

theorem gabionref01_may.c {at0 width : Int} {h : Heap} {Q : Value → Heap → Prop} (hq : Q (.bool (decide (mayP at0 width))) h) : C Try.prog 42 #[.int .i64 at0, .int .i64 width] h Q := by
  have hq' : ∀ b, (b = true ↔ mayP at0 width) → Q (.bool b) h := fun b hb => by
    rw [show b = decide (mayP at0 width) by rw [Bool.eq_iff_iff]; simpa using hb]; exact hq
  apply gabionref01_may.ok
  unfold gabionref01_may.wp
  refine xsIf_intro (fun h1 => xsIf_intro (fun h2 => xsIf_intro (fun h3 => ?_) (fun h3 => ?_)) (fun h2 => ?_)) (fun h1 => ?_)
  · simp at h1 h2 h3
    rw [i64_in _ (by omega)]; apply hq'; unfold mayP; simp; omega
  · simp at h1 h2 h3
    apply hq'; unfold mayP; simp; omega
  · simp at h1 h2
    apply hq'; unfold mayP; simp; omega
  · simp at h1
    apply hq'; unfold mayP; simp; omega

theorem gabionref01_bit.L2.c {h : Heap} {Q : Value → Heap → Prop} {i : Nat} (hi : i < 64) : ∀ (j : Nat) (w k : Nat), w < 18446744073709551616 → k + j = i → Q (.int .u64 (w / 2 ^ j % 2 : Nat)) h → gabionref01_bit.L2 w i k h Q := by
  intro j
  induction j with
  | zero =>
    intro w k hw hk hq
    apply gabionref01_bit.L2.ok
    refine xsIf_f (by simp; omega) ?_
    rw [show (2 : Int) = ((2 : Nat) : Int) from rfl, irem_nat]
    simpa using hq
  | succ j ih =>
    intro w k hw hk hq
    apply gabionref01_bit.L2.ok
    refine xsIf_t (by simp; omega) ?_
    rw [show (2 : Int) = ((2 : Nat) : Int) from rfl, iquo_u64 _ hw, i64_in _ (by omega)]
    refine ih (w / 2) (k + 1) (by omega) (by omega) ?_
    rw [Nat.div_div_eq_div_mul, Nat.mul_comm, ← Nat.pow_succ]
    exact hq

theorem gabionref01_bit.c {w : Nat} {i : Nat} {h : Heap} {Q : Value → Heap → Prop} (hw : w < 18446744073709551616) (hi : i < 64) (hq : Q (.int .u64 (w / 2 ^ i % 2 : Nat)) h) : C Try.prog 43 #[.int .u64 w, .int .i64 i] h Q := by
  apply gabionref01_bit.ok
  exact gabionref01_bit.L2.c hi i w 0 hw (by omega) hq

theorem field_step (w b i : Nat) : 2 * (w / 2 ^ (b + 1) % 2 ^ i) + w / 2 ^ b % 2 = w / 2 ^ b % 2 ^ (i + 1) := by
  rw [Nat.pow_succ, Nat.pow_succ, Nat.mul_comm (2 ^ i) 2, Nat.mod_mul, ← Nat.div_div_eq_div_mul]
  omega

theorem gabionref01_Field.L4.c {h : Heap} {Q : Value → Heap → Prop} {w a n : Nat} (hw : w < 18446744073709551616) (hm : a + n ≤ 64) (hq : Q (.int .u64 (fieldN w a n : Nat)) h) : ∀ (j i : Nat), i + j = n →
    gabionref01_Field.L4 w a n true (w / 2 ^ (a + j) % 2 ^ i : Nat) i h Q := by
  intro j
  induction j with
  | zero =>
    intro i hi
    apply gabionref01_Field.L4.ok
    refine xsIf_t rfl (xsIf_f (by simp; omega) ?_)
    have : i = n := by omega
    subst this
    exact hq
  | succ j ih =>
    intro i hi
    apply gabionref01_Field.L4.ok
    refine xsIf_t rfl (xsIf_t (by simp; omega) ?_)
    apply gabionref01_Field.J6.ok
    unfold gabionref01_Field.J6.wp
    rw [i64_in ((a : Int) + n) (by omega), i64_in ((a : Int) + n - 1) (by omega), i64_in _ (by omega), show (a : Int) + n - 1 - i = ((a + j : Nat) : Int) by omega]
    refine gabionref01_bit.c hw (by omega) ⟨_, rfl, ?_⟩
    have h1 : w / 2 ^ (a + (j + 1)) % 2 ^ i < 2 ^ 63 := Nat.lt_of_lt_of_le (Nat.mod_lt _ (Nat.two_pow_pos i)) (Nat.pow_le_pow_right (n := 2) (by omega) (by omega))
    have h2 : w / 2 ^ (a + j) % 2 < 2 := Nat.mod_lt _ (by omega)
    rw [show (2 : Int) = ((2 : Nat) : Int) from rfl, ← Int.natCast_mul, u64_nat' (by omega), ← Int.natCast_add, u64_nat' (by omega), i64_in _ (by omega)]
    have := ih (i + 1) (by omega)
    rw [← field_step w (a + j) i] at this
    exact this

theorem gabionref01_Field.c {w : Nat} {at0 width : Int} {h : Heap} {Q : Value → Heap → Prop} (hw : w < 18446744073709551616) (hq : Q (.int .u64 (fieldV w at0 width)) h) : C Try.prog 36 #[.int .u64 w, .int .i64 at0, .int .i64 width] h Q := by
  apply gabionref01_Field.ok
  unfold gabionref01_Field.wp
  refine gabionref01_may.c ⟨_, rfl, ?_⟩
  unfold fieldV at hq
  by_cases hm : mayP at0 width
  · rw [if_pos hm] at hq
    rw [decide_eq_true hm]
    unfold mayP at hm
    obtain ⟨a, rfl⟩ : ∃ a : Nat, at0 = a := ⟨at0.toNat, by omega⟩
    obtain ⟨n, rfl⟩ : ∃ n : Nat, width = n := ⟨width.toNat, by omega⟩
    simp only [Int.toNat_natCast] at hq
    have := gabionref01_Field.L4.c hw (by omega) hq n 0 (by omega)
    simpa [Nat.mod_one] using this
  · rw [if_neg hm] at hq
    rw [decide_eq_false hm]
    apply gabionref01_Field.L4.ok
    exact xsIf_f rfl hq

end Go.Gb
