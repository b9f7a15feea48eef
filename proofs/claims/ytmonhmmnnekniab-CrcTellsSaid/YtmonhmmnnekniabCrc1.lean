/- Own text for the seat: Crc1. -/
import Derived.Test.YtmonhmmnnekniabG3
import Derived.Test.YtmonhmmnnekniabCrc0
import Derived.Test.YtmonhmmnnekniabGbSl2
set_option linter.unusedVariables false
set_option linter.unusedSimpArgs false
set_option linter.unnecessarySimpa false
set_option linter.deprecated false
namespace Go.Gb
open Go.Proofs IntWalk

/-! ## crc: what the code computes -/

theorem and_bit (r k : Nat) : (r &&& 2 ^ k ≠ 0) ↔ r.testBit k = true := by
  constructor
  · intro h
    cases hb : r.testBit k with
    | true => rfl
    | false =>
      refine absurd ?_ h
      apply Nat.eq_of_testBit_eq
      intro i
      rw [Nat.testBit_and, Nat.testBit_two_pow, Nat.zero_testBit]
      by_cases e : k = i
      · subst e; rw [hb]; rfl
      · simp [e]
  · intro h e
    have : (r &&& 2 ^ k).testBit k = true := by rw [Nat.testBit_and, Nat.testBit_two_pow, h]; simp
    rw [e, Nat.zero_testBit] at this
    cases this

theorem crc_Sum16.L7.c {s : ByteArray} {t7 t8 : Int} {h : Heap} {Q : Value → Heap → Prop} : ∀ (j k r : Nat), k + j = 8 → r < 65536 → crc_Sum16.L3 s (iter c16 j r : Nat) t7 (IntKind.i64.wrap (t8 + 1)) h Q → crc_Sum16.L7 s r t7 t8 k h Q := by
  intro j
  induction j with
  | zero =>
    intro k r hk hr hq
    apply crc_Sum16.L7.ok
    exact xsIf_f (by simp; omega) hq
  | succ j ih =>
    intro k r hk hr hq
    have hn := ih (k + 1) (c16 r) (by omega) (c16_lin.lt r hr) hq
    apply crc_Sum16.L7.ok
    unfold crc_Sum16.L7.wp
    rw [show (32768 : Int) = ((32768 : Nat) : Int) from rfl, iandU rfl (show r < 2 ^ IntKind.u16.bits from hr) (show 32768 < 2 ^ 16 by omega), show (1 : Int) = ((1 : Nat) : Int) from rfl, ishlU rfl (show 1 ≤ IntKind.u16.bits by decide),
      show (4129 : Int) = ((4129 : Nat) : Int) from rfl, ixorU rfl (Nat.mod_lt _ (Nat.two_pow_pos _)) (show 4129 < 2 ^ 16 by omega), show ((k : Int) + ((1 : Nat) : Int)) = ((k + 1 : Nat) : Int) by omega, i64_in _ (by omega)]
    have hb := and_bit r 15
    have e2 : r * 2 ^ 1 % 2 ^ IntKind.u16.bits = 2 * r % 65536 := by rw [show IntKind.u16.bits = 16 from rfl]; omega
    rw [e2]
    unfold c16 at hn
    refine xsIf_t (by simp; omega) (xsIf_intro (fun h1 => ?_) (fun h1 => ?_))
    · have h1 : r.testBit 15 = true := hb.1 (by simpa using h1)
      rw [h1] at hn; exact hn
    · have h1 : r.testBit 15 = false := by
        cases hx : r.testBit 15 with
        | false => rfl
        | true => have h3 := hb.2 hx; simp at h1; exact absurd (by exact_mod_cast h1) h3
      rw [h1] at hn
      simpa using hn

theorem crc_Sum16.L3.c {s : ByteArray} {h : Heap} {Q : Value → Heap → Prop} (hs : s.size ≤ 9223372036854775807) : ∀ (j i r : Nat), i + j = s.size → r < 65536 → Q (.int .u16 (chk (iter c16 8) (fun b => b * 256) r (s.data.toList.drop i) : Nat)) h → crc_Sum16.L3 s r s.size i h Q := by
  intro j
  induction j with
  | zero =>
    intro i r hi hr hq
    apply crc_Sum16.L3.ok
    refine xsIf_f (by simp; omega) ?_
    rw [List.drop_eq_nil_of_le (by simp; omega)] at hq
    exact hq
  | succ j ih =>
    intro i r hi hr hq
    apply crc_Sum16.L3.ok
    have hlt : i < s.data.toList.length := by simp; omega
    refine xsIf_t (by simp; omega) ⟨_, by omega, by rw [Int.toNat_natCast]; exact bget_get (by omega), ?_⟩
    have hb := byte_lt s.data.toList[i]
    rw [take_succ_get hlt, chk_cons] at hq
    rw [u16_nat' (by omega), show (8 : Int) = ((8 : Nat) : Int) from rfl, ishlU rfl (show 8 ≤ IntKind.u16.bits by decide), ixorU rfl (show r < 2 ^ IntKind.u16.bits from hr) (Nat.mod_lt _ (Nat.two_pow_pos _))]
    have e2 : s.data.toList[i].toNat * 2 ^ 8 % 2 ^ IntKind.u16.bits = s.data.toList[i].toNat * 256 := by rw [show IntKind.u16.bits = 16 from rfl]; omega
    rw [e2]
    have hx : r ^^^ s.data.toList[i].toNat * 256 < 65536 := xor_lt (w := 16) hr (by omega)
    refine crc_Sum16.L7.c 8 0 _ (by omega) hx ?_
    rw [show ((i : Int) + 1) = ((i + 1 : Nat) : Int) by omega, i64_in _ (by omega)]
    exact ih (i + 1) _ (by omega) ((c16_lin.iter 8).lt _ hx) hq

theorem crc_Sum16.c {s : ByteArray} {h : Heap} {Q : Value → Heap → Prop} (hs : s.size ≤ 9223372036854775807) (hq : Q (.int .u16 (sum16 s.data.toList)) h) : C Try.prog 12 #[.string s] h Q := by
  apply crc_Sum16.ok
  exact crc_Sum16.L3.c hs s.size 0 65535 (by omega) (by omega) hq

theorem crc_Sum32.L7.c {s : ByteArray} {t7 t8 : Int} {h : Heap} {Q : Value → Heap → Prop} : ∀ (j k r : Nat), k + j = 8 → r < 4294967296 → crc_Sum32.L3 s (iter c32 j r : Nat) t7 (IntKind.i64.wrap (t8 + 1)) h Q → crc_Sum32.L7 s r t7 t8 k h Q := by
  intro j
  induction j with
  | zero =>
    intro k r hk hr hq
    apply crc_Sum32.L7.ok
    exact xsIf_f (by simp; omega) hq
  | succ j ih =>
    intro k r hk hr hq
    have hn := ih (k + 1) (c32 r) (by omega) (c32_lin.lt r hr) hq
    apply crc_Sum32.L7.ok
    unfold crc_Sum32.L7.wp
    have hd : r / 2 < 2 ^ 32 := by omega
    rw [show (1 : Int) = ((1 : Nat) : Int) from rfl, iandU rfl (show r < 2 ^ IntKind.u32.bits from hr) (show 1 < 2 ^ 32 by omega), ishrU (show 1 ≤ IntKind.u32.bits by decide), show r / 2 ^ 1 = r / 2 from rfl,
      show (2197175160 : Int) = ((2197175160 : Nat) : Int) from rfl, ixorU rfl hd (show 2197175160 < 2 ^ 32 by omega), show ((k : Int) + ((1 : Nat) : Int)) = ((k + 1 : Nat) : Int) by omega, i64_in _ (by omega)]
    have hb := and_bit r 0
    unfold c32 at hn
    refine xsIf_t (by simp; omega) (xsIf_intro (fun h1 => ?_) (fun h1 => ?_))
    · have h1 : r.testBit 0 = true := hb.1 (by intro e; rw [show (1 : Nat) = 2 ^ 0 from rfl, e] at h1; simp at h1)
      rw [h1] at hn; exact hn
    · have h1 : r.testBit 0 = false := by
        cases hx : r.testBit 0 with
        | false => rfl
        | true => have h3 := hb.2 hx; simp at h1; simp at h3; omega
      rw [h1] at hn
      simpa using hn

theorem crc_Sum32.L3.c {s : ByteArray} {h : Heap} {Q : Value → Heap → Prop} (hs : s.size ≤ 9223372036854775807) : ∀ (j i r : Nat), i + j = s.size → r < 4294967296 → Q (.int .u32 (chk (iter c32 8) (fun b => b) r (s.data.toList.drop i) ^^^ 4294967295 : Nat)) h → crc_Sum32.L3 s r s.size i h Q := by
  intro j
  induction j with
  | zero =>
    intro i r hi hr hq
    apply crc_Sum32.L3.ok
    refine xsIf_f (by simp; omega) ?_
    rw [List.drop_eq_nil_of_le (by simp; omega)] at hq
    rw [inotU (k := .u32) (m := 4294967295) rfl rfl (show 4294967295 < 2 ^ 32 by omega) (show r < 2 ^ IntKind.u32.bits from hr)]
    exact hq
  | succ j ih =>
    intro i r hi hr hq
    apply crc_Sum32.L3.ok
    have hlt : i < s.data.toList.length := by simp; omega
    refine xsIf_t (by simp; omega) ⟨_, by omega, by rw [Int.toNat_natCast]; exact bget_get (by omega), ?_⟩
    have hb := byte_lt s.data.toList[i]
    rw [take_succ_get hlt, chk_cons] at hq
    rw [u32_nat' (by omega), ixorU rfl (show r < 2 ^ IntKind.u32.bits from hr) (show s.data.toList[i].toNat < 2 ^ 32 by omega)]
    have hx : r ^^^ s.data.toList[i].toNat < 4294967296 := xor_lt (w := 32) hr (by omega)
    refine crc_Sum32.L7.c 8 0 _ (by omega) hx ?_
    rw [show ((i : Int) + 1) = ((i + 1 : Nat) : Int) by omega, i64_in _ (by omega)]
    exact ih (i + 1) _ (by omega) ((c32_lin.iter 8).lt _ hx) hq

theorem crc_Sum32.c {s : ByteArray} {h : Heap} {Q : Value → Heap → Prop} (hs : s.size ≤ 9223372036854775807) (hq : Q (.int .u32 (sum32 s.data.toList)) h) : C Try.prog 14 #[.string s] h Q := by
  apply crc_Sum32.ok
  exact crc_Sum32.L3.c hs s.size 0 4294967295 (by omega) (by omega) hq

/-! ### guarded words -/

def checkN (n : Nat) : Nat := 65535 - sum16 (putL n 6)
def guardN (n : Nat) : Nat := checkN (n % 281474976710656) * 281474976710656 + n % 281474976710656

theorem checkN_lt (n : Nat) : checkN n < 65536 := by unfold checkN; omega
theorem guardN_lt (n : Nat) : guardN n < 18446744073709551616 := by have := checkN_lt (n % 281474976710656); unfold guardN; omega
theorem guardN_mod (n : Nat) : guardN n % 281474976710656 = n % 281474976710656 := by unfold guardN; omega
theorem guardN_div (n : Nat) : guardN n / 281474976710656 = checkN (n % 281474976710656) := by unfold guardN; omega
theorem guardN_low (n : Nat) : guardN (n % 281474976710656) = guardN n := by unfold guardN; rw [Nat.mod_mod]

theorem xor_ones {a : Nat} (h : a < 65536) : a ^^^ 65535 = 65535 - a := by
  apply Nat.eq_of_testBit_eq
  intro i
  rw [Nat.testBit_xor, show 65535 - a = 2 ^ 16 - (a + 1) by omega, Nat.testBit_two_pow_sub_succ (by omega), show (65535 : Nat) = 2 ^ 16 - 1 by omega, Nat.testBit_two_pow_sub_one]
  by_cases hi : i < 16
  · simp [hi]
  · have : a.testBit i = false := Nat.testBit_lt_two_pow (Nat.lt_of_lt_of_le h (Nat.pow_le_pow_right (n := 2) (by omega) (by omega : 16 ≤ i)))
    simp [hi, this]

theorem put_size (n k : Nat) : (⟨(putL n k).toArray⟩ : ByteArray).size = k := by
  show (putL n k).toArray.size = k
  simp [putL_length]

theorem crc_check.c {n : Nat} {h : Heap} {Q : Value → Heap → Prop} (hn : n < 18446744073709551616) (hq : Q (.int .u64 (checkN n)) h) : C Try.prog 39 #[.int .u64 n] h Q := by
  apply crc_check.ok
  unfold crc_check.wp
  refine le_Put.c hn ⟨_, rfl, crc_Sum16.c ?_ ⟨_, rfl, ?_⟩⟩
  · rw [put_size]; decide
  · have hl := sum16_lt (putL n (cnt 6))
    rw [inotU (k := .u16) (m := 65535) rfl rfl (show 65535 < 2 ^ 16 by omega) (show sum16 (putL n (cnt 6)) < 2 ^ 16 from hl), xor_ones hl, u64_nat' (by omega)]
    exact hq

theorem field48 (n : Nat) : fieldV n 0 48 = n % 281474976710656 := by
  unfold fieldV
  rw [if_pos (by unfold mayP; omega)]
  unfold fieldN
  simp

theorem crc_Guard.c {n : Nat} {h : Heap} {Q : Value → Heap → Prop} (hn : n < 18446744073709551616) (hq : Q (.int .u64 (guardN n)) h) : C Try.prog 18 #[.int .u64 n] h Q := by
  apply crc_Guard.ok
  unfold crc_Guard.wp
  refine le_Field.c hn ⟨_, rfl, ?_⟩
  rw [field48]
  refine crc_check.c (by omega) ⟨_, rfl, ?_⟩
  have hc := checkN_lt (n % 281474976710656)
  rw [show (48 : Int) = ((48 : Nat) : Int) from rfl, ishl_u64 (by omega), ior_u64 (by omega) (by omega)]
  have e : checkN (n % 281474976710656) * 2 ^ 48 % 18446744073709551616 ||| n % 281474976710656 = guardN n := by
    rw [Nat.mod_eq_of_lt (by omega), Nat.mul_comm, ← Nat.two_pow_add_eq_or_of_lt (by omega)]
    unfold guardN; rw [Nat.mul_comm]
  rw [e]; exact hq

theorem crc_Guarded.c {w : Nat} {h : Heap} {Q : Value → Heap → Prop} (hw : w < 18446744073709551616) (hq : Q (.tuple #[.int .u64 (if guardN w = w then w % 281474976710656 else 0 : Nat), .bool (decide (guardN w = w))]) h) : C Try.prog 17 #[.int .u64 w] h Q := by
  apply crc_Guarded.ok
  unfold crc_Guarded.wp
  refine le_Field.c hw ⟨_, rfl, ?_⟩
  rw [field48]
  refine crc_Guard.c (by omega) ⟨_, rfl, ?_⟩
  rw [guardN_low]
  by_cases e : guardN w = w
  · rw [if_pos e, decide_eq_true e] at hq
    exact xsIf_f (by simp [e]) hq
  · rw [if_neg e, decide_eq_false e] at hq
    exact xsIf_t (by simp; omega) hq

theorem gabionlaw02_wakes.c {h : Heap} {Q : Value → Heap → Prop} (hq : Q (.bool true) h) : C Try.prog 11 #[] h Q := by
  apply gabionlaw02_wakes.ok
  unfold gabionlaw02_wakes.wp
  have h77 : guardN 77 % 281474976710656 = 77 := guardN_mod 77
  have g77 : guardN (guardN 77) = guardN 77 := by
    have := guardN_low (guardN 77)
    rw [h77] at this; exact this.symm
  have g0 : ¬ guardN 0 = 0 := by decide +kernel
  refine crc_Guard.c (n := 77) (by omega) ⟨_, rfl, ?_⟩
  refine crc_Guarded.c (guardN_lt 77) ⟨_, _, rfl, ?_⟩
  refine crc_Guarded.c (w := 0) (by omega) ⟨_, _, rfl, ?_⟩
  refine crc_Sum16.c (by decide) ⟨_, rfl, xsIf_t (by decide +kernel) ?_⟩
  refine crc_Sum32.c (by decide) ⟨_, rfl, xsIf_t (by decide +kernel) ?_⟩
  refine xsIf_t (by simp [g77]) (xsIf_t ?_ ?_)
  · rw [if_pos g77, h77]; rfl
  · rw [decide_eq_false g0]; exact hq

end Go.Gb
