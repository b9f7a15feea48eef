/- Own text for the seat: GbInt. -/
import Derived.Test.YtbphidfhcijbhaaGbStep
import Derived.IntWalk
import Derived.Laws.Bits64
set_option linter.unusedVariables false
set_option linter.unusedSimpArgs false
set_option linter.unnecessarySimpa false
set_option linter.deprecated false
namespace Go.Gb
open IntWalk

/-! Numbers: unsigned ones as naturals. -/

theorem xsIf_t {b : Bool} {x y : Prop} (hb : b = true) (hx : x) : xsIf b x y := xsIf_intro (fun _ => hx) fun h => by simp [hb] at h
theorem xsIf_f {b : Bool} {x y : Prop} (hb : b = false) (hy : y) : xsIf b x y := xsIf_intro (fun h => by simp [hb] at h) fun _ => hy

theorem imax_eq (x y : Int) : imax x y = max x y := by unfold imax; split <;> omega
theorem imin_eq (x y : Int) : imin x y = min x y := by unfold imin; split <;> omega

theorem wrapU (k : IntKind) (hk : k.signed = false) (x : Int) : k.wrap x = x % (2 ^ k.bits : Nat) := by
  unfold IntKind.wrap
  simp [hk]
theorem u64_nat (x : Nat) : IntKind.u64.wrap (x : Int) = ((x % 18446744073709551616 : Nat) : Int) := wrapU .u64 rfl _
theorem u32_nat (x : Nat) : IntKind.u32.wrap (x : Int) = ((x % 4294967296 : Nat) : Int) := wrapU .u32 rfl _
theorem u16_nat (x : Nat) : IntKind.u16.wrap (x : Int) = ((x % 65536 : Nat) : Int) := wrapU .u16 rfl _
theorem u8_nat (x : Nat) : IntKind.u8.wrap (x : Int) = ((x % 256 : Nat) : Int) := wrapU .u8 rfl _
theorem u64_nat' {x : Nat} (h : x < 18446744073709551616) : IntKind.u64.wrap (x : Int) = (x : Int) := by rw [u64_nat, Nat.mod_eq_of_lt h]
theorem u32_nat' {x : Nat} (h : x < 4294967296) : IntKind.u32.wrap (x : Int) = (x : Int) := by rw [u32_nat, Nat.mod_eq_of_lt h]
theorem u16_nat' {x : Nat} (h : x < 65536) : IntKind.u16.wrap (x : Int) = (x : Int) := by rw [u16_nat, Nat.mod_eq_of_lt h]
theorem u8_nat' {x : Nat} (h : x < 256) : IntKind.u8.wrap (x : Int) = (x : Int) := by rw [u8_nat, Nat.mod_eq_of_lt h]

theorem irem_nat (a b : Nat) : irem (a : Int) (b : Int) = ((a % b : Nat) : Int) := by
  unfold irem; rw [Int.tmod_eq_emod_of_nonneg (by omega)]; rfl
theorem irem_pos {a b : Int} (h : 0 ≤ a) : irem a b = a % b := by unfold irem; rw [Int.tmod_eq_emod_of_nonneg h]

theorem iquo_u64 {a : Nat} (b : Nat) (h : a < 18446744073709551616) : iquo .u64 (a : Int) (b : Int) = ((a / b : Nat) : Int) := by
  unfold iquo
  rw [Int.tdiv_eq_ediv_of_nonneg (by omega)]
  have : (a : Int) / (b : Int) = ((a / b : Nat) : Int) := rfl
  rw [this, u64_nat']
  exact Nat.lt_of_le_of_lt (Nat.div_le_self a b) h
theorem iquo_i64 {a b : Int} (h0 : 0 ≤ a) (h1 : a ≤ 9223372036854775807) (h2 : 1 ≤ b) : iquo .i64 a b = a / b := by
  unfold iquo; exact i64_quo a b ⟨h0, h1, h2⟩

theorem cast_pow (b n : Nat) : (((b ^ n : Nat)) : Int) = (b : Int) ^ n := by simp

theorem ishr_nat (k : IntKind) (a s : Nat) : ishr k (a : Int) (s : Int) = ((a / 2 ^ (Nat.min s k.bits) : Nat) : Int) := by
  unfold ishr
  rw [Int.toNat_natCast, Int.fdiv_eq_ediv_of_nonneg _ (by rw [show (2 : Int) = ((2 : Nat) : Int) from rfl, ← cast_pow]; exact Int.natCast_nonneg _)]
  rw [show (2 : Int) = ((2 : Nat) : Int) from rfl, ← cast_pow]
  rfl
theorem ishr_u64 {a s : Nat} (h : s ≤ 64) : ishr .u64 (a : Int) (s : Int) = ((a / 2 ^ s : Nat) : Int) := by
  rw [ishr_nat]; congr 3; exact Nat.min_eq_left h

theorem ishl_nat (k : IntKind) (a s : Nat) : ishl k (a : Int) (s : Int) = k.wrap ((a * 2 ^ (Nat.min s k.bits) : Nat) : Int) := by
  unfold ishl
  rw [Int.toNat_natCast, show (2 : Int) = ((2 : Nat) : Int) from rfl, ← cast_pow, ← Int.natCast_mul]
theorem ishl_u64 {a s : Nat} (h : s ≤ 64) : ishl .u64 (a : Int) (s : Int) = ((a * 2 ^ s % 18446744073709551616 : Nat) : Int) := by
  rw [ishl_nat, show Nat.min s IntKind.u64.bits = s from Nat.min_eq_left h, u64_nat]

theorem bv_nat (n a : Nat) : (BitVec.ofInt n (a : Int)).toNat = a % 2 ^ n := by
  simp [BitVec.toNat_ofInt]

theorem iand_u64 {a b : Nat} (ha : a < 18446744073709551616) (hb : b < 18446744073709551616) : iand .u64 (a : Int) (b : Int) = ((a &&& b : Nat) : Int) := by
  unfold iand
  rw [BitVec.toNat_and, bv_nat, bv_nat]
  show IntKind.u64.wrap ((a % 18446744073709551616 &&& b % 18446744073709551616 : Nat) : Int) = _
  rw [Nat.mod_eq_of_lt ha, Nat.mod_eq_of_lt hb, u64_nat' (Nat.lt_of_le_of_lt Nat.and_le_left ha)]
theorem ior_u64 {a b : Nat} (ha : a < 18446744073709551616) (hb : b < 18446744073709551616) : ior .u64 (a : Int) (b : Int) = ((a ||| b : Nat) : Int) := by
  unfold ior
  rw [BitVec.toNat_or, bv_nat, bv_nat]
  show IntKind.u64.wrap ((a % 18446744073709551616 ||| b % 18446744073709551616 : Nat) : Int) = _
  rw [Nat.mod_eq_of_lt ha, Nat.mod_eq_of_lt hb, u64_nat' (Nat.or_lt_two_pow (n := 64) ha hb)]
theorem ixor_u64 {a b : Nat} (ha : a < 18446744073709551616) (hb : b < 18446744073709551616) : ixor .u64 (a : Int) (b : Int) = ((a ^^^ b : Nat) : Int) := by
  unfold ixor
  rw [BitVec.toNat_xor, bv_nat, bv_nat]
  show IntKind.u64.wrap ((a % 18446744073709551616 ^^^ b % 18446744073709551616 : Nat) : Int) = _
  rw [Nat.mod_eq_of_lt ha, Nat.mod_eq_of_lt hb, u64_nat' (Nat.xor_lt_two_pow (n := 64) ha hb)]
theorem iandNot_u64 {a b : Nat} (ha : a < 18446744073709551616) (hb : b < 18446744073709551616) : iandNot .u64 (a : Int) (b : Int) = ((a &&& (18446744073709551615 - b) : Nat) : Int) := by
  unfold iandNot
  rw [BitVec.toNat_and, BitVec.toNat_not, bv_nat, bv_nat]
  show IntKind.u64.wrap ((a % 18446744073709551616 &&& (18446744073709551616 - 1 - b % 18446744073709551616) : Nat) : Int) = _
  rw [Nat.mod_eq_of_lt ha, Nat.mod_eq_of_lt hb, u64_nat' (Nat.lt_of_le_of_lt Nat.and_le_left ha)]

theorem iand_i64 {a b : Nat} (ha : a < 9223372036854775808) (hb : b < 9223372036854775808) : iand .i64 (a : Int) (b : Int) = ((a &&& b : Nat) : Int) := by
  unfold iand
  rw [BitVec.toNat_and, bv_nat, bv_nat]
  show IntKind.i64.wrap ((a % 18446744073709551616 &&& b % 18446744073709551616 : Nat) : Int) = _
  have : a &&& b ≤ a := Nat.and_le_left
  rw [Nat.mod_eq_of_lt (by omega), Nat.mod_eq_of_lt (by omega), i64_in _ (by omega)]
theorem ior_i64 {a b : Nat} (ha : a < 9223372036854775808) (hb : b < 9223372036854775808) : ior .i64 (a : Int) (b : Int) = ((a ||| b : Nat) : Int) := by
  unfold ior
  rw [BitVec.toNat_or, bv_nat, bv_nat]
  show IntKind.i64.wrap ((a % 18446744073709551616 ||| b % 18446744073709551616 : Nat) : Int) = _
  have : a ||| b < 2 ^ 63 := Nat.or_lt_two_pow (n := 63) ha hb
  rw [Nat.mod_eq_of_lt (by omega), Nat.mod_eq_of_lt (by omega), i64_in _ (by omega)]
theorem ixor_i64 {a b : Nat} (ha : a < 9223372036854775808) (hb : b < 9223372036854775808) : ixor .i64 (a : Int) (b : Int) = ((a ^^^ b : Nat) : Int) := by
  unfold ixor
  rw [BitVec.toNat_xor, bv_nat, bv_nat]
  show IntKind.i64.wrap ((a % 18446744073709551616 ^^^ b % 18446744073709551616 : Nat) : Int) = _
  have : a ^^^ b < 2 ^ 63 := Nat.xor_lt_two_pow (n := 63) ha hb
  rw [Nat.mod_eq_of_lt (by omega), Nat.mod_eq_of_lt (by omega), i64_in _ (by omega)]
theorem ixor_u16 {a b : Nat} (ha : a < 65536) (hb : b < 65536) : ixor .u16 (a : Int) (b : Int) = ((a ^^^ b : Nat) : Int) := by
  unfold ixor
  rw [BitVec.toNat_xor, bv_nat, bv_nat]
  show IntKind.u16.wrap ((a % 65536 ^^^ b % 65536 : Nat) : Int) = _
  rw [Nat.mod_eq_of_lt ha, Nat.mod_eq_of_lt hb, u16_nat' (Nat.xor_lt_two_pow (n := 16) ha hb)]
theorem ishr_i64 {a s : Nat} (h : s ≤ 64) : ishr .i64 (a : Int) (s : Int) = ((a / 2 ^ s : Nat) : Int) := by
  rw [ishr_nat]; congr 3; exact Nat.min_eq_left h
theorem ishr_u16 {a s : Nat} (h : s ≤ 16) : ishr .u16 (a : Int) (s : Int) = ((a / 2 ^ s : Nat) : Int) := by
  rw [ishr_nat]; congr 3; exact Nat.min_eq_left h
theorem ishl_i64 {a s : Nat} (h : s ≤ 64) (hb : a * 2 ^ s < 9223372036854775808) : ishl .i64 (a : Int) (s : Int) = ((a * 2 ^ s : Nat) : Int) := by
  rw [ishl_nat, show Nat.min s IntKind.i64.bits = s from Nat.min_eq_left h, i64_in _ (by omega)]

/-- A number of an unsigned kind is a natural one. -/
theorem nat_of {k : IntKind} {a : Int} (hk : k.min = 0) (h : k.min ≤ a ∧ a ≤ k.max) : ∃ n : Nat, a = (n : Int) ∧ n < k.max.toNat + 1 := by
  refine ⟨a.toNat, by omega, by omega⟩

end Go.Gb
