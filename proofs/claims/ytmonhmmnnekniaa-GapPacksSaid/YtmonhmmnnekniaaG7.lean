/- Own text for the seat: G7. -/
import Derived.Test.YtmonhmmnnekniaaG1
import Derived.Test.YtmonhmmnnekniaaG3
set_option linter.unusedVariables false
set_option linter.unusedSimpArgs false
set_option linter.unnecessarySimpa false
set_option linter.deprecated false
namespace Go.Gb
open Go.Proofs IntWalk

/-! ## gap: packed states -/

theorem u64_w (x : Int) : IntKind.u64.wrap x = x % 18446744073709551616 := wrapU .u64 rfl x
theorem u32_w (x : Int) : IntKind.u32.wrap x = x % 4294967296 := wrapU .u32 rfl x
theorem u16_w (x : Int) : IntKind.u16.wrap x = x % 65536 := wrapU .u16 rfl x

theorem withN_low {w a n v : Nat} (h : a + n ≤ 64) (hw : w < 2 ^ a) : withN w a n v = w + 2 ^ a * (v % 2 ^ n) := by
  have hw64 : w < 18446744073709551616 := Nat.lt_of_lt_of_le hw (Nat.pow_le_pow_right (n := 2) (by omega) (by omega : a ≤ 64))
  apply Nat.eq_of_testBit_eq
  intro i
  rw [withN_test h hw64, Nat.add_comm w, Nat.testBit_two_pow_mul_add _ hw, Nat.testBit_mod_two_pow]
  by_cases h1 : i < a
  · rw [if_neg (by omega), if_pos h1]
  · rw [if_neg h1]
    by_cases h2 : i < a + n
    · rw [if_pos ⟨by omega, h2⟩]
      have : i - a < n := by omega
      simp [this]
    · rw [if_neg (by omega)]
      have h3 : ¬ (i - a < n) := by omega
      simp [h3]
      exact Nat.testBit_lt_two_pow (Nat.lt_of_lt_of_le hw (Nat.pow_le_pow_right (n := 2) (by omega) (by omega : a ≤ i)))

def pk (s0 s1 s2 : Int) : Int := s0 % 65536 + 65536 * (s1 % 65536) + 4294967296 * s2

theorem withV_at (w a n v : Nat) (a' n' : Int) (ha : a' = a) (hn : n' = n) (h1 : 1 ≤ n) (h : a + n ≤ 64) : withV w a' n' v = withN w a n v := by
  subst ha hn
  unfold withV
  rw [if_pos ⟨by omega, by omega, by omega, by omega⟩]; simp
theorem fieldV_at (w a n : Nat) (a' n' : Int) (ha : a' = a) (hn : n' = n) (h1 : 1 ≤ n) (h : a + n ≤ 64) : fieldV w a' n' = fieldN w a n := by
  subst ha hn
  unfold fieldV
  rw [if_pos ⟨by omega, by omega, by omega, by omega⟩]; simp

theorem gap_State_Pack.c {s0 s1 s2 : Int} {h : Heap} {Q : Value → Heap → Prop} (h2 : 0 ≤ s2) (h3 : s2 ≤ 4294967295) (hq : Q (.int .u64 (pk s0 s1 s2)) h) : C Try.prog 43 #[.agg #[.int .i64 s0, .int .i64 s1, .int .u32 s2]] h Q := by
  apply gap_State_Pack.ok
  unfold gap_State_Pack.wp
  rw [u64_w, u64_w, u64_w]
  have hb : ∀ x : Int, ∃ n : Nat, x % 18446744073709551616 = n ∧ n < 18446744073709551616 := fun x => ⟨(x % 18446744073709551616).toNat, by omega, by omega⟩
  obtain ⟨A, hA, hA'⟩ := hb s0
  obtain ⟨B, hB, hB'⟩ := hb s1
  obtain ⟨D, hD, hD'⟩ := hb s2
  rw [hA, hB, hD]
  refine le_With.c (w := 0) (by omega) hA' ⟨_, rfl, ?_⟩
  rw [withV_at 0 0 16 A 0 16 rfl rfl (by omega) (by omega), withN_low (by omega) (by omega)]
  refine le_With.c (by omega) hB' ⟨_, rfl, ?_⟩
  rw [withV_at _ 16 16 B 16 16 rfl rfl (by omega) (by omega), withN_low (by omega) (by omega)]
  refine le_With.c (by omega) hD' ⟨_, rfl, ?_⟩
  rw [withV_at _ 32 32 D 32 32 rfl rfl (by omega) (by omega), withN_low (by omega) (by omega)]
  have e : ((0 + 2 ^ 0 * (A % 2 ^ 16) + 2 ^ 16 * (B % 2 ^ 16) + 2 ^ 32 * (D % 2 ^ 32) : Nat) : Int) = pk s0 s1 s2 := by
    unfold pk; omega
  rw [e]; exact hq

theorem gabionref06_Pack.c {s0 s1 m : Int} {h : Heap} {Q : Value → Heap → Prop} (h2 : 0 ≤ m) (h3 : m ≤ 4294967295) (hq : Q (.int .u64 (pk s0 s1 m)) h) : C Try.prog 44 #[.int .i64 s0, .int .i64 s1, .int .u64 m] h Q := by
  apply gabionref06_Pack.ok
  unfold gabionref06_Pack.wp
  simp only [u64_w, u16_w]
  have e : ((m * 4294967296 % 18446744073709551616 + s1 % 65536 % 18446744073709551616 * 65536 % 18446744073709551616) % 18446744073709551616 + s0 % 65536 % 18446744073709551616) % 18446744073709551616 = pk s0 s1 m := by
    unfold pk; omega
  rw [e]; exact hq

theorem gap_Unpack.c {w : Nat} {h : Heap} {Q : Value → Heap → Prop} (hw : w < 18446744073709551616) (hq : Q (.agg #[.int .i64 (w % 65536 : Nat), .int .i64 (w / 65536 % 65536 : Nat), .int .u32 (w / 4294967296 : Nat)]) h) : C Try.prog 42 #[.int .u64 w] h Q := by
  apply gap_Unpack.ok
  unfold gap_Unpack.wp
  refine le_Field.c hw ⟨_, rfl, ?_⟩
  refine le_Field.c hw ⟨_, rfl, ?_⟩
  refine le_Field.c hw ⟨_, rfl, ?_⟩
  rw [fieldV_at w 0 16 0 16 rfl rfl (by omega) (by omega), fieldV_at w 16 16 16 16 rfl rfl (by omega) (by omega), fieldV_at w 32 32 32 32 rfl rfl (by omega) (by omega)]
  have e1 : fieldN w 0 16 = w % 65536 := by unfold fieldN; simp
  have e2 : fieldN w 16 16 = w / 65536 % 65536 := rfl
  have e3 : fieldN w 32 32 = w / 4294967296 := by unfold fieldN; exact Nat.mod_eq_of_lt (by omega)
  rw [e1, e2, e3, i64_in _ (by omega), i64_in _ (by omega), u32_in _ (by omega)]
  exact hq

theorem gabionlaw06_GapPacks.law (ns : List Int) (hl : ns.length = 3) (hx : ∀ x ∈ ns, IntKind.i64.min ≤ x ∧ x ≤ IntKind.i64.max) (w : Int) (hw : IntKind.u64.min ≤ w ∧ w ≤ IntKind.u64.max) (h : Heap) :
    C Try.prog 14 #[.agg (ns.map (Value.int .i64)).toArray, .int .u64 w] h fun v h' => v = .bool true ∧ Part h h' := by
  obtain ⟨w, rfl, hw'⟩ := nat_of rfl hw
  have hw' : w < 18446744073709551616 := hw'
  match ns, hl with
  | [x0, x1, x2], _ =>
  apply gabionlaw06_GapPacks.ok
  show gabionlaw06_GapPacks.wp x0 x1 x2 w h _
  unfold gabionlaw06_GapPacks.wp
  refine gabionlaw06_tame.c (hx x1 (by simp)).2 (hx x2 (by simp)).2 fun n a b c hn hn' ha ha' hb hb' hc hc' hcw => ⟨_, _, _, _, rfl, ?_⟩
  refine gap_Unpack.c hw' ⟨_, _, _, rfl, ?_⟩
  refine gabionlaw06_wakes.c ⟨_, rfl, xsIf_f rfl (xsIf_f (by simp; omega) ?_)⟩
  refine gap_State_Pack.c hc hc' ⟨_, rfl, ?_⟩
  rw [u64_w, Int.emod_eq_of_lt hc (by omega)]
  refine gabionref06_Pack.c hc hc' ⟨_, rfl, xsIf_f (by simp) ?_⟩
  refine gap_State_Pack.c hc hc' ⟨_, rfl, ?_⟩
  obtain ⟨p, hp⟩ : ∃ p : Nat, pk a b c = p := ⟨(pk a b c).toNat, by unfold pk; omega⟩
  rw [hp]
  unfold pk at hp
  refine gap_Unpack.c (by omega) ⟨_, _, _, rfl, ?_⟩
  refine xsIf_f ?_ ?_
  · simp; omega
  refine gap_State_Pack.c (by omega) (by omega) ⟨_, rfl, xsIf_f ?_ ?_⟩
  · simp; unfold pk; omega
  apply gabionlaw06_GapPacks.J5.ok
  unfold gabionlaw06_GapPacks.J5.wp
  have hr : 0 ≤ IntKind.u32.wrap x2 ∧ IntKind.u32.wrap x2 ≤ 4294967295 := by rw [u32_w]; omega
  refine gap_State_Pack.c hr.1 hr.2 ⟨_, rfl, ?_⟩
  rw [u64_w (IntKind.u32.wrap x2), Int.emod_eq_of_lt hr.1 (by omega)]
  refine gabionref06_Pack.c hr.1 hr.2 ⟨_, rfl, xsIf_t (by simp) ?_⟩
  rw [show (65536 : Int) = ((65536 : Nat) : Int) from rfl, irem_nat, iquo_u64 _ hw', irem_nat, i64_in _ (by omega), i64_in _ (by omega)]
  exact xsIf_t (by simp) ⟨by simp, Part.refl _⟩

end Go.Gb
