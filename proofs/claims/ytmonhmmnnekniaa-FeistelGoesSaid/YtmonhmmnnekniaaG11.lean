/- Own text for the seat: G11. -/
import Derived.Test.YtmonhmmnnekniaaG10
set_option linter.unusedVariables false
set_option linter.unusedSimpArgs false
set_option linter.unnecessarySimpa false
set_option linter.deprecated false
namespace Go.Gb
open Go.Proofs IntWalk

/-! ## feistel.New -/

theorem halfN_at {m : Nat} : (halfN m = 1 ∧ m ≤ 4) ∨ (halfN m = 2 ∧ 4 < m ∧ m ≤ 16) ∨ (halfN m = 3 ∧ 16 < m ∧ m ≤ 64) ∨ (halfN m = 4 ∧ 64 < m ∧ m ≤ 256) ∨ (halfN m = 5 ∧ 256 < m ∧ m ≤ 1024) ∨ (halfN m = 6 ∧ 1024 < m ∧ m ≤ 4096) ∨ (halfN m = 7 ∧ 4096 < m) := by
  unfold halfN
  (repeat' split) <;> omega

theorem half_step {m x : Nat} (hm : m ≤ 8192) (h1 : 1 ≤ x) (h2 : x ≤ halfN m) : (2 ^ (2 * x) < m ↔ x < halfN m) := by
  have hv := halfN_at (m := m)
  have hx : (x = 1 ∧ 2 ^ (2 * x) = 4) ∨ (x = 2 ∧ 2 ^ (2 * x) = 16) ∨ (x = 3 ∧ 2 ^ (2 * x) = 64) ∨ (x = 4 ∧ 2 ^ (2 * x) = 256) ∨ (x = 5 ∧ 2 ^ (2 * x) = 1024) ∨ (x = 6 ∧ 2 ^ (2 * x) = 4096) ∨ (x = 7 ∧ 2 ^ (2 * x) = 16384) := by
    have : x = 1 ∨ x = 2 ∨ x = 3 ∨ x = 4 ∨ x = 5 ∨ x = 6 ∨ x = 7 := by omega
    rcases this with rfl | rfl | rfl | rfl | rfl | rfl | rfl <;> simp
  generalize 2 ^ (2 * x) = z at hx ⊢
  generalize halfN m = w at *
  omega

theorem keyN_lt (key j : Nat) : keyN key j < 65536 := Nat.mod_lt _ (by omega)

theorem key_field {key j : Nat} (hj : j < 4) : IntKind.u16.wrap ((fieldV key ((16 * j : Nat) : Int) 16 : Nat) : Int) = (keyN key j : Nat) := by
  have e : fieldV key ((16 * j : Nat) : Int) 16 = keyN key j := by
    unfold fieldV
    rw [if_pos ⟨by omega, by omega, by omega, by omega⟩]
    simp only [Int.toNat_natCast]
    rfl
  rw [e, u16_nat' (keyN_lt key j)]

theorem new_key {key j : Nat} {p : List Value} {t0 t1 t2 t3 t4 t5 : Int} {h : Heap} {Q : Value → Heap → Prop} (hk : key < 18446744073709551616) (hj : j < 4) (hl : p.length = 6)
    (hq : feistel_New.L7 key ((j + 1 : Nat) : Int) t0 t1 t2 t3 t4 t5 (lput p (2 + j) [.int .u16 (keyN key j : Nat)]) h Q) : feistel_New.L7 key (j : Int) t0 t1 t2 t3 t4 t5 p h Q := by
  apply feistel_New.L7.ok
  unfold feistel_New.L7.wp
  refine xsIf_t (by simp; omega) ?_
  rw [show (16 : Int) * (j : Int) = ((16 * j : Nat) : Int) by omega, i64_in _ (by omega)]
  refine le_Field.c hk ⟨_, rfl, by omega, by omega, ?_⟩
  rw [key_field hj, Int.toNat_natCast, Nat.mul_one, i64_in _ (by omega)]
  exact hq

def newV (m key : Nat) : Value := permV m (halfN m) (keyN key 0) (keyN key 1) (keyN key 2) (keyN key 3)
theorem new_perm {m : Nat} (key : Nat) (hm : m ≤ 8192) : Perm m (halfN m) (keyN key 0) (keyN key 1) (keyN key 2) (keyN key 3) :=
  ⟨(halfN_le hm).2.1, (halfN_le hm).2.2, keyN_lt key 0, keyN_lt key 1, keyN_lt key 2, keyN_lt key 3⟩

theorem feistel_New.L4.c {m key : Nat} {t0 t1 t2 t3 t4 t5 : Int} {h : Heap} {Q : Value → Heap → Prop} (hm : m ≤ 8192) (hk : key < 18446744073709551616) (hq : Q (.tuple #[newV m key, .int .i64 0]) h) :
    ∀ (j x : Nat), 1 ≤ x → x + j = halfN m → feistel_New.L4 m key t0 t1 t2 t3 t4 t5 (permL m x 0 0 0 0) h Q := by
  have h7 := (halfN_le hm).2.1
  intro j
  induction j with
  | zero =>
    intro x h1 hx
    have hs := half_step hm h1 (by omega)
    apply feistel_New.L4.ok
    refine ⟨x, rfl, ?_⟩
    rw [show (2 : Int) * (x : Int) = ((2 * x : Nat) : Int) by omega, i64_in _ (by omega)]
    have hp : 2 ^ (2 * x) ≤ 2 ^ 14 := Nat.pow_le_pow_right (by omega) (by omega)
    rw [show (1 : Int) = ((1 : Nat) : Int) from rfl, ishl_i64 (by omega) (by omega), Nat.one_mul]
    refine ⟨by omega, xsIf_f (by simp only [decide_eq_false_iff_not]; omega) ?_⟩
    apply feistel_New.J6.ok
    have hxh : x = halfN m := by omega
    subst hxh
    refine new_key (j := 0) hk (by omega) rfl ?_
    refine new_key (j := 1) hk (by omega) rfl ?_
    refine new_key (j := 2) hk (by omega) rfl ?_
    refine new_key (j := 3) hk (by omega) rfl ?_
    apply feistel_New.L7.ok
    refine xsIf_f (by simp) ⟨Nat.le_refl 6, _, rfl, _, rfl, _, rfl, _, rfl, _, rfl, _, rfl, hq⟩
  | succ j ih =>
    intro x h1 hx
    have hs := half_step hm h1 (by omega)
    apply feistel_New.L4.ok
    refine ⟨x, rfl, ?_⟩
    rw [show (2 : Int) * (x : Int) = ((2 * x : Nat) : Int) by omega, i64_in _ (by omega)]
    have hp : 2 ^ (2 * x) ≤ 2 ^ 14 := Nat.pow_le_pow_right (by omega) (by omega)
    rw [show (1 : Int) = ((1 : Nat) : Int) from rfl, ishl_i64 (by omega) (by omega), Nat.one_mul]
    refine ⟨by omega, xsIf_t (by simp only [decide_eq_true_eq]; omega) ⟨x, rfl, (by show 2 ≤ 6; omega), ?_⟩⟩
    rw [i64_in _ (by omega)]
    exact ih (x + 1) (by omega) (by omega)

theorem feistel_New.c {m key : Nat} {h : Heap} {Q : Value → Heap → Prop} (h1 : 1 ≤ m) (hm : m ≤ 8192) (hk : key < 18446744073709551616) (hq : Q (.tuple #[newV m key, .int .i64 0]) h) : C Try.prog 36 #[.int .i64 m, .int .u64 key] h Q := by
  apply feistel_New.ok
  unfold feistel_New.wp
  refine xsIf_f (by simp; omega) (xsIf_f (by simp; omega) ?_)
  apply feistel_New.J3.ok
  refine ⟨Nat.le_refl 6, ?_⟩
  exact feistel_New.L4.c hm hk hq (halfN m - 1) 1 (Nat.le_refl 1) (by have := (halfN_le hm).1; omega)

theorem feistel_New.out {m : Int} {key : Nat} {h : Heap} {Q : Value → Heap → Prop} (h1 : m < 1 ∨ 8192 < m) (hq : Q (.tuple #[permV 0 0 0 0 0 0, .int .i64 2]) h) : C Try.prog 36 #[.int .i64 m, .int .u64 key] h Q := by
  apply feistel_New.ok
  unfold feistel_New.wp
  exact xsIf_intro (fun _ => hq) (fun h2 => xsIf_t (by simp at h2 ⊢; omega) hq)

end Go.Gb
