/- Own text for the seat: G14. -/
import Derived.Test.YtmonhmmnnekniaaG12
set_option linter.unusedVariables false
set_option linter.unusedSimpArgs false
set_option linter.unnecessarySimpa false
set_option linter.deprecated false
namespace Go.Gb
open Go.Proofs IntWalk

/-! ## feistel, by definition -/

theorem gabionref08_power.c {n : Nat} {h : Heap} {Q : Value → Heap → Prop} (hn : n ≤ 7) (hq : Q (.int .i64 (2 ^ n : Nat)) h) : C Try.prog 56 #[.int .i64 n] h Q := by
  apply gabionref08_power.ok
  unfold gabionref08_power.wp
  have loop : ∀ j i : Nat, i + j = n → gabionref08_power.L3 n (2 ^ i : Nat) i h Q := by
    intro j
    induction j with
    | zero =>
      intro i hi
      apply gabionref08_power.L3.ok
      refine xsIf_f (by simp; omega) ?_
      have : i = n := by omega
      rw [this]; exact hq
    | succ j ih =>
      intro i hi
      apply gabionref08_power.L3.ok
      refine xsIf_t (by simp; omega) ?_
      have hp : 2 ^ i ≤ 2 ^ 7 := Nat.pow_le_pow_right (by omega) (by omega)
      have := ih (i + 1) (by omega)
      rw [Nat.pow_succ] at this
      generalize 2 ^ i = z at hp this ⊢
      rw [i64_in _ (by omega), i64_in _ (by omega), show (2 : Int) * (z : Int) = ((z * 2 : Nat) : Int) by omega]
      exact this
  exact loop n 0 (by omega)

theorem xor_step (a b : Nat) : (a ^^^ b) = 2 * (a / 2 ^^^ b / 2) + (if a % 2 = b % 2 then 0 else 1) := by
  apply Nat.eq_of_testBit_eq
  intro i
  cases i with
  | zero =>
    rw [Nat.testBit_xor]
    simp only [Nat.testBit_zero]
    rcases Nat.mod_two_eq_zero_or_one a with h1 | h1 <;> rcases Nat.mod_two_eq_zero_or_one b with h2 | h2 <;> simp [h1, h2]
  | succ i =>
    rw [Nat.testBit_xor, Nat.testBit_succ, Nat.testBit_succ, Nat.testBit_succ]
    have : (2 * (a / 2 ^^^ b / 2) + (if a % 2 = b % 2 then 0 else 1)) / 2 = a / 2 ^^^ b / 2 := by split <;> omega
    rw [this, Nat.testBit_xor]

theorem gabionref08_xor.c {a b : Nat} {h : Heap} {Q : Value → Heap → Prop} (ha : a < 65536) (hb : b < 65536) (hq : Q (.int .i64 (a ^^^ b : Nat)) h) : C Try.prog 58 #[.int .i64 a, .int .i64 b] h Q := by
  apply gabionref08_xor.ok
  unfold gabionref08_xor.wp
  have fin : ∀ n m : Nat, n + m * (0 ^^^ 0) = (a ^^^ b) → Q (.int .i64 n) h := fun n m e => by
    rw [Nat.xor_self, Nat.mul_zero, Nat.add_zero] at e
    rw [e]; exact hq
  have loop : ∀ (j a' b' n m : Nat), a' < 2 ^ j → b' < 2 ^ j → j ≤ 16 → m ≤ 65536 → m * 2 ^ j ≤ 65536 → n < m → n + m * (a' ^^^ b') = (a ^^^ b) → gabionref08_xor.L3 a' b' n m h Q := by
    intro j
    induction j with
    | zero =>
      intro a' b' n m h1 h2 _ _ hm hn he
      apply gabionref08_xor.L3.ok
      have e1 : a' = 0 := by omega
      have e2 : b' = 0 := by omega
      subst e1; subst e2
      exact xsIf_f (by simp) (xsIf_f (by simp) (fin n m he))
    | succ j ih =>
      intro a' b' n m h1 h2 hj16 hm1 hm hn he
      have hle : 2 ^ (j + 1) ≤ 2 ^ 16 := Nat.pow_le_pow_right (by omega) hj16
      rw [Nat.pow_succ] at h1 h2 hm hle
      have hm' : m * 2 * 2 ^ j ≤ 65536 := by rw [Nat.mul_assoc, Nat.mul_comm 2]; exact hm
      have hj := Nat.two_pow_pos j
      have hmm : m * 2 ≤ 65536 := Nat.le_trans (Nat.le_mul_of_pos_right _ hj) hm'
      have step : gabionref08_xor.J4 a' b' n m h Q := by
        apply gabionref08_xor.J4.ok
        unfold gabionref08_xor.J4.wp
        have hx := xor_step a' b'
        generalize hz : 2 ^ j = z at h1 h2 hm hle hm' hj
        have ea : iquo .i64 (a' : Int) 2 = ((a' / 2 : Nat) : Int) := by rw [iquo_i64 (by omega) (by omega) (by omega)]; rfl
        have eb : iquo .i64 (b' : Int) 2 = ((b' / 2 : Nat) : Int) := by rw [iquo_i64 (by omega) (by omega) (by omega)]; rfl
        have ra : irem (a' : Int) 2 = ((a' % 2 : Nat) : Int) := irem_nat a' 2
        have rb : irem (b' : Int) 2 = ((b' % 2 : Nat) : Int) := irem_nat b' 2
        rw [ea, eb, ra, rb, i64_in ((n : Int) + m) (by omega), i64_in (2 * (m : Int)) (by omega), show (n : Int) + m = ((n + m : Nat) : Int) by omega, show 2 * (m : Int) = ((2 * m : Nat) : Int) by omega]
        refine xsIf_intro (fun h3 => ?_) (fun h3 => ?_)
        · simp at h3
          refine ih (a' / 2) (b' / 2) (n + m) (2 * m) (by omega) (by omega) (by omega) (by omega) (by rw [hz, Nat.mul_comm 2]; exact hm') (by omega) ?_
          rw [← he, hx, if_neg (by omega)]
          generalize (a' / 2 ^^^ b' / 2) = w
          rw [Nat.mul_add, Nat.mul_one, Nat.mul_comm 2 m, Nat.mul_assoc]
          omega
        · simp at h3
          refine ih (a' / 2) (b' / 2) n (2 * m) (by omega) (by omega) (by omega) (by omega) (by rw [hz, Nat.mul_comm 2]; exact hm') (by omega) ?_
          rw [← he, hx, if_pos (by omega)]
          generalize (a' / 2 ^^^ b' / 2) = w
          rw [Nat.add_zero, Nat.mul_comm 2 m, Nat.mul_assoc]
      apply gabionref08_xor.L3.ok
      refine xsIf_intro (fun _ => step) (fun h3 => xsIf_intro (fun _ => step) (fun h4 => ?_))
      simp at h3 h4
      subst h3; subst h4
      exact fin n m he
  have := loop 16 a b 0 1 ha hb (by omega) (by omega) (by omega) (by omega) (by omega)
  exact this

theorem gabionref08_mix.c {x k hh : Nat} {h : Heap} {Q : Value → Heap → Prop} (h7 : hh ≤ 7) (hx : x < 2 ^ hh) (hk : k < 65536) (hq : Q (.int .i64 (mixN hh x k)) h) : C Try.prog 57 #[.int .i64 x, .int .i64 k, .int .i64 hh] h Q := by
  apply gabionref08_mix.ok
  unfold gabionref08_mix.wp
  have hp := pow_le7 h7
  have ey : irem (IntKind.i64.wrap (IntKind.i64.wrap (IntKind.i64.wrap ((x : Int) * 40503) + IntKind.i64.wrap ((k : Int) * 52711)) + 12289)) 65536 = ((yN x k : Nat) : Int) := by
    rw [i64_in ((x : Int) * 40503) (by omega), i64_in ((k : Int) * 52711) (by omega), i64_in ((x : Int) * 40503 + (k : Int) * 52711) (by omega), i64_in _ (by omega)]
    have e : (x : Int) * 40503 + (k : Int) * 52711 + 12289 = ((x * 40503 + k * 52711 + 12289 : Nat) : Int) := by omega
    rw [e]
    exact irem_nat _ 65536
  have hy : yN x k < 65536 := Nat.mod_lt _ (by omega)
  have ed : iquo .i64 ((yN x k : Nat) : Int) 128 = ((yN x k / 128 : Nat) : Int) := by rw [iquo_i64 (by omega) (by omega) (by omega)]; rfl
  rw [ey, ed]
  refine gabionref08_xor.c hy (by omega) ⟨_, rfl, ?_⟩
  refine gabionref08_power.c h7 ⟨_, rfl, by omega, ?_⟩
  rw [irem_nat]
  exact hq

theorem gabionref08_Half.c {m : Nat} {h : Heap} {Q : Value → Heap → Prop} (hm : m ≤ 8192) (hq : Q (.int .i64 (halfN m : Nat)) h) : C Try.prog 52 #[.int .i64 m] h Q := by
  apply gabionref08_Half.ok
  unfold gabionref08_Half.wp
  have h7 := halfN_le hm
  have loop : ∀ (j x : Nat), 1 ≤ x → x + j = halfN m → gabionref08_Half.L3 m x (2 ^ (2 * x) : Nat) h Q := by
    intro j
    induction j with
    | zero =>
      intro x h1 hx
      have hs := half_step hm h1 (by omega)
      apply gabionref08_Half.L3.ok
      generalize 2 ^ (2 * x) = z at hs
      refine xsIf_f (by simp; omega) ?_
      rw [show x = halfN m by omega]; exact hq
    | succ j ih =>
      intro x h1 hx
      have hs := half_step hm h1 (by omega)
      have := ih (x + 1) (by omega) (by omega)
      have hp : 2 ^ (2 * x) ≤ 2 ^ 14 := Nat.pow_le_pow_right (by omega) (by omega)
      rw [show 2 * (x + 1) = 2 * x + 2 by omega, Nat.pow_add] at this
      apply gabionref08_Half.L3.ok
      unfold gabionref08_Half.L3.wp
      generalize 2 ^ (2 * x) = z at hs hp this ⊢
      refine xsIf_t (by simp; omega) ?_
      rw [i64_in _ (by omega), i64_in _ (by omega), show (4 : Int) * (z : Int) = ((z * 2 ^ 2 : Nat) : Int) by omega]
      exact this
  exact loop (halfN m - 1) 1 (by omega) (by omega)

theorem ref_step {hh key l r k : Nat} {j : Nat} {h : Heap} {Q : Value → Heap → Prop} (h7 : hh ≤ 7) (hl : l < 2 ^ hh) (hr : r < 2 ^ hh) (hkey : key < 18446744073709551616) (hk : key % 65536 = k) (hj : j < 4)
    (hq : gabionref08_turn.L5 hh (key / 65536 : Nat) (2 ^ hh : Nat) (rnd hh k (l, r)).1 (rnd hh k (l, r)).2 ((j + 1 : Nat) : Int) h Q) : gabionref08_turn.L5 hh key (2 ^ hh : Nat) l r (j : Int) h Q := by
  apply gabionref08_turn.L5.ok
  unfold gabionref08_turn.L5.wp
  have hp := pow_le7 h7
  have er : irem (key : Int) 65536 = ((key % 65536 : Nat) : Int) := irem_nat key 65536
  have eq : iquo .u64 (key : Int) 65536 = ((key / 65536 : Nat) : Int) := iquo_u64 65536 hkey
  rw [er, eq, hk, i64_in (k : Int) (by omega), i64_in ((j : Int) + 1) (by omega)]
  refine xsIf_t (by simp; omega) ?_
  refine gabionref08_mix.c h7 hr (by omega) ⟨_, rfl, ?_⟩
  have := mixN_lt hh r k
  exact gabionref08_xor.c (by omega) (by omega) ⟨_, rfl, hq⟩

theorem gabionref08_turn.c {n hh key : Nat} {h : Heap} {Q : Value → Heap → Prop} (h7 : hh ≤ 7) (hkey : key < 18446744073709551616) (hn : n < 2 ^ hh * 2 ^ hh)
    (hq : Q (.int .i64 (turnN hh (keyN key 0) (keyN key 1) (keyN key 2) (keyN key 3) n)) h) : C Try.prog 53 #[.int .i64 n, .int .i64 hh, .int .u64 key] h Q := by
  apply gabionref08_turn.ok
  unfold gabionref08_turn.wp
  have hp := pow_le7 h7
  have hpp : 2 ^ hh * 2 ^ hh ≤ 128 * 128 := Nat.mul_le_mul hp.1 hp.1
  refine gabionref08_power.c h7 ⟨_, rfl, by omega, by omega, ?_⟩
  have e1 : iquo .i64 (n : Int) ((2 ^ hh : Nat) : Int) = ((n / 2 ^ hh : Nat) : Int) := by rw [iquo_i64 (by omega) (by omega) (by omega)]; rfl
  rw [e1, irem_nat]
  have i0 : InP hh (dec hh n) := dec_in hn
  have i1 := rnd_in (k := keyN key 0) i0
  have i2 := rnd_in (k := keyN key 1) i1
  have i3 := rnd_in (k := keyN key 2) i2
  have i4 := rnd_in (k := keyN key 3) i3
  have k0 : key % 65536 = keyN key 0 := by unfold keyN; simp
  have k1 : key / 65536 % 65536 = keyN key 1 := rfl
  have k2 : key / 65536 / 65536 % 65536 = keyN key 2 := by unfold keyN; rw [Nat.div_div_eq_div_mul]
  have k3 : key / 65536 / 65536 / 65536 % 65536 = keyN key 3 := by unfold keyN; rw [Nat.div_div_eq_div_mul, Nat.div_div_eq_div_mul]
  refine ref_step (j := 0) h7 i0.1 i0.2 hkey k0 (by omega) ?_
  refine ref_step (j := 1) h7 i1.1 i1.2 (by omega) k1 (by omega) ?_
  refine ref_step (j := 2) h7 i2.1 i2.2 (by omega) k2 (by omega) ?_
  refine ref_step (j := 3) h7 i3.1 i3.2 (by omega) k3 (by omega) ?_
  apply gabionref08_turn.L5.ok
  unfold gabionref08_turn.L5.wp
  refine xsIf_f (by simp) ?_
  have hlt : (turnP hh (keyN key 0) (keyN key 1) (keyN key 2) (keyN key 3) (dec hh n)).1 * 2 ^ hh ≤ 128 * 128 := Nat.mul_le_mul (by have := i4.1; exact Nat.le_trans (Nat.le_of_lt this) hp.1) hp.1
  have hr' : (turnP hh (keyN key 0) (keyN key 1) (keyN key 2) (keyN key 3) (dec hh n)).2 < 2 ^ hh := i4.2
  have hq' : Q (.int .i64 (IntKind.i64.wrap (IntKind.i64.wrap (((turnP hh (keyN key 0) (keyN key 1) (keyN key 2) (keyN key 3) (dec hh n)).1 : Nat) * ((2 ^ hh : Nat) : Int)) + ((turnP hh (keyN key 0) (keyN key 1) (keyN key 2) (keyN key 3) (dec hh n)).2 : Nat)))) h := by
    have hq2 : Q (.int .i64 (((turnP hh (keyN key 0) (keyN key 1) (keyN key 2) (keyN key 3) (dec hh n)).1 * 2 ^ hh + (turnP hh (keyN key 0) (keyN key 1) (keyN key 2) (keyN key 3) (dec hh n)).2 : Nat) : Int)) h := hq
    generalize turnP hh (keyN key 0) (keyN key 1) (keyN key 2) (keyN key 3) (dec hh n) = q at hlt hr' hq2 ⊢
    rw [← Int.natCast_mul]
    generalize q.1 * 2 ^ hh = z at hlt hq2 ⊢
    rw [i64_in (z : Int) (by omega), ← Int.natCast_add, i64_in _ (by omega)]
    exact hq2
  exact hq'

theorem gabionref08_To.c {m key i k : Nat} {h : Heap} {Q : Value → Heap → Prop} (hm : m ≤ 8192) (hkey : key < 18446744073709551616) (hi : i < m) (hg : Goes (turnN (halfN m) (keyN key 0) (keyN key 1) (keyN key 2) (keyN key 3)) m i k) (hq : Q (.int .i64 k) h) :
    C Try.prog 40 #[.int .i64 m, .int .u64 key, .int .i64 i] h Q := by
  obtain ⟨hk, J, e, hl⟩ := hg
  have h7 := halfN_le hm
  have P := turn_perm (halfN m) (keyN key 0) (keyN key 1) (keyN key 2) (keyN key 3)
  apply gabionref08_To.ok
  unfold gabionref08_To.wp
  refine gabionref08_Half.c hm ⟨_, rfl, ?_⟩
  refine gabionref08_turn.c h7.2.1 hkey (by omega) ⟨_, rfl, ?_⟩
  have loop : ∀ (J x : Nat), x < 2 ^ halfN m * 2 ^ halfN m → iter (turnN (halfN m) (keyN key 0) (keyN key 1) (keyN key 2) (keyN key 3)) J x = k → (∀ t, t < J → m ≤ iter (turnN (halfN m) (keyN key 0) (keyN key 1) (keyN key 2) (keyN key 3)) t x) →
      gabionref08_To.L3 m key x (halfN m) h Q := by
    intro J
    induction J with
    | zero =>
      intro x hx e hl
      apply gabionref08_To.L3.ok
      have : x = k := e
      subst this
      exact xsIf_f (by simp; omega) hq
    | succ J ih =>
      intro x hx e hl
      apply gabionref08_To.L3.ok
      have h0 : m ≤ x := hl 0 (by omega)
      refine xsIf_t (by simp; omega) (gabionref08_turn.c h7.2.1 hkey hx ⟨_, rfl, ?_⟩)
      exact ih _ (P.lt x hx) e fun t ht => hl (t + 1) (by omega)
  exact loop J _ (P.lt i (by omega)) e fun t ht => hl t ht

end Go.Gb
