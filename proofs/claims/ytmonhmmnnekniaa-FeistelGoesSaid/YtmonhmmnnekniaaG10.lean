/- Own text for the seat: G10. -/
import Derived.Test.YtmonhmmnnekniaaG3
import Derived.Test.YtmonhmmnnekniaaG9
set_option linter.unusedVariables false
set_option linter.unusedSimpArgs false
set_option linter.unnecessarySimpa false
set_option linter.deprecated false
namespace Go.Gb
open Go.Proofs IntWalk

/-! ## feistel: what the code computes -/

/-- A change of places, as the code has it. -/
def permV (m h a b c d : Nat) : Value := .agg #[.int .i64 m, .int .i64 h, .int .u16 a, .int .u16 b, .int .u16 c, .int .u16 d]

theorem pow_le7 {h : Nat} (h7 : h ≤ 7) : 2 ^ h ≤ 128 ∧ 1 ≤ 2 ^ h := ⟨(Nat.pow_le_pow_right (by omega) h7 : 2 ^ h ≤ 2 ^ 7), Nat.two_pow_pos h⟩

theorem feistel_Perm_low.c {m hh a b c d : Nat} {h : Heap} {Q : Value → Heap → Prop} (h7 : hh ≤ 7) (hq : Q (.int .i64 (2 ^ hh - 1 : Nat)) h) : C Try.prog 54 #[permV m hh a b c d] h Q := by
  apply feistel_Perm_low.ok
  unfold feistel_Perm_low.wp
  have := pow_le7 h7
  rw [show (1 : Int) = ((1 : Nat) : Int) from rfl, ishl_i64 (by omega) (by omega), Nat.one_mul, i64_in _ (by omega)]
  refine ⟨by omega, ?_⟩
  have e : ((2 ^ hh : Nat) : Int) - ((1 : Nat) : Int) = ((2 ^ hh - 1 : Nat) : Int) := by omega
  rw [e]; exact hq

theorem u16_w (x : Int) : IntKind.u16.wrap x = x % 65536 := wrapU .u16 rfl x

theorem feistel_Perm_mix.c {m hh a b c d x k : Nat} {h : Heap} {Q : Value → Heap → Prop} (h7 : hh ≤ 7) (hx : x < 2 ^ hh) (hk : k < 65536) (hq : Q (.int .i64 (mixN hh x k)) h) : C Try.prog 55 #[permV m hh a b c d, .int .i64 x, .int .u16 k] h Q := by
  apply feistel_Perm_mix.ok
  unfold feistel_Perm_mix.wp
  refine feistel_Perm_low.c h7 ⟨_, rfl, ?_⟩
  have hp := pow_le7 h7
  have e : IntKind.u16.wrap (IntKind.u16.wrap (IntKind.u16.wrap (IntKind.u16.wrap (x : Int) * 40503) + IntKind.u16.wrap ((k : Int) * 52711)) + 12289) = ((yN x k : Nat) : Int) := by
    simp only [u16_w]
    unfold yN
    omega
  have hy : yN x k < 65536 := Nat.mod_lt _ (by omega)
  have hz : yN x k ^^^ yN x k / 128 < 65536 := Nat.xor_lt_two_pow (n := 16) hy (Nat.lt_of_le_of_lt (Nat.div_le_self _ _) hy)
  rw [e, show (7 : Int) = ((7 : Nat) : Int) from rfl, ishr_u16 (by omega), show (2 : Nat) ^ 7 = 128 from rfl, ixor_u16 hy (Nat.lt_of_le_of_lt (Nat.div_le_self _ _) hy), i64_in _ (by omega), iand_i64 (by omega) (by omega), Nat.and_two_pow_sub_one_eq_mod]
  exact hq

theorem turn_step {m hh a b c d l r k : Nat} {t0 t1 t2 t3 : Int} {j : Nat} {h : Heap} {Q : Value → Heap → Prop} (h7 : hh ≤ 7) (hl : l < 2 ^ hh) (hr : r < 2 ^ hh) (hk : k < 65536) (hj : j < 4)
    (hg : lget [.int .u16 t0, .int .u16 t1, .int .u16 t2, .int .u16 t3] j = some (.int .u16 k))
    (hq : feistel_Perm_turn.L3 (rnd hh k (l, r)).1 (rnd hh k (l, r)).2 t0 t1 t2 t3 ((j + 1 : Nat) : Int) m hh a b c d h Q) : feistel_Perm_turn.L3 l r t0 t1 t2 t3 (j : Int) m hh a b c d h Q := by
  apply feistel_Perm_turn.L3.ok
  unfold feistel_Perm_turn.L3.wp
  have hp := pow_le7 h7
  refine xsIf_t (by simp; omega) ⟨by omega, k, by rw [Int.toNat_natCast, Nat.mul_one]; exact hg, ?_⟩
  refine feistel_Perm_mix.c h7 hr hk ⟨_, rfl, ?_⟩
  have := mixN_lt hh r k
  rw [ixor_i64 (by omega) (by omega), i64_in _ (by omega)]
  exact hq

theorem feistel_Perm_turn.c {m hh a b c d n : Nat} {h : Heap} {Q : Value → Heap → Prop} (h7 : hh ≤ 7) (ha : a < 65536) (hb : b < 65536) (hc : c < 65536) (hd : d < 65536) (hn : n < 2 ^ hh * 2 ^ hh) (hq : Q (.int .i64 (turnN hh a b c d n)) h) :
    C Try.prog 50 #[permV m hh a b c d, .int .i64 n] h Q := by
  apply feistel_Perm_turn.ok
  unfold feistel_Perm_turn.wp
  have hp := pow_le7 h7
  have hpp : 2 ^ hh * 2 ^ hh ≤ 128 * 128 := Nat.mul_le_mul hp.1 hp.1
  refine ⟨by omega, feistel_Perm_low.c h7 ⟨_, rfl, ?_⟩⟩
  rw [ishr_i64 (by omega), iand_i64 (by omega) (by omega), Nat.and_two_pow_sub_one_eq_mod]
  have i0 : InP hh (dec hh n) := dec_in hn
  have i1 := rnd_in (k := a) i0
  have i2 := rnd_in (k := b) i1
  have i3 := rnd_in (k := c) i2
  have i4 := rnd_in (k := d) i3
  refine turn_step (j := 0) h7 i0.1 i0.2 ha (by omega) rfl ?_
  refine turn_step (j := 1) h7 i1.1 i1.2 hb (by omega) rfl ?_
  refine turn_step (j := 2) h7 i2.1 i2.2 hc (by omega) rfl ?_
  refine turn_step (j := 3) h7 i3.1 i3.2 hd (by omega) rfl ?_
  apply feistel_Perm_turn.L3.ok
  unfold feistel_Perm_turn.L3.wp
  refine xsIf_f (by simp) ⟨by omega, ?_⟩
  have e4 : (rnd hh d ((rnd hh c ((rnd hh b ((rnd hh a (dec hh n)).1, (rnd hh a (dec hh n)).2)).1, (rnd hh b ((rnd hh a (dec hh n)).1, (rnd hh a (dec hh n)).2)).2)).1, (rnd hh c ((rnd hh b ((rnd hh a (dec hh n)).1, (rnd hh a (dec hh n)).2)).1, (rnd hh b ((rnd hh a (dec hh n)).1, (rnd hh a (dec hh n)).2)).2)).2)) = turnP hh a b c d (dec hh n) := rfl
  have hlt : (turnP hh a b c d (dec hh n)).1 * 2 ^ hh ≤ 128 * 128 := Nat.mul_le_mul (by have := i4.1; exact Nat.le_trans (Nat.le_of_lt this) hp.1) hp.1
  have hr := i4.2
  have hq' : Q (.int .i64 (ior .i64 (ishl .i64 (((turnP hh a b c d (dec hh n)).1 : Nat) : Int) hh) (((turnP hh a b c d (dec hh n)).2 : Nat) : Int))) h := by
    have hr' : (turnP hh a b c d (dec hh n)).2 < 2 ^ hh := i4.2
    rw [ishl_i64 (by omega) (by omega), ior_i64 (by omega) (by omega), Nat.mul_comm, ← Nat.two_pow_add_eq_or_of_lt hr']
    have e : 2 ^ hh * (turnP hh a b c d (dec hh n)).1 + (turnP hh a b c d (dec hh n)).2 = turnN hh a b c d n := by unfold turnN enc; rw [Nat.mul_comm]
    rw [e]; exact hq
  exact hq'

def permL (m h a b c d : Nat) : List Value := [.int .i64 m, .int .i64 h, .int .u16 a, .int .u16 b, .int .u16 c, .int .u16 d]

theorem back_step {m hh a b c d l r k : Nat} {j : Nat} {h : Heap} {Q : Value → Heap → Prop} (h7 : hh ≤ 7) (hl : l < 2 ^ hh) (hr : r < 2 ^ hh) (hk : k < 65536) (hj : j < 4)
    (hg : lget (permL m hh a b c d) (2 + j) = some (.int .u16 k))
    (hq : feistel_Perm_back.L3 (unr hh k (l, r)).1 (unr hh k (l, r)).2 ((j : Int) - 1) (permL m hh a b c d) h Q) : feistel_Perm_back.L3 l r (j : Int) (permL m hh a b c d) h Q := by
  apply feistel_Perm_back.L3.ok
  unfold feistel_Perm_back.L3.wp
  have hp := pow_le7 h7
  refine xsIf_t (by simp) ⟨Nat.le_refl 6, m, rfl, hh, rfl, a, rfl, b, rfl, c, rfl, d, rfl, by omega, k, by rw [Int.toNat_natCast, Nat.mul_one]; exact hg, ?_⟩
  refine feistel_Perm_mix.c h7 hl hk ⟨_, rfl, ?_⟩
  have := mixN_lt hh l k
  rw [ixor_i64 (by omega) (by omega), i64_in _ (by omega)]
  exact hq

theorem feistel_Perm_back.c {m hh a b c d n : Nat} {h : Heap} {Q : Value → Heap → Prop} (h7 : hh ≤ 7) (ha : a < 65536) (hb : b < 65536) (hc : c < 65536) (hd : d < 65536) (hn : n < 2 ^ hh * 2 ^ hh) (hq : Q (.int .i64 (backN hh a b c d n)) h) :
    C Try.prog 51 #[permV m hh a b c d, .int .i64 n] h Q := by
  apply feistel_Perm_back.ok
  unfold feistel_Perm_back.wp
  have hp := pow_le7 h7
  have hpp : 2 ^ hh * 2 ^ hh ≤ 128 * 128 := Nat.mul_le_mul hp.1 hp.1
  refine ⟨hh, rfl, by omega, Nat.le_refl 6, m, rfl, hh, rfl, a, rfl, b, rfl, c, rfl, d, rfl, feistel_Perm_low.c h7 ⟨_, rfl, ?_⟩⟩
  rw [ishr_i64 (by omega), iand_i64 (by omega) (by omega), Nat.and_two_pow_sub_one_eq_mod]
  have i0 : InP hh (dec hh n) := dec_in hn
  have i1 := unr_in (k := d) i0
  have i2 := unr_in (k := c) i1
  have i3 := unr_in (k := b) i2
  have i4 := unr_in (k := a) i3
  show feistel_Perm_back.L3 _ _ ((3 : Nat) : Int) (permL m hh a b c d) h Q
  refine back_step (j := 3) h7 i0.1 i0.2 hd (by omega) rfl ?_
  refine back_step (j := 2) h7 i1.1 i1.2 hc (by omega) rfl ?_
  refine back_step (j := 1) h7 i2.1 i2.2 hb (by omega) rfl ?_
  refine back_step (j := 0) h7 i3.1 i3.2 ha (by omega) rfl ?_
  apply feistel_Perm_back.L3.ok
  unfold feistel_Perm_back.L3.wp
  refine xsIf_f (by simp) ⟨hh, rfl, by omega, ?_⟩
  have hlt : (backP hh a b c d (dec hh n)).1 * 2 ^ hh ≤ 128 * 128 := Nat.mul_le_mul (by have := i4.1; exact Nat.le_trans (Nat.le_of_lt this) hp.1) hp.1
  have hq' : Q (.int .i64 (ior .i64 (ishl .i64 (((backP hh a b c d (dec hh n)).1 : Nat) : Int) hh) (((backP hh a b c d (dec hh n)).2 : Nat) : Int))) h := by
    have hr' : (backP hh a b c d (dec hh n)).2 < 2 ^ hh := i4.2
    rw [ishl_i64 (by omega) (by omega), ior_i64 (by omega) (by omega), Nat.mul_comm, ← Nat.two_pow_add_eq_or_of_lt hr']
    have e : 2 ^ hh * (backP hh a b c d (dec hh n)).1 + (backP hh a b c d (dec hh n)).2 = backN hh a b c d n := by unfold backN enc; rw [Nat.mul_comm]
    rw [e]; exact hq
  exact hq'

/-- The walk, whatever its step is. -/
theorem feistel_Perm_walk.L4.c {f : Nat → Nat} {step m hh a b c d k M : Nat} {sa : Array Value} {h : Heap} {Q : Value → Heap → Prop} (hgo : goOk Try.prog step = true) (hk : k < m)
    (hs : ∀ n Q, n < M → Q (Value.int .i64 (f n)) h → C Try.prog step (sa.toList ++ [Value.int .i64 n] ++ (#[] : Array Value).toList).toArray h Q) (hf : ∀ n, n < M → f n < M)
    (hq : Q (.int .i64 k) h) : ∀ (J i : Nat), i < M → iter f J i = k → (∀ t, t < J → m ≤ iter f t i) →
    feistel_Perm_walk.L4 i step sa #[] m hh a b c d h Q := by
  intro J
  induction J with
  | zero =>
    intro i hi e hl
    apply feistel_Perm_walk.L4.ok
    have : i = k := e
    subst this
    exact xsIf_f (by simp; omega) hq
  | succ J ih =>
    intro i hi e hl
    apply feistel_Perm_walk.L4.ok
    have h0 : m ≤ i := hl 0 (by omega)
    refine xsIf_t (by simp; omega) (xsIf_t hgo (hs i _ hi ⟨_, rfl, ?_⟩))
    exact ih (f i) (hf i hi) e fun t ht => hl (t + 1) (by omega)

theorem walk_out {step m hh a b c d : Nat} {i : Int} {sa : Array Value} {h : Heap} {Q : Value → Heap → Prop} (hi : i < 0 ∨ (m : Int) ≤ i) (hq : Q (.int .i64 (-1)) h) :
    C Try.prog 49 #[permV m hh a b c d, .int .i64 i, .func (.func step) sa #[]] h Q := by
  apply feistel_Perm_walk.ok
  unfold feistel_Perm_walk.wp
  refine xsIf_intro (fun _ => hq) (fun h1 => xsIf_t (by simp at h1 ⊢; omega) hq)

theorem walk_in {f : Nat → Nat} {step m hh a b c d i k M : Nat} {sa : Array Value} {h : Heap} {Q : Value → Heap → Prop} (hgo : goOk Try.prog step = true)
    (hs : ∀ n Q, n < M → Q (Value.int .i64 (f n)) h → C Try.prog step (sa.toList ++ [Value.int .i64 n] ++ (#[] : Array Value).toList).toArray h Q) (hf : ∀ n, n < M → f n < M) (hm : m ≤ M) (hi : i < m)
    (hg : Goes f m i k) (hq : Q (.int .i64 k) h) :
    C Try.prog 49 #[permV m hh a b c d, .int .i64 i, .func (.func step) sa #[]] h Q := by
  obtain ⟨hk, J, e, hl⟩ := hg
  apply feistel_Perm_walk.ok
  unfold feistel_Perm_walk.wp
  refine xsIf_f (by simp) (xsIf_f (by simp; omega) (xsIf_t hgo (hs i _ (by omega) ⟨_, rfl, ?_⟩)))
  exact feistel_Perm_walk.L4.c hgo hk hs hf hq J (f i) (hf i (by omega)) e fun t ht => hl t ht

theorem go50 : goOk Try.prog 50 = true := by kernel_rfl
theorem go51 : goOk Try.prog 51 = true := by kernel_rfl

/-- A change of places that may be. -/
structure Perm (m hh a b c d : Nat) : Prop where
  h7 : hh ≤ 7
  fit : m ≤ 2 ^ hh * 2 ^ hh
  ka : a < 65536
  kb : b < 65536
  kc : c < 65536
  kd : d < 65536

theorem feistel_Perm_To.out {m hh a b c d : Nat} {i : Int} {h : Heap} {Q : Value → Heap → Prop} (hi : i < 0 ∨ (m : Int) ≤ i) (hq : Q (.int .i64 (-1)) h) : C Try.prog 37 #[permV m hh a b c d, .int .i64 i] h Q := by
  apply feistel_Perm_To.ok
  exact walk_out hi ⟨_, rfl, hq⟩
theorem feistel_Perm_From.out {m hh a b c d : Nat} {i : Int} {h : Heap} {Q : Value → Heap → Prop} (hi : i < 0 ∨ (m : Int) ≤ i) (hq : Q (.int .i64 (-1)) h) : C Try.prog 39 #[permV m hh a b c d, .int .i64 i] h Q := by
  apply feistel_Perm_From.ok
  exact walk_out hi ⟨_, rfl, hq⟩

theorem feistel_Perm_To.c {m hh a b c d i k : Nat} {h : Heap} {Q : Value → Heap → Prop} (p : Perm m hh a b c d) (hi : i < m) (hg : Goes (turnN hh a b c d) m i k) (hq : Q (.int .i64 k) h) : C Try.prog 37 #[permV m hh a b c d, .int .i64 i] h Q := by
  apply feistel_Perm_To.ok
  exact walk_in (f := turnN hh a b c d) (M := 2 ^ hh * 2 ^ hh) go50 (fun n Q hn hq => feistel_Perm_turn.c p.h7 p.ka p.kb p.kc p.kd hn hq) (turn_perm hh a b c d).lt p.fit hi hg ⟨_, rfl, hq⟩
theorem feistel_Perm_From.c {m hh a b c d i k : Nat} {h : Heap} {Q : Value → Heap → Prop} (p : Perm m hh a b c d) (hk : k < m) (hg : Goes (backN hh a b c d) m k i) (hq : Q (.int .i64 i) h) : C Try.prog 39 #[permV m hh a b c d, .int .i64 k] h Q := by
  apply feistel_Perm_From.ok
  exact walk_in (f := backN hh a b c d) (M := 2 ^ hh * 2 ^ hh) go51 (fun n Q hn hq => feistel_Perm_back.c p.h7 p.ka p.kb p.kc p.kd hn hq) (turn_perm' hh a b c d) p.fit hk hg ⟨_, rfl, hq⟩

theorem feistel_Perm_Size.c {m hh a b c d : Nat} {h : Heap} {Q : Value → Heap → Prop} (hq : Q (.int .i64 m) h) : C Try.prog 38 #[permV m hh a b c d] h Q := by
  apply feistel_Perm_Size.ok
  exact hq

end Go.Gb
