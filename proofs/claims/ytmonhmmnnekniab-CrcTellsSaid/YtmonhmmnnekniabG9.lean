/- Own text for the seat: G9. -/
import Derived.Test.YtmonhmmnnekniabGbInt
set_option linter.unusedVariables false
set_option linter.unusedSimpArgs false
set_option linter.unnecessarySimpa false
set_option linter.deprecated false
namespace Go.Gb

/-! ## feistel: the plain law -/

theorem pigeon : ∀ (M : Nat) (g : Nat → Nat), (∀ i, i ≤ M → g i < M) → ∃ a b, a < b ∧ b ≤ M ∧ g a = g b := by
  intro M
  induction M with
  | zero => intro g h; exact absurd (h 0 (Nat.le_refl 0)) (by omega)
  | succ M ih =>
    intro g h
    by_cases he : ∃ a, a ≤ M ∧ g a = g (M + 1)
    · obtain ⟨a, ha, e⟩ := he
      exact ⟨a, M + 1, by omega, by omega, e⟩
    · have hv := h (M + 1) (Nat.le_refl _)
      have hne : ∀ a, a ≤ M → g a ≠ g (M + 1) := fun a ha e => he ⟨a, ha, e⟩
      obtain ⟨a, b, hab, hb, e⟩ := ih (fun i => if g (M + 1) < g i then g i - 1 else g i) (by
        intro i hi
        have h1 := h i (by omega)
        have h2 := hne i hi
        split <;> omega)
      refine ⟨a, b, hab, by omega, ?_⟩
      have h1 := hne a (by omega)
      have h2 := hne b (by omega)
      split at e <;> split at e <;> omega

/-- f so many times. -/
def iter (f : Nat → Nat) : Nat → Nat → Nat
  | 0, x => x
  | n + 1, x => iter f n (f x)

theorem iter_succ (f : Nat → Nat) (n : Nat) : ∀ x, iter f (n + 1) x = f (iter f n x) := by
  induction n with
  | zero => intro x; rfl
  | succ n ih => intro x; show iter f (n + 1) (f x) = _; rw [ih]; rfl

theorem iter_add (f : Nat → Nat) (a b : Nat) : ∀ x, iter f (a + b) x = iter f b (iter f a x) := by
  induction a with
  | zero => intro x; rw [Nat.zero_add]; rfl
  | succ a ih => intro x; rw [Nat.succ_add]; exact ih (f x)

/-- A change of [0, M) with its way back. -/
structure Perm2 (f g : Nat → Nat) (M : Nat) : Prop where
  lt : ∀ x, x < M → f x < M
  back : ∀ x, x < M → g (f x) = x

theorem Perm2.iter_lt {f g : Nat → Nat} {M : Nat} (p : Perm2 f g M) (n : Nat) : ∀ x, x < M → iter f n x < M := by
  induction n with
  | zero => intro x h; exact h
  | succ n ih => intro x h; exact ih _ (p.lt x h)

theorem Perm2.iter_back {f g : Nat → Nat} {M : Nat} (p : Perm2 f g M) (n : Nat) : ∀ x, x < M → iter g n (iter f n x) = x := by
  induction n with
  | zero => intro x h; rfl
  | succ n ih =>
    intro x h
    rw [iter_succ f]
    show iter g n (g (f (iter f n x))) = x
    rw [p.back _ (p.iter_lt n x h)]
    exact ih x h

/-- i goes to k: f again and again till it is below m. -/
def Goes (f : Nat → Nat) (m i k : Nat) : Prop := k < m ∧ ∃ J, iter f (J + 1) i = k ∧ ∀ t, t < J → m ≤ iter f (t + 1) i

theorem goes_one {f : Nat → Nat} {m i k k' : Nat} (h : Goes f m i k) (h' : Goes f m i k') : k = k' := by
  obtain ⟨hk, J, e, hl⟩ := h
  obtain ⟨hk', J', e', hl'⟩ := h'
  have : J = J' := by
    rcases Nat.lt_trichotomy J J' with h | h | h
    · have := hl' J h; omega
    · exact h
    · have := hl J' h; omega
  subst this
  rw [← e, ← e']

theorem goes_least {f : Nat → Nat} {m i : Nat} : ∀ J, iter f (J + 1) i < m → ∃ k, Goes f m i k := by
  intro J
  induction J using Nat.strongRecOn with
  | _ J ih =>
    intro h
    by_cases hx : ∃ t, t < J ∧ iter f (t + 1) i < m
    · obtain ⟨t, ht, hm⟩ := hx
      exact ih t ht hm
    · exact ⟨_, h, J, rfl, fun t ht => Nat.le_of_not_lt fun hlt => hx ⟨t, ht, hlt⟩⟩

theorem Perm2.goes {f g : Nat → Nat} {M m i : Nat} (p : Perm2 f g M) (hm : m ≤ M) (hi : i < m) : ∃ k, Goes f m i k := by
  obtain ⟨a, b, hab, _, e⟩ := pigeon M (fun n => iter f n i) fun n _ => p.iter_lt n i (by omega)
  obtain ⟨d, rfl⟩ : ∃ d, b = d + 1 + a := ⟨b - a - 1, by omega⟩
  have e1 : iter f (d + 1) i = i := by
    have h1 := p.iter_back a (iter f (d + 1) i) (p.iter_lt _ _ (by omega))
    rw [← iter_add, ← e, p.iter_back a i (by omega)] at h1
    exact h1.symm
  exact goes_least d (by rw [e1]; exact hi)

/-- The way back. -/
theorem Perm2.goes_back {f g : Nat → Nat} {M m i k : Nat} (p : Perm2 f g M) (hm : m ≤ M) (hi : i < m) (h : Goes f m i k) : Goes g m k i := by
  obtain ⟨hk, J, e, hl⟩ := h
  have hb : ∀ t, t ≤ J + 1 → iter g t k = iter f (J + 1 - t) i := by
    intro t ht
    have h1 := p.iter_back t (iter f (J + 1 - t) i) (p.iter_lt _ _ (by omega))
    rw [← iter_add, show J + 1 - t + t = J + 1 by omega, e] at h1
    exact h1
  refine ⟨hi, J, ?_, ?_⟩
  · rw [hb (J + 1) (Nat.le_refl _), Nat.sub_self]; rfl
  · intro t ht
    rw [hb (t + 1) (by omega)]
    have := hl (J - t - 1) (by omega)
    rw [show J - t - 1 + 1 = J + 1 - (t + 1) by omega] at this
    exact this

theorem Perm2.goes_inj {f g : Nat → Nat} {M m i j k : Nat} (p : Perm2 f g M) (hm : m ≤ M) (hi : i < m) (hj : j < m) (h1 : Goes f m i k) (h2 : Goes f m j k) : i = j :=
  goes_one (p.goes_back hm hi h1) (p.goes_back hm hj h2)

/-! The rounds. -/

def yN (x k : Nat) : Nat := (x * 40503 + k * 52711 + 12289) % 65536
def mixN (h x k : Nat) : Nat := (yN x k ^^^ (yN x k / 128)) % 2 ^ h
def rnd (h k : Nat) (p : Nat × Nat) : Nat × Nat := (p.2, p.1 ^^^ mixN h p.2 k)
def unr (h k : Nat) (p : Nat × Nat) : Nat × Nat := (p.2 ^^^ mixN h p.1 k, p.1)
def enc (h : Nat) (p : Nat × Nat) : Nat := p.1 * 2 ^ h + p.2
def dec (h n : Nat) : Nat × Nat := (n / 2 ^ h, n % 2 ^ h)
def InP (h : Nat) (p : Nat × Nat) : Prop := p.1 < 2 ^ h ∧ p.2 < 2 ^ h

theorem mixN_lt (h x k : Nat) : mixN h x k < 2 ^ h := Nat.mod_lt _ (Nat.two_pow_pos h)
theorem rnd_in {h k : Nat} {p : Nat × Nat} (i : InP h p) : InP h (rnd h k p) := ⟨i.2, Nat.xor_lt_two_pow i.1 (mixN_lt h _ k)⟩
theorem unr_in {h k : Nat} {p : Nat × Nat} (i : InP h p) : InP h (unr h k p) := ⟨Nat.xor_lt_two_pow i.2 (mixN_lt h _ k), i.1⟩
theorem unr_rnd (h k : Nat) (p : Nat × Nat) : unr h k (rnd h k p) = p := by
  obtain ⟨l, r⟩ := p
  unfold unr rnd
  simp [Nat.xor_assoc]
theorem dec_enc {h : Nat} {p : Nat × Nat} (i : InP h p) : dec h (enc h p) = p := by
  obtain ⟨l, r⟩ := p
  unfold dec enc
  have hp := Nat.two_pow_pos h
  have i2 : r < 2 ^ h := i.2
  simp only
  rw [Nat.add_comm, Nat.mul_comm, Nat.add_mul_div_left _ _ hp, Nat.div_eq_of_lt i2, Nat.add_mul_mod_self_left, Nat.mod_eq_of_lt i2, Nat.zero_add]
theorem dec_in {h n : Nat} (hn : n < 2 ^ h * 2 ^ h) : InP h (dec h n) := ⟨Nat.div_lt_of_lt_mul hn, Nat.mod_lt _ (Nat.two_pow_pos h)⟩
theorem enc_dec (h n : Nat) : enc h (dec h n) = n := by
  unfold enc dec
  rw [Nat.mul_comm]; exact Nat.div_add_mod n (2 ^ h)
theorem enc_lt {h : Nat} {p : Nat × Nat} (i : InP h p) : enc h p < 2 ^ h * 2 ^ h := by
  unfold enc
  have : (p.1 + 1) * 2 ^ h ≤ 2 ^ h * 2 ^ h := Nat.mul_le_mul_right _ i.1
  rw [Nat.add_mul] at this
  have := i.2
  omega

def turnP (h a b c d : Nat) (p : Nat × Nat) : Nat × Nat := rnd h d (rnd h c (rnd h b (rnd h a p)))
def backP (h a b c d : Nat) (p : Nat × Nat) : Nat × Nat := unr h a (unr h b (unr h c (unr h d p)))
def turnN (h a b c d n : Nat) : Nat := enc h (turnP h a b c d (dec h n))
def backN (h a b c d n : Nat) : Nat := enc h (backP h a b c d (dec h n))

theorem turn_perm (h a b c d : Nat) : Perm2 (turnN h a b c d) (backN h a b c d) (2 ^ h * 2 ^ h) where
  lt := fun x hx => enc_lt (rnd_in (rnd_in (rnd_in (rnd_in (dec_in hx)))))
  back := fun x hx => by
    unfold turnN backN
    rw [dec_enc (p := turnP h a b c d (dec h x)) (rnd_in (rnd_in (rnd_in (rnd_in (dec_in hx)))))]
    unfold turnP backP
    rw [unr_rnd, unr_rnd, unr_rnd, unr_rnd, enc_dec]

/-- The other way round. -/
theorem turn_perm' (h a b c d : Nat) : ∀ x, x < 2 ^ h * 2 ^ h → backN h a b c d x < 2 ^ h * 2 ^ h :=
  fun _ hx => enc_lt (unr_in (unr_in (unr_in (unr_in (dec_in hx)))))

/-- Half the width of so many places. -/
def halfN (m : Nat) : Nat := if m ≤ 4 then 1 else if m ≤ 16 then 2 else if m ≤ 64 then 3 else if m ≤ 256 then 4 else if m ≤ 1024 then 5 else if m ≤ 4096 then 6 else 7

theorem halfN_le {m : Nat} (h : m ≤ 8192) : 1 ≤ halfN m ∧ halfN m ≤ 7 ∧ m ≤ 2 ^ halfN m * 2 ^ halfN m := by
  unfold halfN
  (repeat' split) <;> (refine ⟨by omega, by omega, ?_⟩; omega)

/-- The keys of the rounds. -/
def keyN (key j : Nat) : Nat := key / 2 ^ (16 * j) % 65536

end Go.Gb
