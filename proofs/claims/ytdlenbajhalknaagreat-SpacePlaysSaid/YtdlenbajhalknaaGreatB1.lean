/- Own texts for the seat: G9 Crc0. -/
import Derived.Test.YtdlenbajhalknaaGreatA6
set_option linter.unusedVariables false
set_option linter.unusedSimpArgs false
set_option linter.unnecessarySimpa false
set_option linter.deprecated false
namespace Go.Gb
theorem pigeon : ∀ (M : Nat) (g : Nat → Nat), (∀ i, i ≤ M → g i < M) → ∃ a b, a < b ∧ b ≤ M ∧ g a = g b := by
 intro M
 induction M with
 | zero => intro g h; exact absurd (h 0 (Nat.le_refl 0)) (by omega)
 | succ M ih =>
  intro g h
  by_cases he : ∃ a, a ≤ M ∧ g a = g (M + 1)
  ·obtain ⟨a, ha, e⟩ := he
   exact ⟨a, M + 1, by omega, by omega, e⟩
  ·have hv := h (M + 1) (Nat.le_refl _)
   have hne : ∀ a, a ≤ M → g a ≠ g (M + 1) := fun a ha e => he ⟨a, ha, e⟩
   obtain ⟨a, b, hab, hb, e⟩ := ih (fun i => if g (M + 1) < g i then g i - 1 else g i) (by
    intro i hi
    have h1 := h i (by omega)
    have h2 := hne i hi
    split <;> omega)
   refine ⟨a, b, hab, by omega, ?_⟩
   have h1 := hne a (by omega)
   have h2 := hne b (by omega)
   split at e <;> split at e <;> omega
def iter (f : Nat → Nat) : Nat → Nat → Nat
 | 0, x => x
 | n + 1, x => iter f n (f x)
theorem iter_succ (f : Nat → Nat) (n : Nat) : ∀ x, iter f (n + 1) x = f (iter f n x) := by
 induction n with
 | zero => intro x; rfl
 | succ n ih => intro x; show iter f (n + 1) (f x) = _; rw [ih]; rfl
theorem iter_add (f : Nat → Nat) (a b : Nat) : ∀ x, iter f (a + b) x = iter f b (iter f a x) := by
 induction a with
 | zero => intro x; rw [Nat.zero_add]; rfl
 | succ a ih => intro x; rw [Nat.succ_add]; exact ih (f x)
structure Perm2 (f g : Nat → Nat) (M : Nat) : Prop where
 lt : ∀ x, x < M → f x < M
 back : ∀ x, x < M → g (f x) = x
theorem Perm2.iter_lt {f g : Nat → Nat} {M : Nat} (p : Perm2 f g M) (n : Nat) : ∀ x, x < M → iter f n x < M := by
 induction n with
 | zero => intro x h; exact h
 | succ n ih => intro x h; exact ih _ (p.lt x h)
theorem Perm2.iter_back {f g : Nat → Nat} {M : Nat} (p : Perm2 f g M) (n : Nat) : ∀ x, x < M → iter g n (iter f n x) = x := by
 induction n with
 | zero => intro x h; rfl
 | succ n ih =>
  intro x h
  rw [iter_succ f]
  show iter g n (g (f (iter f n x))) = x
  rw [p.back _ (p.iter_lt n x h)]
  exact ih x h
def Goes (f : Nat → Nat) (m i k : Nat) : Prop := k < m ∧ ∃ J, iter f (J + 1) i = k ∧ ∀ t, t < J → m ≤ iter f (t + 1) i
theorem goes_one {f : Nat → Nat} {m i k k' : Nat} (h : Goes f m i k) (h' : Goes f m i k') : k = k' := by
 obtain ⟨hk, J, e, hl⟩ := h
 obtain ⟨hk', J', e', hl'⟩ := h'
 have : J = J' := by
  rcases Nat.lt_trichotomy J J' with h | h | h
  ·have := hl' J h; omega
  ·exact h
  ·have := hl J' h; omega
 subst this
 rw [← e, ← e']
theorem goes_least {f : Nat → Nat} {m i : Nat} : ∀ J, iter f (J + 1) i < m → ∃ k, Goes f m i k := by
 intro J
 induction J using Nat.strongRecOn with
 | _ J ih =>
  intro h
  by_cases hx : ∃ t, t < J ∧ iter f (t + 1) i < m
  ·obtain ⟨t, ht, hm⟩ := hx
   exact ih t ht hm
  ·exact ⟨_, h, J, rfl, fun t ht => Nat.le_of_not_lt fun hlt => hx ⟨t, ht, hlt⟩⟩
theorem Perm2.goes {f g : Nat → Nat} {M m i : Nat} (p : Perm2 f g M) (hm : m ≤ M) (hi : i < m) : ∃ k, Goes f m i k := by
 obtain ⟨a, b, hab, _, e⟩ := pigeon M (fun n => iter f n i) fun n _ => p.iter_lt n i (by omega)
 obtain ⟨d, rfl⟩ : ∃ d, b = d + 1 + a := ⟨b - a - 1, by omega⟩
 have e1 : iter f (d + 1) i = i := by
  have h1 := p.iter_back a (iter f (d + 1) i) (p.iter_lt _ _ (by omega))
  rw [← iter_add, ← e, p.iter_back a i (by omega)] at h1
  exact h1.symm
 exact goes_least d (by rw [e1]; exact hi)
theorem Perm2.goes_back {f g : Nat → Nat} {M m i k : Nat} (p : Perm2 f g M) (hm : m ≤ M) (hi : i < m) (h : Goes f m i k) : Goes g m k i := by
 obtain ⟨hk, J, e, hl⟩ := h
 have hb : ∀ t, t ≤ J + 1 → iter g t k = iter f (J + 1 - t) i := by
  intro t ht
  have h1 := p.iter_back t (iter f (J + 1 - t) i) (p.iter_lt _ _ (by omega))
  rw [← iter_add, show J + 1 - t + t = J + 1 by omega, e] at h1
  exact h1
 refine ⟨hi, J, ?_, ?_⟩
 ·rw [hb (J + 1) (Nat.le_refl _), Nat.sub_self]; rfl
 ·intro t ht
  rw [hb (t + 1) (by omega)]
  have := hl (J - t - 1) (by omega)
  rw [show J - t - 1 + 1 = J + 1 - (t + 1) by omega] at this
  exact this
theorem Perm2.goes_inj {f g : Nat → Nat} {M m i j k : Nat} (p : Perm2 f g M) (hm : m ≤ M) (hi : i < m) (hj : j < m) (h1 : Goes f m i k) (h2 : Goes f m j k) : i = j :=
 goes_one (p.goes_back hm hi h1) (p.goes_back hm hj h2)
def yN (x k : Nat) : Nat := (x * 40503 + k * 52711 + 12289) % 65536
def mixN (h x k : Nat) : Nat := (yN x k ^^^ (yN x k / 128)) % 2 ^ h
def rnd (h k : Nat) (p : Nat × Nat) : Nat × Nat := (p.2, p.1 ^^^ mixN h p.2 k)
def unr (h k : Nat) (p : Nat × Nat) : Nat × Nat := (p.2 ^^^ mixN h p.1 k, p.1)
def enc (h : Nat) (p : Nat × Nat) : Nat := p.1 * 2 ^ h + p.2
def dec (h n : Nat) : Nat × Nat := (n / 2 ^ h, n % 2 ^ h)
def InP (h : Nat) (p : Nat × Nat) : Prop := p.1 < 2 ^ h ∧ p.2 < 2 ^ h
theorem mixN_lt (h x k : Nat) : mixN h x k < 2 ^ h := Nat.mod_lt _ (Nat.two_pow_pos h)
theorem rnd_in {h k : Nat} {p : Nat × Nat} (i : InP h p) : InP h (rnd h k p) := ⟨i.2, Nat.xor_lt_two_pow i.1 (mixN_lt h _ k)⟩
theorem unr_rnd (h k : Nat) (p : Nat × Nat) : unr h k (rnd h k p) = p := by
 obtain ⟨l, r⟩ := p
 unfold unr rnd
 simp [Nat.xor_assoc]
theorem dec_enc {h : Nat} {p : Nat × Nat} (i : InP h p) : dec h (enc h p) = p := by
 obtain ⟨l, r⟩ := p
 unfold dec enc
 have hp := Nat.two_pow_pos h
 have i2 : r < 2 ^ h := i.2
 simp only
 rw [Nat.add_comm, Nat.mul_comm, Nat.add_mul_div_left _ _ hp, Nat.div_eq_of_lt i2, Nat.add_mul_mod_self_left, Nat.mod_eq_of_lt i2, Nat.zero_add]
theorem dec_in {h n : Nat} (hn : n < 2 ^ h * 2 ^ h) : InP h (dec h n) := ⟨Nat.div_lt_of_lt_mul hn, Nat.mod_lt _ (Nat.two_pow_pos h)⟩
theorem enc_dec (h n : Nat) : enc h (dec h n) = n := by
 unfold enc dec
 rw [Nat.mul_comm]; exact Nat.div_add_mod n (2 ^ h)
theorem enc_lt {h : Nat} {p : Nat × Nat} (i : InP h p) : enc h p < 2 ^ h * 2 ^ h := by
 unfold enc
 have : (p.1 + 1) * 2 ^ h ≤ 2 ^ h * 2 ^ h := Nat.mul_le_mul_right _ i.1
 rw [Nat.add_mul] at this
 have := i.2
 omega
def turnP (h a b c d : Nat) (p : Nat × Nat) : Nat × Nat := rnd h d (rnd h c (rnd h b (rnd h a p)))
def backP (h a b c d : Nat) (p : Nat × Nat) : Nat × Nat := unr h a (unr h b (unr h c (unr h d p)))
def turnN (h a b c d n : Nat) : Nat := enc h (turnP h a b c d (dec h n))
def backN (h a b c d n : Nat) : Nat := enc h (backP h a b c d (dec h n))
theorem turn_perm (h a b c d : Nat) : Perm2 (turnN h a b c d) (backN h a b c d) (2 ^ h * 2 ^ h) where
 lt := fun x hx => enc_lt (rnd_in (rnd_in (rnd_in (rnd_in (dec_in hx)))))
 back := fun x hx => by
  unfold turnN backN
  rw [dec_enc (p := turnP h a b c d (dec h x)) (rnd_in (rnd_in (rnd_in (rnd_in (dec_in hx)))))]
  unfold turnP backP
  rw [unr_rnd, unr_rnd, unr_rnd, unr_rnd, enc_dec]
def halfN (m : Nat) : Nat := if m ≤ 4 then 1 else if m ≤ 16 then 2 else if m ≤ 64 then 3 else if m ≤ 256 then 4 else if m ≤ 1024 then 5 else if m ≤ 4096 then 6 else 7
theorem halfN_le {m : Nat} (h : m ≤ 8192) : 1 ≤ halfN m ∧ halfN m ≤ 7 ∧ m ≤ 2 ^ halfN m * 2 ^ halfN m := by
 unfold halfN
 (repeat' split) <;> (refine ⟨by omega, by omega, ?_⟩; omega)
def keyN (key j : Nat) : Nat := key / 2 ^ (16 * j) % 65536
end Go.Gb
namespace Go.Gb
structure Lin (w : Nat) (F : Nat → Nat) : Prop where
 lt : ∀ x, x < 2 ^ w → F x < 2 ^ w
 xor : ∀ a b, a < 2 ^ w → b < 2 ^ w → F (a ^^^ b) = F a ^^^ F b
 inj : ∀ x, x < 2 ^ w → F x = 0 → x = 0
theorem Lin.iter {w : Nat} {F : Nat → Nat} (l : Lin w F) : ∀ n, Lin w (Go.Gb.iter F n) := by
 intro n
 induction n with
 | zero => exact ⟨fun x h => h, fun a b _ _ => rfl, fun x _ h => h⟩
 | succ n ih =>
  exact ⟨fun x h => ih.lt _ (l.lt x h), fun a b ha hb => by
   show Go.Gb.iter F n (F (a ^^^ b)) = Go.Gb.iter F n (F a) ^^^ Go.Gb.iter F n (F b)
   rw [l.xor a b ha hb, ih.xor _ _ (l.lt a ha) (l.lt b hb)], fun x hx h => l.inj x hx (ih.inj _ (l.lt x hx) h)⟩
theorem xor_lt {w a b : Nat} (ha : a < 2 ^ w) (hb : b < 2 ^ w) : a ^^^ b < 2 ^ w := Nat.xor_lt_two_pow ha hb
theorem xor_cancel {a b : Nat} (h : a ^^^ b = 0) : a = b := by
 have : a ^^^ b ^^^ b = 0 ^^^ b := by rw [h]
 rw [Nat.xor_assoc, Nat.xor_self, Nat.xor_zero, Nat.zero_xor] at this
 exact this
theorem Lin.eq {w : Nat} {F : Nat → Nat} (l : Lin w F) {a b : Nat} (ha : a < 2 ^ w) (hb : b < 2 ^ w) (h : F a = F b) : a = b := by
 apply xor_cancel
 apply l.inj _ (xor_lt ha hb)
 rw [l.xor a b ha hb, h, Nat.xor_self]
def chk (F e : Nat → Nat) (r : Nat) (bs : List UInt8) : Nat := bs.foldl (fun r b => F (r ^^^ e b.toNat)) r
theorem chk_cons (F e : Nat → Nat) (r : Nat) (b : UInt8) (bs : List UInt8) : chk F e r (b :: bs) = chk F e (F (r ^^^ e b.toNat)) bs := rfl
structure Into (w : Nat) (e : Nat → Nat) : Prop where
 lt : ∀ x, x < 256 → e x < 2 ^ w
 xor : ∀ a b, a < 256 → b < 256 → e (a ^^^ b) = e a ^^^ e b
 inj : ∀ x, x < 256 → e x = 0 → x = 0
theorem byte_lt (b : UInt8) : b.toNat < 256 := b.toNat_lt
theorem chk_lt {w : Nat} {F e : Nat → Nat} (l : Lin w F) (i : Into w e) : ∀ (bs : List UInt8) (r : Nat), r < 2 ^ w → chk F e r bs < 2 ^ w := by
 intro bs
 induction bs with
 | nil => intro r h; exact h
 | cons b bs ih => intro r h; exact ih _ (l.lt _ (xor_lt h (i.lt _ (byte_lt b))))
theorem Into.eq {w : Nat} {e : Nat → Nat} (i : Into w e) {a b : Nat} (ha : a < 256) (hb : b < 256) (h : e a = e b) : a = b := by
 apply xor_cancel
 apply i.inj _ (xor_lt (w := 8) ha hb)
 rw [i.xor a b ha hb, h, Nat.xor_self]
theorem xor_swap3 (a b c x y z : Nat) : a ^^^ b ^^^ c ^^^ (x ^^^ y ^^^ z) = (a ^^^ x) ^^^ (b ^^^ y) ^^^ (c ^^^ z) := by
 apply Nat.eq_of_testBit_eq
 intro i
 simp only [Nat.testBit_xor]
 cases a.testBit i <;> cases b.testBit i <;> cases c.testBit i <;> cases x.testBit i <;> cases y.testBit i <;> cases z.testBit i <;> rfl
def c16 (r : Nat) : Nat := (2 * r % 65536) ^^^ (if r.testBit 15 then 4129 else 0)
def c32 (r : Nat) : Nat := (r / 2) ^^^ (if r.testBit 0 then 2197175160 else 0)
theorem if_xor (a b : Bool) (P : Nat) : (if (a ^^ b) = true then P else 0) = (if a = true then P else 0) ^^^ (if b = true then P else 0) := by
 cases a <;> cases b <;> simp
theorem c16_lin : Lin 16 c16 where
 lt := fun x _ => by
  unfold c16
  exact xor_lt (Nat.mod_lt _ (by omega)) (by split <;> omega)
 xor := fun a b _ _ => by
  unfold c16
  rw [Nat.testBit_xor, if_xor]
  have e : 2 * (a ^^^ b) % 65536 = (2 * a % 65536) ^^^ (2 * b % 65536) := by
   apply Nat.eq_of_testBit_eq
   intro i
   have h2 : ∀ x, (2 * x % 65536).testBit i = (decide (i < 16) && (decide (i ≥ 1) && x.testBit (i - 1))) := by
    intro x
    rw [show 2 * x = x * 2 ^ 1 by omega, show (65536 : Nat) = 2 ^ 16 from rfl, Nat.testBit_mod_two_pow, Nat.testBit_mul_two_pow]
   rw [Nat.testBit_xor, h2, h2, h2, Nat.testBit_xor]
   cases decide (i < 16) <;> cases decide (i ≥ 1) <;> simp
  rw [e]
  have := xor_swap3 (2 * a % 65536) (2 * b % 65536) 0 (if a.testBit 15 = true then 4129 else 0) (if b.testBit 15 = true then 4129 else 0) 0
  simpa using this
 inj := fun x hx h => by
  unfold c16 at h
  have e := xor_cancel h
  split at e
  ·omega
  ·rename_i hb
   have h15 : x.testBit 15 = false := by simpa using hb
   rw [Nat.testBit_eq_decide_div_mod_eq] at h15
   simp at h15
   omega
theorem c32_lin : Lin 32 c32 where
 lt := fun x hx => by
  unfold c32
  exact xor_lt (by omega) (by split <;> omega)
 xor := fun a b _ _ => by
  unfold c32
  rw [Nat.testBit_xor, if_xor]
  have e : (a ^^^ b) / 2 = (a / 2) ^^^ (b / 2) := by
   apply Nat.eq_of_testBit_eq
   intro i
   have h2 : ∀ x, (x / 2).testBit i = x.testBit (i + 1) := by
    intro x
    rw [show x / 2 = x / 2 ^ 1 from rfl, Nat.testBit_div_two_pow]
   rw [Nat.testBit_xor, h2, h2, h2, Nat.testBit_xor]
  rw [e]
  have := xor_swap3 (a / 2) (b / 2) 0 (if a.testBit 0 = true then 2197175160 else 0) (if b.testBit 0 = true then 2197175160 else 0) 0
  simpa using this
 inj := fun x hx h => by
  unfold c32 at h
  have e := xor_cancel h
  split at e
  ·omega
  ·rename_i hb
   have h15 : x.testBit 0 = false := by simpa using hb
   rw [Nat.testBit_eq_decide_div_mod_eq] at h15
   simp at h15
   omega
theorem into16 : Into 16 (fun b => b * 256) where
 lt := fun x h => by show x * 256 < 65536; omega
 xor := fun a b _ _ => by
  apply Nat.eq_of_testBit_eq
  intro i
  rw [show (256 : Nat) = 2 ^ 8 from rfl]
  simp only [Nat.testBit_xor, Nat.testBit_mul_two_pow]
  cases decide (i ≥ 8) <;> simp
 inj := fun x _ h => by
  have h : x * 256 = 0 := h
  omega
theorem into32 : Into 32 (fun b => b) where
 lt := fun x h => by show x < 4294967296; omega
 xor := fun a b _ _ => rfl
 inj := fun x _ h => h
def sum16 (bs : List UInt8) : Nat := chk (iter c16 8) (fun b => b * 256) 65535 bs
def sum32 (bs : List UInt8) : Nat := chk (iter c32 8) (fun b => b) 4294967295 bs ^^^ 4294967295
theorem sum16_lt (bs : List UInt8) : sum16 bs < 65536 := chk_lt (c16_lin.iter 8) into16 bs 65535 (by omega)
theorem sum32_lt (bs : List UInt8) : sum32 bs < 4294967296 := xor_lt (w := 32) (chk_lt (c32_lin.iter 8) into32 bs 4294967295 (by omega)) (by omega)
end Go.Gb
