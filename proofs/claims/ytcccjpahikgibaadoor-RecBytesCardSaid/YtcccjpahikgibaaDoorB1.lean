/- Own texts for the seat: G9 Crc0. -/
import Derived.Test.YtcccjpahikgibaaDoorA7
set_option linter.unusedVariables false
set_option linter.unusedSimpArgs false
set_option linter.unnecessarySimpa false
set_option linter.deprecated false
namespace Go.Gb

/-! ## feistel: the plain law -/

/-- f so many times. -/
def iter (f : Nat → Nat) : Nat → Nat → Nat
  | 0, x => x
  | n + 1, x => iter f n (f x)

theorem iter_succ (f : Nat → Nat) (n : Nat) : ∀ x, iter f (n + 1) x = f (iter f n x) := by
  induction n with
  | zero => intro x; rfl
  | succ n ih => intro x; show iter f (n + 1) (f x) = _; rw [ih]; rfl

/-! The rounds. -/

def enc (h : Nat) (p : Nat × Nat) : Nat := p.1 * 2 ^ h + p.2
end Go.Gb
namespace Go.Gb

/-! ## crc: the plain law -/

/-- A step of a register of so many bits: linear, and it turns back. -/
structure Lin (w : Nat) (F : Nat → Nat) : Prop where
  lt : ∀ x, x < 2 ^ w → F x < 2 ^ w
  xor : ∀ a b, a < 2 ^ w → b < 2 ^ w → F (a ^^^ b) = F a ^^^ F b
  inj : ∀ x, x < 2 ^ w → F x = 0 → x = 0

theorem Lin.iter {w : Nat} {F : Nat → Nat} (l : Lin w F) : ∀ n, Lin w (Go.Gb.iter F n) := by
  intro n
  induction n with
  | zero => exact ⟨fun x h => h, fun a b _ _ => rfl, fun x _ h => h⟩
  | succ n ih =>
    exact ⟨fun x h => ih.lt _ (l.lt x h), fun a b ha hb => by
      show Go.Gb.iter F n (F (a ^^^ b)) = Go.Gb.iter F n (F a) ^^^ Go.Gb.iter F n (F b)
      rw [l.xor a b ha hb, ih.xor _ _ (l.lt a ha) (l.lt b hb)], fun x hx h => l.inj x hx (ih.inj _ (l.lt x hx) h)⟩

theorem xor_lt {w a b : Nat} (ha : a < 2 ^ w) (hb : b < 2 ^ w) : a ^^^ b < 2 ^ w := Nat.xor_lt_two_pow ha hb

theorem xor_cancel {a b : Nat} (h : a ^^^ b = 0) : a = b := by
  have : a ^^^ b ^^^ b = 0 ^^^ b := by rw [h]
  rw [Nat.xor_assoc, Nat.xor_self, Nat.xor_zero, Nat.zero_xor] at this
  exact this

theorem Lin.eq {w : Nat} {F : Nat → Nat} (l : Lin w F) {a b : Nat} (ha : a < 2 ^ w) (hb : b < 2 ^ w) (h : F a = F b) : a = b := by
  apply xor_cancel
  apply l.inj _ (xor_lt ha hb)
  rw [l.xor a b ha hb, h, Nat.xor_self]

/-- A check of bytes: each goes into the register, which then steps. -/
def chk (F e : Nat → Nat) (r : Nat) (bs : List UInt8) : Nat := bs.foldl (fun r b => F (r ^^^ e b.toNat)) r

theorem chk_cons (F e : Nat → Nat) (r : Nat) (b : UInt8) (bs : List UInt8) : chk F e r (b :: bs) = chk F e (F (r ^^^ e b.toNat)) bs := rfl
/-- How a byte goes in: linear, too. -/
structure Into (w : Nat) (e : Nat → Nat) : Prop where
  lt : ∀ x, x < 256 → e x < 2 ^ w
  xor : ∀ a b, a < 256 → b < 256 → e (a ^^^ b) = e a ^^^ e b
  inj : ∀ x, x < 256 → e x = 0 → x = 0

theorem byte_lt (b : UInt8) : b.toNat < 256 := b.toNat_lt

theorem chk_lt {w : Nat} {F e : Nat → Nat} (l : Lin w F) (i : Into w e) : ∀ (bs : List UInt8) (r : Nat), r < 2 ^ w → chk F e r bs < 2 ^ w := by
  intro bs
  induction bs with
  | nil => intro r h; exact h
  | cons b bs ih => intro r h; exact ih _ (l.lt _ (xor_lt h (i.lt _ (byte_lt b))))

theorem Into.eq {w : Nat} {e : Nat → Nat} (i : Into w e) {a b : Nat} (ha : a < 256) (hb : b < 256) (h : e a = e b) : a = b := by
  apply xor_cancel
  apply i.inj _ (xor_lt (w := 8) ha hb)
  rw [i.xor a b ha hb, h, Nat.xor_self]

/-- Three texts, added byte by byte. -/
theorem xor_swap3 (a b c x y z : Nat) : a ^^^ b ^^^ c ^^^ (x ^^^ y ^^^ z) = (a ^^^ x) ^^^ (b ^^^ y) ^^^ (c ^^^ z) := by
  apply Nat.eq_of_testBit_eq
  intro i
  simp only [Nat.testBit_xor]
  cases a.testBit i <;> cases b.testBit i <;> cases c.testBit i <;> cases x.testBit i <;> cases y.testBit i <;> cases z.testBit i <;> rfl

/-! ### the two registers -/

def c32 (r : Nat) : Nat := (r / 2) ^^^ (if r.testBit 0 then 2197175160 else 0)

theorem if_xor (a b : Bool) (P : Nat) : (if (a ^^ b) = true then P else 0) = (if a = true then P else 0) ^^^ (if b = true then P else 0) := by
  cases a <;> cases b <;> simp

theorem c32_lin : Lin 32 c32 where
  lt := fun x hx => by
    unfold c32
    exact xor_lt (by omega) (by split <;> omega)
  xor := fun a b _ _ => by
    unfold c32
    rw [Nat.testBit_xor, if_xor]
    have e : (a ^^^ b) / 2 = (a / 2) ^^^ (b / 2) := by
      apply Nat.eq_of_testBit_eq
      intro i
      have h2 : ∀ x, (x / 2).testBit i = x.testBit (i + 1) := by
        intro x
        rw [show x / 2 = x / 2 ^ 1 from rfl, Nat.testBit_div_two_pow]
      rw [Nat.testBit_xor, h2, h2, h2, Nat.testBit_xor]
    rw [e]
    have := xor_swap3 (a / 2) (b / 2) 0 (if a.testBit 0 = true then 2197175160 else 0) (if b.testBit 0 = true then 2197175160 else 0) 0
    simpa using this
  inj := fun x hx h => by
    unfold c32 at h
    have e := xor_cancel h
    split at e
    · omega
    · rename_i hb
      have h15 : x.testBit 0 = false := by simpa using hb
      rw [Nat.testBit_eq_decide_div_mod_eq] at h15
      simp at h15
      omega

theorem into32 : Into 32 (fun b => b) where
  lt := fun x h => by show x < 4294967296; omega
  xor := fun a b _ _ => rfl
  inj := fun x _ h => h

def sum32 (bs : List UInt8) : Nat := chk (iter c32 8) (fun b => b) 4294967295 bs ^^^ 4294967295

theorem sum32_lt (bs : List UInt8) : sum32 bs < 4294967296 := xor_lt (w := 32) (chk_lt (c32_lin.iter 8) into32 bs 4294967295 (by omega)) (by omega)

end Go.Gb
