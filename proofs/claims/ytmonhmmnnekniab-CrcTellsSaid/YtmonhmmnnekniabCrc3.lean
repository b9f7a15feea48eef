/- Own text for the seat: Crc3. -/
import Derived.Test.YtmonhmmnnekniabCrc2
set_option linter.unusedVariables false
set_option linter.unusedSimpArgs false
set_option linter.unnecessarySimpa false
set_option linter.deprecated false
namespace Go.Gb
open Go.Proofs IntWalk

/-! ## crc: the two ways are one -/

theorem Bit.nat {x : Int} (h : Bit x) : ∃ b : Bool, x = (b.toNat : Int) := by
  rcases h with rfl | rfl
  · exact ⟨false, rfl⟩
  · exact ⟨true, rfl⟩

theorem bit_bool (b : Bool) : Bit (b.toNat : Int) := by cases b; exact .inl rfl; exact .inr rfl

theorem out_xor (a b : Bool) : (((a.toNat : Int) + (b.toNat : Int)) % 2 = 1) ↔ (a ^^ b) = true := by cases a <;> cases b <;> simp
theorem add_xor (a b : Bool) : ((a.toNat : Int) + (b.toNat : Int)) % 2 = ((a ^^ b).toNat : Int) := by cases a <;> cases b <;> rfl

/-! sixteen bits -/

def reg16 (R j : Nat) : Int := ((R.testBit (15 - j)).toNat : Int)
def t16 : Nat → Int := reg16 4129
def Rel16 (r : Nat → Int) (R : Nat) : Prop := R < 65536 ∧ ∀ j, j < 16 → r j = reg16 R j

theorem c16_test (R i : Nat) : (c16 R).testBit i = ((decide (i < 16) && (decide (1 ≤ i) && R.testBit (i - 1))) ^^ (R.testBit 15 && (4129 : Nat).testBit i)) := by
  unfold c16
  rw [Nat.testBit_xor]
  congr 1
  · rw [show 2 * R = R * 2 ^ 1 by omega, show (65536 : Nat) = 2 ^ 16 from rfl, Nat.testBit_mod_two_pow, Nat.testBit_mul_two_pow]
  · cases R.testBit 15 <;> simp

theorem top_test (b : Bool) (i : Nat) : (b.toNat * 32768).testBit i = (b && decide (i = 15)) := by
  cases b with
  | false => simp
  | true =>
    rw [show true.toNat * 32768 = 2 ^ 15 from rfl, Nat.testBit_two_pow]
    simp [eq_comm]

theorem rel16_step {r : Nat → Int} {R : Nat} (h : Rel16 r R) (b : Bool) : Rel16 (refS 16 t16 r (b.toNat : Int)) (c16 (R ^^^ b.toNat * 32768)) := by
  have hx : R ^^^ b.toNat * 32768 < 65536 := xor_lt (w := 16) h.1 (by cases b <;> decide)
  refine ⟨c16_lin.lt _ hx, fun j hj => ?_⟩
  have h0 := h.2 0 (by omega)
  have e15 : (R ^^^ b.toNat * 32768).testBit 15 = (R.testBit 15 ^^ b) := by rw [Nat.testBit_xor, top_test]; simp
  have hsh : shiftF 16 r j = ((decide (15 - j < 16) && (decide (1 ≤ 15 - j) && (R ^^^ b.toNat * 32768).testBit (15 - j - 1))).toNat : Int) := by
    unfold shiftF
    by_cases h1 : j + 1 < 16
    · rw [if_pos h1, h.2 _ h1]
      unfold reg16
      rw [Nat.testBit_xor, top_test, show 15 - (j + 1) = 15 - j - 1 by omega]
      have : decide (15 - j - 1 = 15) = false := by simp; omega
      rw [this]
      simp [show 15 - j < 16 by omega, show 1 ≤ 15 - j by omega]
    · rw [if_neg h1]
      simp [show ¬ 1 ≤ 15 - j by omega]
  unfold refS
  rw [hsh, h0]
  unfold reg16 t16
  simp only [show 15 - 0 = 15 from rfl]
  rw [c16_test, e15]
  by_cases ho : (((R.testBit 15).toNat : Int) + (b.toNat : Int)) % 2 = 1
  · rw [if_pos ho, (out_xor _ _).1 ho]
    unfold reg16
    rw [add_xor]; simp
  · rw [if_neg ho]
    have : (R.testBit 15 ^^ b) = false := by
      cases hq : (R.testBit 15 ^^ b) with
      | false => rfl
      | true => exact absurd ((out_xor _ _).2 hq) ho
    rw [this]; simp

theorem bit_toNat (n k : Nat) : n / 2 ^ k % 2 = (n.testBit k).toNat := by
  rw [Nat.testBit_eq_decide_div_mod_eq]
  rcases Nat.mod_two_eq_zero_or_one (n / 2 ^ k) with h | h <;> simp [h]

/-- What of a byte is to come still. -/
theorem rest16 {b k : Nat} (hb : b < 256) (hk : k < 8) : c16 ((b * 2 ^ (8 + k) % 65536) ^^^ (b.testBit (7 - k)).toNat * 32768) = b * 2 ^ (8 + (k + 1)) % 65536 := by
  have ht : ∀ i, (b * 2 ^ (8 + k) % 65536).testBit i = (decide (i < 16) && (decide (8 + k ≤ i) && b.testBit (i - (8 + k)))) := by
    intro i
    rw [show (65536 : Nat) = 2 ^ 16 from rfl, Nat.testBit_mod_two_pow, Nat.testBit_mul_two_pow]
  apply Nat.eq_of_testBit_eq
  intro i
  rw [c16_test, Nat.testBit_xor, Nat.testBit_xor, top_test, top_test, ht, ht]
  rw [show (65536 : Nat) = 2 ^ 16 from rfl, Nat.testBit_mod_two_pow, Nat.testBit_mul_two_pow]
  have e1 : (decide (15 < 16) && (decide (8 + k ≤ 15) && b.testBit (15 - (8 + k))) ^^ (b.testBit (7 - k) && decide (15 = 15))) = false := by
    rw [show 15 - (8 + k) = 7 - k by omega]; simp [show 8 + k ≤ 15 by omega]
  rw [e1]
  by_cases h1 : i < 16
  · by_cases h2 : 1 ≤ i
    · have e3 : decide (i - 1 = 15) = false := by simp; omega
      rw [e3]
      have e4 : decide (8 + k ≤ i - 1) = decide (8 + (k + 1) ≤ i) := by rw [decide_eq_decide]; omega
      rw [e4, show i - 1 - (8 + k) = i - (8 + (k + 1)) by omega]
      simp [h1, h2, show i - 1 < 16 by omega]
    · have : decide (8 + (k + 1) ≤ i) = false := by simp; omega
      simp [h2, this]
  · simp [h1]

theorem rel16_byte {r : Nat → Int} {R : Nat} (h : Rel16 r R) (b : UInt8) : Rel16 ((tab 8 fun k => (bitAt false b.toNat k : Nat)).foldl (refS 16 t16) r) (iter c16 8 (R ^^^ b.toNat * 256)) := by
  have hb := byte_lt b
  have hx : R ^^^ b.toNat * 256 < 65536 := xor_lt (w := 16) h.1 (by omega)
  have key : ∀ k, k ≤ 8 → Rel16 ((tab k fun k => (bitAt false b.toNat k : Nat)).foldl (refS 16 t16) r) (iter c16 k (R ^^^ b.toNat * 256) ^^^ (b.toNat * 2 ^ (8 + k) % 65536)) := by
    intro k
    induction k with
    | zero =>
      intro _
      have : R ^^^ b.toNat * 256 ^^^ (b.toNat * 2 ^ (8 + 0) % 65536) = R := by
        rw [show b.toNat * 2 ^ (8 + 0) % 65536 = b.toNat * 256 by omega, Nat.xor_assoc, Nat.xor_self, Nat.xor_zero]
      show Rel16 r (R ^^^ b.toNat * 256 ^^^ (b.toNat * 2 ^ (8 + 0) % 65536))
      rw [this]; exact h
    | succ k ih =>
      intro hk
      have hs := rel16_step (ih (by omega)) (b.toNat.testBit (7 - k))
      rw [← tab_snoc, List.foldl_append, List.foldl_cons, List.foldl_nil]
      have e0 : ((bitAt false b.toNat k : Nat) : Int) = ((b.toNat.testBit (7 - k)).toNat : Int) := by
        unfold bitAt; rw [if_neg (by simp), bit_toNat]
      rw [e0]
      have hi := (c16_lin.iter k).lt _ hx
      have hm : b.toNat * 2 ^ (8 + k) % 65536 < 2 ^ 16 := Nat.mod_lt _ (by omega)
      have htp : (b.toNat.testBit (7 - k)).toNat * 32768 < 2 ^ 16 := by cases b.toNat.testBit (7 - k) <;> decide
      rw [Nat.xor_assoc, c16_lin.xor _ _ hi (xor_lt hm htp), rest16 hb (by omega), ← iter_succ c16] at hs
      exact hs
  have := key 8 (by omega)
  rw [show b.toNat * 2 ^ (8 + 8) % 65536 = 0 by omega, Nat.xor_zero] at this
  exact this

theorem rel16_all : ∀ (bs : List UInt8) {r : Nat → Int} {R : Nat}, Rel16 r R → Rel16 ((bitsL false bs).foldl (refS 16 t16) r) (chk (iter c16 8) (fun b => b * 256) R bs) := by
  intro bs
  induction bs with
  | nil => intro r R h; exact h
  | cons b bs ih =>
    intro r R h
    unfold bitsL
    rw [List.flatMap_cons, List.foldl_append, chk_cons]
    exact ih (rel16_byte h b)

/-- The number of a table of bits. -/
theorem numL_tab {w R : Nat} (hR : R < 2 ^ w) : numL (tab w fun k => ((R.testBit (w - 1 - k)).toNat : Int)) = R := by
  have key : ∀ k, k ≤ w → numL (tab k fun k => ((R.testBit (w - 1 - k)).toNat : Int)) = R / 2 ^ (w - k) := by
    intro k
    induction k with
    | zero => intro _; rw [Nat.sub_zero, Nat.div_eq_of_lt hR]; rfl
    | succ k ih =>
      intro hk
      have e := ih (by omega)
      unfold numL at e ⊢
      rw [← tab_snoc, List.foldl_append, List.foldl_cons, List.foldl_nil, e, Int.toNat_natCast, ← bit_toNat, show w - k = w - 1 - k + 1 by omega, show w - (k + 1) = w - 1 - k by omega, Nat.pow_succ, ← Nat.div_div_eq_div_mul]
      omega
  have := key w (by omega)
  rw [Nat.sub_self, Nat.pow_zero, Nat.div_one] at this
  exact this

theorem gabionref02_Sum16.c {s : ByteArray} {h : Heap} {Q : Value → Heap → Prop} (hs : s.size ≤ 400) (hq : ∀ h', Part h h' → Q (.int .u64 (sum16 s.data.toList)) h') : C Try.prog 13 #[.string s] h Q := by
  apply gabionref02_Sum16.ok
  intro b hb
  refine gabionref02_bits.c hs fun a c h1 w1 => ⟨_, _, _, rfl, ?_⟩
  have hl : (bitsL false s.data.toList).length = 8 * s.size := by rw [bitsL_length]; simp
  rw [← hl]
  have hrel := rel16_all s.data.toList (r := fun _ => 1) (R := 65535) ⟨by omega, fun j hj => by
    unfold reg16
    have : ∀ j, j < 16 → (1 : Int) = (((65535 : Nat).testBit (15 - j)).toNat : Int) := by decide
    exact this j hj⟩
  have ht : tab 16 t16 = [0, 0, 0, 1, 0, 0, 0, 0, 0, 0, 1, 0, 0, 0, 0, 1] := by decide
  refine gabionref02_Sum.c (n := 16) (t := t16) (ls := bitsL false s.data.toList) (by omega) (by omega) (by omega) ?_ (fun j => bit_bool _) w1.reads ?_ (fun a2 c2 h2 w2 => ⟨_, _, _, rfl, ?_⟩)
  · intro x hx
    unfold bitsL at hx
    obtain ⟨y, _, hx⟩ := List.mem_flatMap.1 hx
    unfold tab at hx
    obtain ⟨k, _, rfl⟩ := List.mem_map.1 hx
    unfold Bit bitAt; omega
  · rw [ht]
    exact readsAt_part (readsAt_new 3 (ints .i64 [0, 0, 0, 1, 0, 0, 0, 0, 0, 0, 1, 0, 0, 0, 0, 1])) w1.part
  · have e : tab 16 ((bitsL false s.data.toList).foldl (refS 16 t16) fun _ => 1) = tab 16 fun k => (((sum16 s.data.toList).testBit (16 - 1 - k)).toNat : Int) := tab_congr fun j hj => hrel.2 j hj
    rw [e] at w2
    have hn := numL_tab (w := 16) (R := sum16 s.data.toList) (sum16_lt _)
    have key := gabionref02_number.c (a := a2) (c := c2) (ls := tab 16 fun k => (((sum16 s.data.toList).testBit (16 - 1 - k)).toNat : Int)) (h := h2) (Q := fun r h' => ∃ x, r = .int .u64 x ∧ Q (.int .u64 x) h') (by rw [tab_length]; omega) (by
      intro x hx
      unfold tab at hx
      obtain ⟨k, _, rfl⟩ := List.mem_map.1 hx
      exact bit_bool _) w2.reads ⟨_, rfl, by rw [hn]; exact hq h2 ((Part.upd hb _).trans (w1.part.trans w2.part))⟩
    rw [tab_length] at key
    exact key

/-! thirty-two bits -/

def reg32 (R j : Nat) : Int := ((R.testBit j).toNat : Int)
def t32 : Nat → Int := reg32 2197175160
def Rel32 (r : Nat → Int) (R : Nat) : Prop := R < 4294967296 ∧ ∀ j, j < 32 → r j = reg32 R j

theorem c32_test (R i : Nat) : (c32 R).testBit i = (R.testBit (i + 1) ^^ (R.testBit 0 && (2197175160 : Nat).testBit i)) := by
  unfold c32
  rw [Nat.testBit_xor]
  congr 1
  · rw [show R / 2 = R / 2 ^ 1 from rfl, Nat.testBit_div_two_pow]
  · cases R.testBit 0 <;> simp

theorem low_test (b : Bool) (i : Nat) : (b.toNat).testBit i = (b && decide (i = 0)) := by
  cases b with
  | false => simp
  | true => cases i <;> simp [Nat.testBit_succ]

theorem rel32_step {r : Nat → Int} {R : Nat} (h : Rel32 r R) (b : Bool) : Rel32 (refS 32 t32 r (b.toNat : Int)) (c32 (R ^^^ b.toNat)) := by
  have hx : R ^^^ b.toNat < 4294967296 := xor_lt (w := 32) h.1 (by cases b <;> decide)
  refine ⟨c32_lin.lt _ hx, fun j hj => ?_⟩
  have h0 := h.2 0 (by omega)
  have e15 : (R ^^^ b.toNat).testBit 0 = (R.testBit 0 ^^ b) := by rw [Nat.testBit_xor, low_test]; simp
  have hsh : shiftF 32 r j = (((R ^^^ b.toNat).testBit (j + 1)).toNat : Int) := by
    unfold shiftF
    rw [Nat.testBit_xor, low_test]
    by_cases h1 : j + 1 < 32
    · rw [if_pos h1, h.2 _ h1]
      unfold reg32
      simp
    · rw [if_neg h1]
      have : R.testBit (j + 1) = false := Nat.testBit_lt_two_pow (Nat.lt_of_lt_of_le h.1 (Nat.pow_le_pow_right (n := 2) (by omega) (by omega : 32 ≤ j + 1)))
      rw [this]; simp
  unfold refS
  rw [hsh, h0]
  unfold reg32 t32
  rw [c32_test, e15]
  by_cases ho : (((R.testBit 0).toNat : Int) + (b.toNat : Int)) % 2 = 1
  · rw [if_pos ho, (out_xor _ _).1 ho]
    unfold reg32
    rw [add_xor]; simp
  · rw [if_neg ho]
    have : (R.testBit 0 ^^ b) = false := by
      cases hq : (R.testBit 0 ^^ b) with
      | false => rfl
      | true => exact absurd ((out_xor _ _).2 hq) ho
    rw [this]; simp

theorem rest32 (y : Nat) : c32 (y ^^^ (y.testBit 0).toNat) = y / 2 := by
  apply Nat.eq_of_testBit_eq
  intro i
  rw [c32_test, Nat.testBit_xor, Nat.testBit_xor, low_test, low_test, show y / 2 = y / 2 ^ 1 from rfl, Nat.testBit_div_two_pow]
  simp

theorem rel32_byte {r : Nat → Int} {R : Nat} (h : Rel32 r R) (b : UInt8) : Rel32 ((tab 8 fun k => (bitAt true b.toNat k : Nat)).foldl (refS 32 t32) r) (iter c32 8 (R ^^^ b.toNat)) := by
  have hb := byte_lt b
  have hx : R ^^^ b.toNat < 4294967296 := xor_lt (w := 32) h.1 (by omega)
  have key : ∀ k, k ≤ 8 → Rel32 ((tab k fun k => (bitAt true b.toNat k : Nat)).foldl (refS 32 t32) r) (iter c32 k (R ^^^ b.toNat) ^^^ (b.toNat / 2 ^ k)) := by
    intro k
    induction k with
    | zero =>
      intro _
      have : R ^^^ b.toNat ^^^ (b.toNat / 2 ^ 0) = R := by
        rw [Nat.pow_zero, Nat.div_one, Nat.xor_assoc, Nat.xor_self, Nat.xor_zero]
      show Rel32 r (R ^^^ b.toNat ^^^ (b.toNat / 2 ^ 0))
      rw [this]; exact h
    | succ k ih =>
      intro hk
      have hs := rel32_step (ih (by omega)) (b.toNat.testBit k)
      rw [← tab_snoc, List.foldl_append, List.foldl_cons, List.foldl_nil]
      have e0 : ((bitAt true b.toNat k : Nat) : Int) = ((b.toNat.testBit k).toNat : Int) := by
        unfold bitAt; rw [if_pos rfl, bit_toNat]
      rw [e0]
      have hi := (c32_lin.iter k).lt _ hx
      have hm : b.toNat / 2 ^ k < 2 ^ 32 := Nat.lt_of_le_of_lt (Nat.div_le_self _ _) (by omega)
      have htp : (b.toNat.testBit k).toNat < 2 ^ 32 := by cases b.toNat.testBit k <;> decide
      have e1 : b.toNat.testBit k = (b.toNat / 2 ^ k).testBit 0 := by rw [Nat.testBit_div_two_pow, Nat.zero_add]
      rw [Nat.xor_assoc, c32_lin.xor _ _ hi (xor_lt hm htp), ← iter_succ c32] at hs
      rw [e1] at hs ⊢
      rw [rest32, Nat.div_div_eq_div_mul, ← Nat.pow_succ] at hs
      exact hs
  have := key 8 (by omega)
  rw [show b.toNat / 2 ^ 8 = 0 by omega, Nat.xor_zero] at this
  exact this

theorem rel32_all : ∀ (bs : List UInt8) {r : Nat → Int} {R : Nat}, Rel32 r R → Rel32 ((bitsL true bs).foldl (refS 32 t32) r) (chk (iter c32 8) (fun b => b) R bs) := by
  intro bs
  induction bs with
  | nil => intro r R h; exact h
  | cons b bs ih =>
    intro r R h
    unfold bitsL
    rw [List.flatMap_cons, List.foldl_append, chk_cons]
    exact ih (rel32_byte h b)

theorem gabionref02_Sum32.c {s : ByteArray} {h : Heap} {Q : Value → Heap → Prop} (hs : s.size ≤ 400) (hq : ∀ h', Part h h' → Q (.int .u64 (sum32 s.data.toList)) h') : C Try.prog 15 #[.string s] h Q := by
  apply gabionref02_Sum32.ok
  have hrel := rel32_all s.data.toList (r := fun _ => 1) (R := 4294967295) ⟨by omega, fun j hj => by
    unfold reg32
    have : ∀ j, j < 32 → (1 : Int) = (((4294967295 : Nat).testBit j).toNat : Int) := by decide
    exact this j hj⟩
  generalize hR : chk (iter c32 8) (fun b => b) 4294967295 s.data.toList = R at hrel
  have hsum : sum32 s.data.toList = R ^^^ 4294967295 := by rw [← hR]; rfl
  rw [hsum] at hq
  have l12 : ∀ (a : Option Addr) (c : Nat) (h2 : Heap) (hp : Part h h2) (hr : readsAt h2 a (ints .i64 (tab 32 (reg32 R)))) (j k : Nat) (a' : Option Addr) (c' : Nat) (h3 : Heap), k + j = 32 →
      Own h2 h3 3 1 a' k c' (ints .i64 (tab k fun k => (((R ^^^ 4294967295).testBit (32 - 1 - k)).toNat : Int))) → gabionref02_Sum32.L12 a 32 c a' k c' k h3 Q := by
    intro a c h2 hp hr j
    induction j with
    | zero =>
      intro k a' c' h3 hk w
      obtain rfl : k = 32 := by omega
      apply gabionref02_Sum32.L12.ok
      refine xsIf_f (by simp) ?_
      have hn := numL_tab (w := 32) (R := R ^^^ 4294967295) (xor_lt hrel.1 (by omega))
      have key := gabionref02_number.c (a := a') (c := c') (ls := tab 32 fun k => (((R ^^^ 4294967295).testBit (32 - 1 - k)).toNat : Int)) (h := h3) (Q := fun r h' => ∃ x, r = .int .u64 x ∧ Q (.int .u64 x) h') (by rw [tab_length]; omega) (by
        intro x hx
        unfold tab at hx
        obtain ⟨k, _, rfl⟩ := List.mem_map.1 hx
        exact bit_bool _) w.reads ⟨_, rfl, by rw [hn]; exact hq h3 (hp.trans w.part)⟩
      rw [tab_length] at key
      exact key
    | succ j ih =>
      intro k a' c' h3 hk w
      apply gabionref02_Sum32.L12.ok
      unfold gabionref02_Sum32.L12.wp
      rw [i64_in (31 - (k : Int)) (by omega), show (31 : Int) - (k : Int) = ((31 - k : Nat) : Int) by omega]
      refine xsIf_t (by simp; omega) ⟨by omega, reads_ints (i := 31 - k) (readsAt_part hr w.part) (by rw [tab_length]; omega) fun b o hc => ⟨_, by rw [Int.toNat_natCast]; exact hc (31 - k) _ (tab_get _ (by omega)), fun b1 hb1 => ?_⟩⟩
      have hbit := bit_bool (R.testBit (31 - k))
      unfold Bit at hbit
      unfold reg32
      rw [i64_in _ (by omega), i64_in _ (by omega)]
      have e : (1 : Int) - ((R.testBit (31 - k)).toNat : Int) = (((R ^^^ 4294967295).testBit (32 - 1 - k)).toNat : Int) := by
        rw [Nat.testBit_xor, show (4294967295 : Nat) = 2 ^ 32 - 1 from rfl, Nat.testBit_two_pow_sub_one, show 32 - 1 - k = 31 - k by omega]
        simp only [show 31 - k < 32 by omega, decide_true]
        cases R.testBit (31 - k) <;> rfl
      rw [e]
      refine w.isnoc hb1 int_cells.1 (by rw [int_cells.2.1]; rfl) (by rw [int_cells.2.2]; omega) fun a'' c'' h' w' => ?_
      rw [tab_snoc k fun k => (((R ^^^ 4294967295).testBit (32 - 1 - k)).toNat : Int)] at w'
      exact ih (k + 1) a'' c'' h' (by omega) w'
  have l4 : ∀ (j k : Nat) (a' : Option Addr) (c' : Nat) (h3 : Heap), k + j = 32 → Own h h3 3 1 a' k c' (ints .i64 (tab k t32)) → gabionref02_Sum32.L4 s 2197175160 a' k c' k h3 Q := by
    intro j
    induction j with
    | zero =>
      intro k a' c' h3 hk w
      obtain rfl : k = 32 := by omega
      apply gabionref02_Sum32.L4.ok
      refine xsIf_f (by simp) ?_
      apply gabionref02_Sum32.J8.ok
      refine gabionref02_bits.c hs fun a c h1 w1 => ⟨_, _, _, rfl, ?_⟩
      have hl : (bitsL true s.data.toList).length = 8 * s.size := by rw [bitsL_length]; simp
      rw [← hl]
      refine gabionref02_Sum.c (n := 32) (t := t32) (ls := bitsL true s.data.toList) (by omega) (by omega) (by omega) ?_ (fun j => bit_bool _) w1.reads (readsAt_part w.reads w1.part) (fun a2 c2 h2 w2 => ⟨_, _, _, rfl, ?_⟩)
      · intro x hx
        unfold bitsL at hx
        obtain ⟨y, _, hx⟩ := List.mem_flatMap.1 hx
        unfold tab at hx
        obtain ⟨k, _, rfl⟩ := List.mem_map.1 hx
        unfold Bit bitAt; omega
      · have e : tab 32 ((bitsL true s.data.toList).foldl (refS 32 t32) fun _ => 1) = tab 32 (reg32 R) := tab_congr fun j hj => hrel.2 j hj
        rw [e] at w2
        exact l12 a2 c2 h2 (w.part.trans (w1.part.trans w2.part)) w2.reads 32 0 none 0 h2 (by omega) (Own.nil (Part.refl h2))
    | succ j ih =>
      intro k a' c' h3 hk w
      apply gabionref02_Sum32.L4.ok
      refine xsIf_t (by simp; omega) ?_
      refine gabionref01_Field.c (w := 2197175160) (by omega) ⟨_, rfl, fun b1 hb1 => ?_⟩
      have e : ((fieldV 2197175160 (k : Int) 1 : Nat) : Int) = t32 k := by
        rw [field_bit (by omega), bit_toNat]; rfl
      have ht : t32 k = 0 ∨ t32 k = 1 := bit_bool _
      rw [e, i64_in (t32 k) (by omega)]
      refine w.isnoc hb1 int_cells.1 (by rw [int_cells.2.1]; rfl) (by rw [int_cells.2.2]; omega) fun a'' c'' h' w' => ?_
      rw [tab_snoc k t32] at w'
      rw [i64_in _ (by omega)]
      exact ih (k + 1) a'' c'' h' (by omega) w'
  exact l4 32 0 none 0 h (by omega) (Own.nil (Part.refl h))

theorem gabionref02_Guard.c {n : Nat} {h : Heap} {Q : Value → Heap → Prop} (hn : n < 18446744073709551616) (hq : ∀ h', Part h h' → Q (.int .u64 (guardN n)) h') : C Try.prog 16 #[.int .u64 n] h Q := by
  apply gabionref02_Guard.ok
  unfold gabionref02_Guard.wp
  rw [show (281474976710656 : Int) = ((281474976710656 : Nat) : Int) from rfl, irem_nat]
  refine gabionref01_Put.c (by omega) ⟨_, rfl, ?_⟩
  refine gabionref02_Sum16.c (by rw [put_size]; decide) fun h' hp => ⟨_, rfl, ?_⟩
  have hl := sum16_lt (putL (n % 281474976710656) (cnt 6))
  have e : (65535 : Int) - ((sum16 (⟨(putL (n % 281474976710656) (cnt 6)).toArray⟩ : ByteArray).data.toList : Nat) : Int) = ((checkN (n % 281474976710656) : Nat) : Int) := by
    show (65535 : Int) - ((sum16 (putL (n % 281474976710656) (cnt 6)) : Nat) : Int) = ((65535 - sum16 (putL (n % 281474976710656) (cnt 6)) : Nat) : Int)
    omega
  have hc := checkN_lt (n % 281474976710656)
  rw [e, u64_nat' (by omega), ← Int.natCast_mul, u64_nat' (by omega), ← Int.natCast_add, u64_nat' (by omega)]
  exact hq h' hp

end Go.Gb
