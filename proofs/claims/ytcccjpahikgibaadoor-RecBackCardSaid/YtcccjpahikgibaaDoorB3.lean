/- Own texts for the seat: G2 G3 Crc1 Crc2 Crc3 Crc4. -/
import Derived.Test.YtcccjpahikgibaaDoorW
import Derived.Test.YtcccjpahikgibaaDoorA12
import Derived.Test.YtcccjpahikgibaaDoorA7
import Derived.Test.YtcccjpahikgibaaDoorB1
set_option linter.unusedVariables false
set_option linter.unusedSimpArgs false
set_option linter.unnecessarySimpa false
set_option linter.deprecated false
namespace Go.Gb
open Go.Proofs IntWalk


/-! ## le: the plain functions -/

def putL : Nat → Nat → List UInt8
  | _, 0 => []
  | n, k + 1 => UInt8.ofNat n :: putL (n / 256) k

def getL : List UInt8 → Nat
  | [] => 0
  | b :: r => b.toNat + 256 * getL r

theorem putL_length (k : Nat) : ∀ n, (putL n k).length = k := by
  induction k with
  | zero => intro n; rfl
  | succ k ih => intro n; simp [putL, ih]

theorem getL_put (k : Nat) : ∀ n, getL (putL n k) = n % 256 ^ k := by
  induction k with
  | zero => intro n; simp [putL, getL, Nat.mod_one]
  | succ k ih =>
    intro n
    simp only [putL, getL, ih]
    rw [Nat.pow_succ, Nat.mul_comm (256 ^ k) 256, Nat.mod_mul, UInt8.toNat_ofNat']

theorem getL_lt (l : List UInt8) : getL l < 256 ^ l.length := by
  induction l with
  | nil => simp [getL]
  | cons b r ih =>
    simp only [getL, List.length_cons, Nat.pow_succ]
    have := b.toNat_lt
    omega

theorem byteVals_snoc (bs : List UInt8) (n : Nat) : byteVals bs ++ [Value.int .u8 (IntKind.u8.wrap (n : Int))] = byteVals (bs ++ [UInt8.ofNat n]) := by
  unfold byteVals
  rw [List.map_append]
  congr 1

/-- Of a slice of bytes that the call owns: its string. -/
theorem Own.str {h0 h : Heap} {T : TypeId} {a : Option Addr} {n c : Nat} {bs : List UInt8} {K : ByteArray → Prop} (w : Own h0 h T 1 a n c (byteVals bs)) (hk : K ⟨bs.toArray⟩) : xsStr h a n K :=
  ⟨bs, by have := w.len; simpa [byteVals] using this, w.reads, hk⟩

theorem bytes_cells : cellSize Tryd.prog 5 = 1 ∧ (cellZero Tryd.prog 5).length = 1 ∧ cellBytes Tryd.prog 5 = 1 := ⟨by kernel_rfl, by kernel_rfl, by kernel_rfl⟩

/-- One byte more. -/
theorem Own.byte {h0 h : Heap} {a : Option Addr} {n c b1 v : Nat} {bs : List UInt8} {K : Option Addr → Nat → Nat → Heap → Prop} (w : Own h0 h 5 1 a n c (byteVals bs)) (hn : n ≤ 1000000) (hb : h b1 = none)
    (hk : ∀ a' c' h', Own h0 h' 5 1 a' (n + 1) c' (byteVals (bs ++ [UInt8.ofNat v])) → K a' (n + 1) c' h') :
    xsApp Tryd.prog 5 (upd h b1 (.cells #[.int .u8 (IntKind.u8.wrap (v : Int))] 5 (0, 0))) a n c (some ⟨b1, 0, none⟩) 1 K := by
  refine Own.append (m := 1) (new := [.int .u8 (IntKind.u8.wrap (v : Int))]) (w.keep (Part.upd hb _)) bytes_cells.1 (by omega) rfl rfl (readsAt_new 5 _) bytes_cells.2.1 (by rw [bytes_cells.2.2]; omega) ?_
  intro a' c' h' o
  rw [byteVals_snoc] at o
  exact hk _ _ _ o

theorem le_Put.L3.c {h0 : Heap} {Q : Value → Heap → Prop} {t8 : Int} (ht : t8 ≤ 8) : ∀ (j : Nat) (t9 : Int) (n : Nat) (bs : List UInt8) (a : Option Addr) (m c : Nat) (h : Heap),
    0 ≤ t9 → t9 + j = t8 → n < 18446744073709551616 → m ≤ t9 → Own h0 h 5 1 a m c (byteVals bs) → (∀ h', Part h0 h' → Q (.string ⟨(bs ++ putL n j).toArray⟩) h') →
    le_Put.L3 n a m c t8 t9 h Q := by
  intro j
  induction j with
  | zero =>
    intro t9 n bs a m c h h1 h2 hn hm w hq
    apply le_Put.L3.ok
    unfold le_Put.L3.wp
    refine xsIf_f (by simp; omega) ?_
    refine w.str ?_
    have := hq h w.part
    simpa [putL] using this
  | succ j ih =>
    intro t9 n bs a m c h h1 h2 hn hm w hq
    apply le_Put.L3.ok
    unfold le_Put.L3.wp
    refine xsIf_t (by simp; omega) ?_
    intro b1 hb1
    refine w.byte (by omega) hb1 ?_
    intro a' c' h' w'
    rw [show (8 : Int) = ((8 : Nat) : Int) from rfl, ishr_u64 (by omega), i64_in _ (by omega)]
    refine ih (t9 + 1) (n / 2 ^ 8) _ a' (m + 1) c' h' (by omega) (by omega) (by omega) (by omega) w' ?_
    intro h'' p
    have := hq h'' p
    simpa [putL] using this

/-- How many bytes. -/
def cnt (size : Int) : Nat := (min (max size 0) 8).toNat

theorem le_Put.c {n : Nat} {size : Int} {h : Heap} {Q : Value → Heap → Prop} (hn : n < 18446744073709551616) (hq : Q (.string ⟨(putL n (cnt size)).toArray⟩) h) : C Tryd.prog 36 #[.int .u64 n, .int .i64 size] h Q := by
  apply C.drop
  apply le_Put.ok
  unfold le_Put.wp
  rw [imin_eq, imax_eq]
  refine le_Put.L3.c (h0 := h) (by omega) (cnt size) 0 n [] none 0 0 h (by omega) ?_ hn (by omega) (Own.nil (Part.refl h)) ?_
  · unfold cnt; omega
  · intro h' p
    exact ⟨h, p, by simpa using hq⟩

/-- The number of the first eight bytes. -/
def get8 (s : ByteArray) : Nat := getL (s.data.toList.take 8)

theorem bget_get {s : ByteArray} {i : Nat} (h : i < s.size) : bget s i = some (s.data.toList[i]'(by simpa using h)) := by
  unfold bget
  simp [h]
  rfl

theorem take_succ_get {l : List UInt8} {i : Nat} (h : i < l.length) : l.drop i = l[i] :: l.drop (i + 1) := List.drop_eq_getElem_cons h

theorem le_Get.L3.c {s : ByteArray} {h : Heap} {Q : Value → Heap → Prop} (hq : Q (.int .u64 (get8 s)) h) : ∀ (j : Nat) (n : Nat), j ≤ 8 → j ≤ s.size → n = getL ((s.data.toList.take 8).drop j) →
    le_Get.L3 s n ((j : Int) - 1) h Q := by
  intro j
  induction j with
  | zero =>
    intro n _ _ hn
    apply le_Get.L3.ok
    refine xsIf_f (by simp) ?_
    rw [hn]; simpa [get8] using hq
  | succ j ih =>
    intro n h8 hs hn
    apply le_Get.L3.ok
    refine xsIf_t (by simp) ?_
    have hjs : j < s.size := by omega
    have hl : s.data.toList.length = s.size := by simp
    have hj : ((↑(j + 1) : Int) - 1).toNat = j := by omega
    refine ⟨_, by omega, by rw [hj]; exact bget_get hjs, ?_⟩
    have hlt := getL_lt ((s.data.toList.take 8).drop (j + 1))
    rw [← hn] at hlt
    have hlen : ((s.data.toList.take 8).drop (j + 1)).length ≤ 7 - j := by simp; omega
    have hn2 : n < 256 ^ (7 - j) := Nat.lt_of_lt_of_le hlt (Nat.pow_le_pow_right (by omega) hlen)
    have hn3 : n < 72057594037927936 := Nat.lt_of_lt_of_le hn2 (Nat.pow_le_pow_right (by omega) (show 7 - j ≤ 7 by omega))
    generalize hb : s.data.toList[j]'(by omega) = b
    have hbl := b.toNat_lt
    rw [show (8 : Int) = ((8 : Nat) : Int) from rfl, ishl_u64 (by omega), u64_nat' (by omega), Nat.mod_eq_of_lt (by omega), ior_u64 (by omega) (by omega), i64_in _ (by omega)]
    rw [show (↑(j + 1) : Int) - 1 - 1 = (j : Int) - 1 by omega]
    refine ih _ (by omega) (by omega) ?_
    have hdr : (s.data.toList.take 8).drop j = b :: (s.data.toList.take 8).drop (j + 1) := by
      rw [List.drop_eq_getElem_cons (by simp; omega)]
      congr 1
      simp [← hb]
    rw [hdr]
    simp only [getL]
    rw [← hn, Nat.mul_comm n, ← Nat.two_pow_add_eq_or_of_lt (by omega : b.toNat < 2 ^ 8)]
    omega

theorem le_Get.c {s : ByteArray} {h : Heap} {Q : Value → Heap → Prop} (hs : s.size ≤ 9223372036854775807) (hq : Q (.int .u64 (get8 s)) h) : C Tryd.prog 63 #[.string s] h Q := by
  apply le_Get.ok
  unfold le_Get.wp
  rw [imin_eq, i64_in _ (by omega)]
  have := le_Get.L3.c hq (min s.size 8) 0 (by omega) (by omega) (by
    rw [List.drop_eq_nil_of_le]; rfl
    simp
    have : s.data.size = s.size := rfl
    omega)
  have e : ((min s.size 8 : Nat) : Int) - 1 = min (s.size : Int) 8 - 1 := by omega
  rw [e] at this
  exact this

end Go.Gb
namespace Go.Gb
open Go.Proofs IntWalk

/-! ## le: bits -/

def mayP (at0 width : Int) : Prop := 0 ≤ at0 ∧ at0 < 64 ∧ 1 ≤ width ∧ width ≤ 64 - at0
instance (a b : Int) : Decidable (mayP a b) := by unfold mayP; infer_instance

/-! by definition -/

end Go.Gb
namespace Go.Gb
open Go.Proofs IntWalk

/-! ## crc: what the code computes -/

theorem and_bit (r k : Nat) : (r &&& 2 ^ k ≠ 0) ↔ r.testBit k = true := by
  constructor
  · intro h
    cases hb : r.testBit k with
    | true => rfl
    | false =>
      refine absurd ?_ h
      apply Nat.eq_of_testBit_eq
      intro i
      rw [Nat.testBit_and, Nat.testBit_two_pow, Nat.zero_testBit]
      by_cases e : k = i
      · subst e; rw [hb]; rfl
      · simp [e]
  · intro h e
    have : (r &&& 2 ^ k).testBit k = true := by rw [Nat.testBit_and, Nat.testBit_two_pow, h]; simp
    rw [e, Nat.zero_testBit] at this
    cases this

theorem crc_Sum32.L7.c {s : ByteArray} {t7 t8 : Int} {h : Heap} {Q : Value → Heap → Prop} : ∀ (j k r : Nat), k + j = 8 → r < 4294967296 → crc_Sum32.L3 s (iter c32 j r : Nat) t7 (IntKind.i64.wrap (t8 + 1)) h Q → crc_Sum32.L7 s r t7 t8 k h Q := by
  intro j
  induction j with
  | zero =>
    intro k r hk hr hq
    apply crc_Sum32.L7.ok
    exact xsIf_f (by simp; omega) hq
  | succ j ih =>
    intro k r hk hr hq
    have hn := ih (k + 1) (c32 r) (by omega) (c32_lin.lt r hr) hq
    apply crc_Sum32.L7.ok
    unfold crc_Sum32.L7.wp
    have hd : r / 2 < 2 ^ 32 := by omega
    rw [show (1 : Int) = ((1 : Nat) : Int) from rfl, iandU rfl (show r < 2 ^ IntKind.u32.bits from hr) (show 1 < 2 ^ 32 by omega), ishrU (show 1 ≤ IntKind.u32.bits by decide), show r / 2 ^ 1 = r / 2 from rfl,
      show (2197175160 : Int) = ((2197175160 : Nat) : Int) from rfl, ixorU rfl hd (show 2197175160 < 2 ^ 32 by omega), show ((k : Int) + ((1 : Nat) : Int)) = ((k + 1 : Nat) : Int) by omega, i64_in _ (by omega)]
    have hb := and_bit r 0
    unfold c32 at hn
    refine xsIf_t (by simp; omega) (xsIf_intro (fun h1 => ?_) (fun h1 => ?_))
    · have h1 : r.testBit 0 = true := hb.1 (by intro e; rw [show (1 : Nat) = 2 ^ 0 from rfl, e] at h1; simp at h1)
      rw [h1] at hn; exact hn
    · have h1 : r.testBit 0 = false := by
        cases hx : r.testBit 0 with
        | false => rfl
        | true => have h3 := hb.2 hx; simp at h1; simp at h3; omega
      rw [h1] at hn
      simpa using hn

theorem crc_Sum32.L3.c {s : ByteArray} {h : Heap} {Q : Value → Heap → Prop} (hs : s.size ≤ 9223372036854775807) : ∀ (j i r : Nat), i + j = s.size → r < 4294967296 → Q (.int .u32 (chk (iter c32 8) (fun b => b) r (s.data.toList.drop i) ^^^ 4294967295 : Nat)) h → crc_Sum32.L3 s r s.size i h Q := by
  intro j
  induction j with
  | zero =>
    intro i r hi hr hq
    apply crc_Sum32.L3.ok
    refine xsIf_f (by simp; omega) ?_
    rw [List.drop_eq_nil_of_le (by simp; omega)] at hq
    rw [inotU (k := .u32) (m := 4294967295) rfl rfl (show 4294967295 < 2 ^ 32 by omega) (show r < 2 ^ IntKind.u32.bits from hr)]
    exact hq
  | succ j ih =>
    intro i r hi hr hq
    apply crc_Sum32.L3.ok
    have hlt : i < s.data.toList.length := by simp; omega
    refine xsIf_t (by simp; omega) ⟨_, by omega, by rw [Int.toNat_natCast]; exact bget_get (by omega), ?_⟩
    have hb := byte_lt s.data.toList[i]
    rw [take_succ_get hlt, chk_cons] at hq
    rw [u32_nat' (by omega), ixorU rfl (show r < 2 ^ IntKind.u32.bits from hr) (show s.data.toList[i].toNat < 2 ^ 32 by omega)]
    have hx : r ^^^ s.data.toList[i].toNat < 4294967296 := xor_lt (w := 32) hr (by omega)
    refine crc_Sum32.L7.c 8 0 _ (by omega) hx ?_
    rw [show ((i : Int) + 1) = ((i + 1 : Nat) : Int) by omega, i64_in _ (by omega)]
    exact ih (i + 1) _ (by omega) ((c32_lin.iter 8).lt _ hx) hq

theorem crc_Sum32.c {s : ByteArray} {h : Heap} {Q : Value → Heap → Prop} (hs : s.size ≤ 9223372036854775807) (hq : Q (.int .u32 (sum32 s.data.toList)) h) : C Tryd.prog 58 #[.string s] h Q := by
  apply crc_Sum32.ok
  exact crc_Sum32.L3.c hs s.size 0 4294967295 (by omega) (by omega) hq

/-! ### guarded words -/

end Go.Gb
namespace Go.Gb
open Go.Proofs IntWalk

/-! ## crc, by definition -/

/-! the register -/


end Go.Gb
namespace Go.Gb
open Go.Proofs IntWalk

/-! ## crc: the two ways are one -/

/-! sixteen bits -/

/-! thirty-two bits -/

end Go.Gb
namespace Go.Gb
open Go.Proofs IntWalk

/-! ## crc: the laws -/

/-! one byte another one -/

theorem sum_set (F : List UInt8 → Nat) (hF : ∀ ps bs (x y : UInt8), x ≠ y → F (ps ++ x :: bs) ≠ F (ps ++ y :: bs)) {l : List UInt8} {i : Nat} (hi : i < l.length) {y : UInt8} (hy : l[i] ≠ y) : F l ≠ F (l.set i y) := by
  have e1 : l = l.take i ++ l[i] :: l.drop (i + 1) := by rw [← List.drop_eq_getElem_cons hi, List.take_append_drop]
  have e2 : l.set i y = l.take i ++ y :: l.drop (i + 1) := by rw [List.set_eq_take_append_cons_drop, if_pos hi]
  have e3 := hF (l.take i) (l.drop (i + 1)) l[i] y hy
  rw [← e1, ← e2] at e3
  exact e3

theorem byteVals_get (bs : List UInt8) (i : Nat) : (byteVals bs)[i]? = (bs[i]?).map fun b => Value.int .u8 b.toNat := by simp [byteVals]
theorem byteVals_length (bs : List UInt8) : (byteVals bs).length = bs.length := by simp [byteVals]
theorem byteVals_set (bs : List UInt8) (i : Nat) (b : UInt8) : (byteVals bs).set i (.int .u8 b.toNat) = byteVals (bs.set i b) := by simp [byteVals, List.map_set]

end Go.Gb
