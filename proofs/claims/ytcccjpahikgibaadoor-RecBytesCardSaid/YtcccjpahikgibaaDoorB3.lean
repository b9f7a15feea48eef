/- Own texts for the seat: G2 G3 Crc1 Crc2 Crc3 Crc4. -/
import Derived.Test.YtcccjpahikgibaaDoorW
import Derived.Test.YtcccjpahikgibaaDoorA12
import Derived.Test.YtcccjpahikgibaaDoorA7
import Derived.Test.YtcccjpahikgibaaDoorB1
set_option linter.unusedVariables false
set_option linter.unusedSimpArgs false
set_option linter.unnecessarySimpa false
set_option linter.deprecated false
namespace Go.Gb
open Go.Proofs IntWalk


/-! ## le: the plain functions -/

def putL : Nat → Nat → List UInt8
  | _, 0 => []
  | n, k + 1 => UInt8.ofNat n :: putL (n / 256) k

def getL : List UInt8 → Nat
  | [] => 0
  | b :: r => b.toNat + 256 * getL r

theorem putL_length (k : Nat) : ∀ n, (putL n k).length = k := by
  induction k with
  | zero => intro n; rfl
  | succ k ih => intro n; simp [putL, ih]

theorem getL_put (k : Nat) : ∀ n, getL (putL n k) = n % 256 ^ k := by
  induction k with
  | zero => intro n; simp [putL, getL, Nat.mod_one]
  | succ k ih =>
    intro n
    simp only [putL, getL, ih]
    rw [Nat.pow_succ, Nat.mul_comm (256 ^ k) 256, Nat.mod_mul, UInt8.toNat_ofNat']

theorem getL_lt (l : List UInt8) : getL l < 256 ^ l.length := by
  induction l with
  | nil => simp [getL]
  | cons b r ih =>
    simp only [getL, List.length_cons, Nat.pow_succ]
    have := b.toNat_lt
    omega

theorem putL_get (l : List UInt8) : putL (getL l) l.length = l := by
  induction l with
  | nil => rfl
  | cons b r ih =>
    simp only [getL, List.length_cons, putL]
    have := b.toNat_lt
    have e1 : (b.toNat + 256 * getL r) / 256 = getL r := by omega
    rw [e1, ih]
    congr 1
    apply UInt8.toNat_inj.1
    rw [UInt8.toNat_ofNat']
    omega

theorem getL_append (a b : List UInt8) : getL (a ++ b) = getL a + 256 ^ a.length * getL b := by
  induction a with
  | nil => simp [getL]
  | cons x a ih => simp only [List.cons_append, getL, ih, List.length_cons, Nat.pow_succ]; rw [Nat.mul_add, Nat.mul_comm (256 ^ a.length) 256, Nat.mul_assoc]; omega

theorem byteVals_snoc (bs : List UInt8) (n : Nat) : byteVals bs ++ [Value.int .u8 (IntKind.u8.wrap (n : Int))] = byteVals (bs ++ [UInt8.ofNat n]) := by
  unfold byteVals
  rw [List.map_append]
  congr 1

/-- Of a slice of bytes that the call owns: its string. -/
theorem Own.str {h0 h : Heap} {T : TypeId} {a : Option Addr} {n c : Nat} {bs : List UInt8} {K : ByteArray → Prop} (w : Own h0 h T 1 a n c (byteVals bs)) (hk : K ⟨bs.toArray⟩) : xsStr h a n K :=
  ⟨bs, by have := w.len; simpa [byteVals] using this, w.reads, hk⟩

theorem bytes_cells : cellSize Tryd.prog 5 = 1 ∧ (cellZero Tryd.prog 5).length = 1 ∧ cellBytes Tryd.prog 5 = 1 := ⟨by kernel_rfl, by kernel_rfl, by kernel_rfl⟩

/-- One byte more. -/
theorem Own.byte {h0 h : Heap} {a : Option Addr} {n c b1 v : Nat} {bs : List UInt8} {K : Option Addr → Nat → Nat → Heap → Prop} (w : Own h0 h 5 1 a n c (byteVals bs)) (hn : n ≤ 1000000) (hb : h b1 = none)
    (hk : ∀ a' c' h', Own h0 h' 5 1 a' (n + 1) c' (byteVals (bs ++ [UInt8.ofNat v])) → K a' (n + 1) c' h') :
    xsApp Tryd.prog 5 (upd h b1 (.cells #[.int .u8 (IntKind.u8.wrap (v : Int))] 5 (0, 0))) a n c (some ⟨b1, 0, none⟩) 1 K := by
  refine Own.append (m := 1) (new := [.int .u8 (IntKind.u8.wrap (v : Int))]) (w.keep (Part.upd hb _)) bytes_cells.1 (by omega) rfl rfl (readsAt_new 5 _) bytes_cells.2.1 (by rw [bytes_cells.2.2]; omega) ?_
  intro a' c' h' o
  rw [byteVals_snoc] at o
  exact hk _ _ _ o

theorem le_Put.L3.c {h0 : Heap} {Q : Value → Heap → Prop} {t8 : Int} (ht : t8 ≤ 8) : ∀ (j : Nat) (t9 : Int) (n : Nat) (bs : List UInt8) (a : Option Addr) (m c : Nat) (h : Heap),
    0 ≤ t9 → t9 + j = t8 → n < 18446744073709551616 → m ≤ t9 → Own h0 h 5 1 a m c (byteVals bs) → (∀ h', Part h0 h' → Q (.string ⟨(bs ++ putL n j).toArray⟩) h') →
    le_Put.L3 n a m c t8 t9 h Q := by
  intro j
  induction j with
  | zero =>
    intro t9 n bs a m c h h1 h2 hn hm w hq
    apply le_Put.L3.ok
    unfold le_Put.L3.wp
    refine xsIf_f (by simp; omega) ?_
    refine w.str ?_
    have := hq h w.part
    simpa [putL] using this
  | succ j ih =>
    intro t9 n bs a m c h h1 h2 hn hm w hq
    apply le_Put.L3.ok
    unfold le_Put.L3.wp
    refine xsIf_t (by simp; omega) ?_
    intro b1 hb1
    refine w.byte (by omega) hb1 ?_
    intro a' c' h' w'
    rw [show (8 : Int) = ((8 : Nat) : Int) from rfl, ishr_u64 (by omega), i64_in _ (by omega)]
    refine ih (t9 + 1) (n / 2 ^ 8) _ a' (m + 1) c' h' (by omega) (by omega) (by omega) (by omega) w' ?_
    intro h'' p
    have := hq h'' p
    simpa [putL] using this

/-- How many bytes. -/
def cnt (size : Int) : Nat := (min (max size 0) 8).toNat

theorem le_Put.c {n : Nat} {size : Int} {h : Heap} {Q : Value → Heap → Prop} (hn : n < 18446744073709551616) (hq : Q (.string ⟨(putL n (cnt size)).toArray⟩) h) : C Tryd.prog 36 #[.int .u64 n, .int .i64 size] h Q := by
  apply C.drop
  apply le_Put.ok
  unfold le_Put.wp
  rw [imin_eq, imax_eq]
  refine le_Put.L3.c (h0 := h) (by omega) (cnt size) 0 n [] none 0 0 h (by omega) ?_ hn (by omega) (Own.nil (Part.refl h)) ?_
  · unfold cnt; omega
  · intro h' p
    exact ⟨h, p, by simpa using hq⟩

theorem gabionref01_Put.L3.c {h0 : Heap} {Q : Value → Heap → Prop} {size : Int} : ∀ (j : Nat) (i : Int) (n : Nat) (bs : List UInt8) (a : Option Addr) (m c : Nat) (h : Heap),
    0 ≤ i → i + j = max (min size 8) i → n < 18446744073709551616 → m ≤ i → Own h0 h 5 1 a m c (byteVals bs) → (∀ h', Part h0 h' → Q (.string ⟨(bs ++ putL n j).toArray⟩) h') →
    gabionref01_Put.L3 n size a m c i h Q := by
  intro j
  induction j with
  | zero =>
    intro i n bs a m c h h1 h2 hn hm w hq
    apply gabionref01_Put.L3.ok
    unfold gabionref01_Put.L3.wp
    refine xsIf_intro (fun h3 => xsIf_intro (fun h4 => ?_) (fun h4 => ?_)) (fun h3 => ?_)
    · simp at h3 h4; omega
    · refine w.str ?_
      have := hq h w.part
      simpa [putL] using this
    · refine w.str ?_
      have := hq h w.part
      simpa [putL] using this
  | succ j ih =>
    intro i n bs a m c h h1 h2 hn hm w hq
    apply gabionref01_Put.L3.ok
    unfold gabionref01_Put.L3.wp
    refine xsIf_t (by simp; omega) (xsIf_t (by simp; omega) ?_)
    apply gabionref01_Put.J5.ok
    intro b1 hb1
    have e : IntKind.u8.wrap (irem (n : Int) 256) = IntKind.u8.wrap (n : Int) := by
      rw [show (256 : Int) = ((256 : Nat) : Int) from rfl, irem_nat, u8_nat, u8_nat, Nat.mod_mod]
    rw [e]
    refine w.byte (by omega) hb1 ?_
    intro a' c' h' w'
    rw [show (256 : Int) = ((256 : Nat) : Int) from rfl, iquo_u64 _ hn, i64_in _ (by omega)]
    refine ih (i + 1) (n / 256) _ a' (m + 1) c' h' (by omega) (by omega) (by omega) (by omega) w' ?_
    intro h'' p
    have := hq h'' p
    simpa [putL] using this

theorem gabionref01_Put.c {n : Nat} {size : Int} {h : Heap} {Q : Value → Heap → Prop} (hn : n < 18446744073709551616) (hq : Q (.string ⟨(putL n (cnt size)).toArray⟩) h) : C Tryd.prog 40 #[.int .u64 n, .int .i64 size] h Q := by
  apply C.drop
  apply gabionref01_Put.ok
  unfold gabionref01_Put.wp
  refine gabionref01_Put.L3.c (h0 := h) (cnt size) 0 n [] none 0 0 h (by omega) ?_ hn (by omega) (Own.nil (Part.refl h)) ?_
  · unfold cnt; omega
  · intro h' p
    exact ⟨h, p, by simpa using hq⟩

/-- The number of the first eight bytes. -/
def get8 (s : ByteArray) : Nat := getL (s.data.toList.take 8)

theorem bget_get {s : ByteArray} {i : Nat} (h : i < s.size) : bget s i = some (s.data.toList[i]'(by simpa using h)) := by
  unfold bget
  simp [h]
  rfl

theorem take_succ_get {l : List UInt8} {i : Nat} (h : i < l.length) : l.drop i = l[i] :: l.drop (i + 1) := List.drop_eq_getElem_cons h

theorem le_Get.L3.c {s : ByteArray} {h : Heap} {Q : Value → Heap → Prop} (hq : Q (.int .u64 (get8 s)) h) : ∀ (j : Nat) (n : Nat), j ≤ 8 → j ≤ s.size → n = getL ((s.data.toList.take 8).drop j) →
    le_Get.L3 s n ((j : Int) - 1) h Q := by
  intro j
  induction j with
  | zero =>
    intro n _ _ hn
    apply le_Get.L3.ok
    refine xsIf_f (by simp) ?_
    rw [hn]; simpa [get8] using hq
  | succ j ih =>
    intro n h8 hs hn
    apply le_Get.L3.ok
    refine xsIf_t (by simp) ?_
    have hjs : j < s.size := by omega
    have hl : s.data.toList.length = s.size := by simp
    have hj : ((↑(j + 1) : Int) - 1).toNat = j := by omega
    refine ⟨_, by omega, by rw [hj]; exact bget_get hjs, ?_⟩
    have hlt := getL_lt ((s.data.toList.take 8).drop (j + 1))
    rw [← hn] at hlt
    have hlen : ((s.data.toList.take 8).drop (j + 1)).length ≤ 7 - j := by simp; omega
    have hn2 : n < 256 ^ (7 - j) := Nat.lt_of_lt_of_le hlt (Nat.pow_le_pow_right (by omega) hlen)
    have hn3 : n < 72057594037927936 := Nat.lt_of_lt_of_le hn2 (Nat.pow_le_pow_right (by omega) (show 7 - j ≤ 7 by omega))
    generalize hb : s.data.toList[j]'(by omega) = b
    have hbl := b.toNat_lt
    rw [show (8 : Int) = ((8 : Nat) : Int) from rfl, ishl_u64 (by omega), u64_nat' (by omega), Nat.mod_eq_of_lt (by omega), ior_u64 (by omega) (by omega), i64_in _ (by omega)]
    rw [show (↑(j + 1) : Int) - 1 - 1 = (j : Int) - 1 by omega]
    refine ih _ (by omega) (by omega) ?_
    have hdr : (s.data.toList.take 8).drop j = b :: (s.data.toList.take 8).drop (j + 1) := by
      rw [List.drop_eq_getElem_cons (by simp; omega)]
      congr 1
      simp [← hb]
    rw [hdr]
    simp only [getL]
    rw [← hn, Nat.mul_comm n, ← Nat.two_pow_add_eq_or_of_lt (by omega : b.toNat < 2 ^ 8)]
    omega

theorem le_Get.c {s : ByteArray} {h : Heap} {Q : Value → Heap → Prop} (hs : s.size ≤ 9223372036854775807) (hq : Q (.int .u64 (get8 s)) h) : C Tryd.prog 63 #[.string s] h Q := by
  apply le_Get.ok
  unfold le_Get.wp
  rw [imin_eq, i64_in _ (by omega)]
  have := le_Get.L3.c hq (min s.size 8) 0 (by omega) (by omega) (by
    rw [List.drop_eq_nil_of_le]; rfl
    simp
    have : s.data.size = s.size := rfl
    omega)
  have e : ((min s.size 8 : Nat) : Int) - 1 = min (s.size : Int) 8 - 1 := by omega
  rw [e] at this
  exact this

theorem gabionref01_Get.L4.c {s : ByteArray} {h : Heap} {Q : Value → Heap → Prop} (hq : Q (.int .u64 (get8 s)) h) : ∀ (j i n : Nat), i + j = min s.size 8 → n = getL (s.data.toList.take i) →
    gabionref01_Get.L4 s n ((256 ^ i % 18446744073709551616 : Nat) : Int) i h Q := by
  intro j
  induction j with
  | zero =>
    intro i n hi hn
    apply gabionref01_Get.L4.ok
    have hfin : Q (.int .u64 n) h := by
      have : s.data.toList.take i = s.data.toList.take 8 := by
        have hl : s.data.toList.length = s.size := by simp
        by_cases h8 : s.size ≤ 8
        · rw [List.take_of_length_le (by omega), List.take_of_length_le (by omega)]
        · rw [show i = 8 by omega]
      rw [hn, this]; exact hq
    refine xsIf_intro (fun h3 => xsIf_intro (fun h4 => ?_) (fun h4 => hfin)) (fun h3 => hfin)
    simp at h3 h4; omega
  | succ j ih =>
    intro i n hi hn
    apply gabionref01_Get.L4.ok
    refine xsIf_t (by simp; omega) (xsIf_t (by simp; omega) ?_)
    apply gabionref01_Get.J6.ok
    have hl : s.data.toList.length = s.size := by simp
    refine ⟨_, by omega, by rw [Int.toNat_natCast]; exact bget_get (by omega), ?_⟩
    generalize hb : s.data.toList[i]'(by omega) = b
    have hbl := b.toNat_lt
    have hi8 : i < 8 := by omega
    have hp : 256 ^ i ≤ 256 ^ 7 := Nat.pow_le_pow_right (by omega) (by omega)
    have hlt := getL_lt (s.data.toList.take i)
    have htl : (s.data.toList.take i).length = i := by simp; omega
    rw [← hn, htl] at hlt
    rw [Nat.mod_eq_of_lt (by omega : 256 ^ i < 18446744073709551616)]
    have hmul : 256 ^ i * b.toNat ≤ 256 ^ i * 255 := Nat.mul_le_mul_left _ (by omega)
    rw [u64_nat' (by omega : b.toNat < _), ← Int.natCast_mul, u64_nat' (by omega), ← Int.natCast_add, u64_nat' (by omega), show (256 : Int) = ((256 : Nat) : Int) from rfl, ← Int.natCast_mul, u64_nat, i64_in _ (by omega)]
    have := ih (i + 1) (n + 256 ^ i * b.toNat) (by omega) (by
      rw [List.take_add_one, getL_append, htl, ← hn]
      have : s.data.toList[i]? = some b := by rw [← hb]; exact List.getElem?_eq_getElem _
      rw [this]
      simp [getL])
    rw [Nat.pow_succ] at this
    exact this

theorem gabionref01_Get.c {s : ByteArray} {h : Heap} {Q : Value → Heap → Prop} (hq : Q (.int .u64 (get8 s)) h) : C Tryd.prog 47 #[.string s] h Q := by
  apply gabionref01_Get.ok
  unfold gabionref01_Get.wp
  exact gabionref01_Get.L4.c hq (min s.size 8) 0 0 (by omega) rfl

end Go.Gb
namespace Go.Gb
open Go.Proofs IntWalk

/-! ## le: bits -/

def mayP (at0 width : Int) : Prop := 0 ≤ at0 ∧ at0 < 64 ∧ 1 ≤ width ∧ width ≤ 64 - at0
instance (a b : Int) : Decidable (mayP a b) := by unfold mayP; infer_instance

/-- Some bits. -/
def fieldN (w a n : Nat) : Nat := w / 2 ^ a % 2 ^ n
/-- Field and With, of whatever place. -/
def fieldV (w : Nat) (at0 width : Int) : Nat := if mayP at0 width then fieldN w at0.toNat width.toNat else 0
/-! by definition -/

theorem gabionref01_may.c {at0 width : Int} {h : Heap} {Q : Value → Heap → Prop} (hq : Q (.bool (decide (mayP at0 width))) h) : C Tryd.prog 74 #[.int .i64 at0, .int .i64 width] h Q := by
  have hq' : ∀ b, (b = true ↔ mayP at0 width) → Q (.bool b) h := fun b hb => by
    rw [show b = decide (mayP at0 width) by rw [Bool.eq_iff_iff]; simpa using hb]; exact hq
  apply gabionref01_may.ok
  unfold gabionref01_may.wp
  refine xsIf_intro (fun h1 => xsIf_intro (fun h2 => xsIf_intro (fun h3 => ?_) (fun h3 => ?_)) (fun h2 => ?_)) (fun h1 => ?_)
  · simp at h1 h2 h3
    rw [i64_in _ (by omega)]; apply hq'; unfold mayP; simp; omega
  · simp at h1 h2 h3
    apply hq'; unfold mayP; simp; omega
  · simp at h1 h2
    apply hq'; unfold mayP; simp; omega
  · simp at h1
    apply hq'; unfold mayP; simp; omega

theorem gabionref01_bit.L2.c {h : Heap} {Q : Value → Heap → Prop} {i : Nat} (hi : i < 64) : ∀ (j : Nat) (w k : Nat), w < 18446744073709551616 → k + j = i → Q (.int .u64 (w / 2 ^ j % 2 : Nat)) h → gabionref01_bit.L2 w i k h Q := by
  intro j
  induction j with
  | zero =>
    intro w k hw hk hq
    apply gabionref01_bit.L2.ok
    refine xsIf_f (by simp; omega) ?_
    rw [show (2 : Int) = ((2 : Nat) : Int) from rfl, irem_nat]
    simpa using hq
  | succ j ih =>
    intro w k hw hk hq
    apply gabionref01_bit.L2.ok
    refine xsIf_t (by simp; omega) ?_
    rw [show (2 : Int) = ((2 : Nat) : Int) from rfl, iquo_u64 _ hw, i64_in _ (by omega)]
    refine ih (w / 2) (k + 1) (by omega) (by omega) ?_
    rw [Nat.div_div_eq_div_mul, Nat.mul_comm, ← Nat.pow_succ]
    exact hq

theorem gabionref01_bit.c {w : Nat} {i : Nat} {h : Heap} {Q : Value → Heap → Prop} (hw : w < 18446744073709551616) (hi : i < 64) (hq : Q (.int .u64 (w / 2 ^ i % 2 : Nat)) h) : C Tryd.prog 75 #[.int .u64 w, .int .i64 i] h Q := by
  apply gabionref01_bit.ok
  exact gabionref01_bit.L2.c hi i w 0 hw (by omega) hq

theorem field_step (w b i : Nat) : 2 * (w / 2 ^ (b + 1) % 2 ^ i) + w / 2 ^ b % 2 = w / 2 ^ b % 2 ^ (i + 1) := by
  rw [Nat.pow_succ, Nat.pow_succ, Nat.mul_comm (2 ^ i) 2, Nat.mod_mul, ← Nat.div_div_eq_div_mul]
  omega

theorem gabionref01_Field.L4.c {h : Heap} {Q : Value → Heap → Prop} {w a n : Nat} (hw : w < 18446744073709551616) (hm : a + n ≤ 64) (hq : Q (.int .u64 (fieldN w a n : Nat)) h) : ∀ (j i : Nat), i + j = n →
    gabionref01_Field.L4 w a n true (w / 2 ^ (a + j) % 2 ^ i : Nat) i h Q := by
  intro j
  induction j with
  | zero =>
    intro i hi
    apply gabionref01_Field.L4.ok
    refine xsIf_t rfl (xsIf_f (by simp; omega) ?_)
    have : i = n := by omega
    subst this
    exact hq
  | succ j ih =>
    intro i hi
    apply gabionref01_Field.L4.ok
    refine xsIf_t rfl (xsIf_t (by simp; omega) ?_)
    apply gabionref01_Field.J6.ok
    unfold gabionref01_Field.J6.wp
    rw [i64_in ((a : Int) + n) (by omega), i64_in ((a : Int) + n - 1) (by omega), i64_in _ (by omega), show (a : Int) + n - 1 - i = ((a + j : Nat) : Int) by omega]
    refine gabionref01_bit.c hw (by omega) ⟨_, rfl, ?_⟩
    have h1 : w / 2 ^ (a + (j + 1)) % 2 ^ i < 2 ^ 63 := Nat.lt_of_lt_of_le (Nat.mod_lt _ (Nat.two_pow_pos i)) (Nat.pow_le_pow_right (n := 2) (by omega) (by omega))
    have h2 : w / 2 ^ (a + j) % 2 < 2 := Nat.mod_lt _ (by omega)
    rw [show (2 : Int) = ((2 : Nat) : Int) from rfl, ← Int.natCast_mul, u64_nat' (by omega), ← Int.natCast_add, u64_nat' (by omega), i64_in _ (by omega)]
    have := ih (i + 1) (by omega)
    rw [← field_step w (a + j) i] at this
    exact this

theorem gabionref01_Field.c {w : Nat} {at0 width : Int} {h : Heap} {Q : Value → Heap → Prop} (hw : w < 18446744073709551616) (hq : Q (.int .u64 (fieldV w at0 width)) h) : C Tryd.prog 59 #[.int .u64 w, .int .i64 at0, .int .i64 width] h Q := by
  apply gabionref01_Field.ok
  unfold gabionref01_Field.wp
  refine gabionref01_may.c ⟨_, rfl, ?_⟩
  unfold fieldV at hq
  by_cases hm : mayP at0 width
  · rw [if_pos hm] at hq
    rw [decide_eq_true hm]
    unfold mayP at hm
    obtain ⟨a, rfl⟩ : ∃ a : Nat, at0 = a := ⟨at0.toNat, by omega⟩
    obtain ⟨n, rfl⟩ : ∃ n : Nat, width = n := ⟨width.toNat, by omega⟩
    simp only [Int.toNat_natCast] at hq
    have := gabionref01_Field.L4.c hw (by omega) hq n 0 (by omega)
    simpa [Nat.mod_one] using this
  · rw [if_neg hm] at hq
    rw [decide_eq_false hm]
    apply gabionref01_Field.L4.ok
    exact xsIf_f rfl hq

end Go.Gb
namespace Go.Gb
open Go.Proofs IntWalk

/-! ## crc: what the code computes -/

theorem and_bit (r k : Nat) : (r &&& 2 ^ k ≠ 0) ↔ r.testBit k = true := by
  constructor
  · intro h
    cases hb : r.testBit k with
    | true => rfl
    | false =>
      refine absurd ?_ h
      apply Nat.eq_of_testBit_eq
      intro i
      rw [Nat.testBit_and, Nat.testBit_two_pow, Nat.zero_testBit]
      by_cases e : k = i
      · subst e; rw [hb]; rfl
      · simp [e]
  · intro h e
    have : (r &&& 2 ^ k).testBit k = true := by rw [Nat.testBit_and, Nat.testBit_two_pow, h]; simp
    rw [e, Nat.zero_testBit] at this
    cases this

theorem crc_Sum32.L7.c {s : ByteArray} {t7 t8 : Int} {h : Heap} {Q : Value → Heap → Prop} : ∀ (j k r : Nat), k + j = 8 → r < 4294967296 → crc_Sum32.L3 s (iter c32 j r : Nat) t7 (IntKind.i64.wrap (t8 + 1)) h Q → crc_Sum32.L7 s r t7 t8 k h Q := by
  intro j
  induction j with
  | zero =>
    intro k r hk hr hq
    apply crc_Sum32.L7.ok
    exact xsIf_f (by simp; omega) hq
  | succ j ih =>
    intro k r hk hr hq
    have hn := ih (k + 1) (c32 r) (by omega) (c32_lin.lt r hr) hq
    apply crc_Sum32.L7.ok
    unfold crc_Sum32.L7.wp
    have hd : r / 2 < 2 ^ 32 := by omega
    rw [show (1 : Int) = ((1 : Nat) : Int) from rfl, iandU rfl (show r < 2 ^ IntKind.u32.bits from hr) (show 1 < 2 ^ 32 by omega), ishrU (show 1 ≤ IntKind.u32.bits by decide), show r / 2 ^ 1 = r / 2 from rfl,
      show (2197175160 : Int) = ((2197175160 : Nat) : Int) from rfl, ixorU rfl hd (show 2197175160 < 2 ^ 32 by omega), show ((k : Int) + ((1 : Nat) : Int)) = ((k + 1 : Nat) : Int) by omega, i64_in _ (by omega)]
    have hb := and_bit r 0
    unfold c32 at hn
    refine xsIf_t (by simp; omega) (xsIf_intro (fun h1 => ?_) (fun h1 => ?_))
    · have h1 : r.testBit 0 = true := hb.1 (by intro e; rw [show (1 : Nat) = 2 ^ 0 from rfl, e] at h1; simp at h1)
      rw [h1] at hn; exact hn
    · have h1 : r.testBit 0 = false := by
        cases hx : r.testBit 0 with
        | false => rfl
        | true => have h3 := hb.2 hx; simp at h1; simp at h3; omega
      rw [h1] at hn
      simpa using hn

theorem crc_Sum32.L3.c {s : ByteArray} {h : Heap} {Q : Value → Heap → Prop} (hs : s.size ≤ 9223372036854775807) : ∀ (j i r : Nat), i + j = s.size → r < 4294967296 → Q (.int .u32 (chk (iter c32 8) (fun b => b) r (s.data.toList.drop i) ^^^ 4294967295 : Nat)) h → crc_Sum32.L3 s r s.size i h Q := by
  intro j
  induction j with
  | zero =>
    intro i r hi hr hq
    apply crc_Sum32.L3.ok
    refine xsIf_f (by simp; omega) ?_
    rw [List.drop_eq_nil_of_le (by simp; omega)] at hq
    rw [inotU (k := .u32) (m := 4294967295) rfl rfl (show 4294967295 < 2 ^ 32 by omega) (show r < 2 ^ IntKind.u32.bits from hr)]
    exact hq
  | succ j ih =>
    intro i r hi hr hq
    apply crc_Sum32.L3.ok
    have hlt : i < s.data.toList.length := by simp; omega
    refine xsIf_t (by simp; omega) ⟨_, by omega, by rw [Int.toNat_natCast]; exact bget_get (by omega), ?_⟩
    have hb := byte_lt s.data.toList[i]
    rw [take_succ_get hlt, chk_cons] at hq
    rw [u32_nat' (by omega), ixorU rfl (show r < 2 ^ IntKind.u32.bits from hr) (show s.data.toList[i].toNat < 2 ^ 32 by omega)]
    have hx : r ^^^ s.data.toList[i].toNat < 4294967296 := xor_lt (w := 32) hr (by omega)
    refine crc_Sum32.L7.c 8 0 _ (by omega) hx ?_
    rw [show ((i : Int) + 1) = ((i + 1 : Nat) : Int) by omega, i64_in _ (by omega)]
    exact ih (i + 1) _ (by omega) ((c32_lin.iter 8).lt _ hx) hq

theorem crc_Sum32.c {s : ByteArray} {h : Heap} {Q : Value → Heap → Prop} (hs : s.size ≤ 9223372036854775807) (hq : Q (.int .u32 (sum32 s.data.toList)) h) : C Tryd.prog 58 #[.string s] h Q := by
  apply crc_Sum32.ok
  exact crc_Sum32.L3.c hs s.size 0 4294967295 (by omega) (by omega) hq

/-! ### guarded words -/

end Go.Gb
namespace Go.Gb
open Go.Proofs IntWalk

/-! ## crc, by definition -/

theorem int_cells : cellSize Tryd.prog 3 = 1 ∧ cellZero Tryd.prog 3 = [.int .i64 0] ∧ cellBytes Tryd.prog 3 = 8 := ⟨by kernel_rfl, by kernel_rfl, by kernel_rfl⟩

/-- A bit of a byte, by its place in the row. -/
def bitAt (low : Bool) (b k : Nat) : Nat := b / 2 ^ (if low then k else 7 - k) % 2
def bitsL (low : Bool) (bs : List UInt8) : List Int := bs.flatMap fun b => tab 8 fun k => (bitAt low b.toNat k : Nat)

theorem bitsL_length (low : Bool) (bs : List UInt8) : (bitsL low bs).length = 8 * bs.length := by
  induction bs with
  | nil => rfl
  | cons b r ih => unfold bitsL at ih ⊢; rw [List.flatMap_cons, List.length_append, ih, tab_length, List.length_cons]; omega
theorem bitsL_snoc (low : Bool) (bs : List UInt8) (b : UInt8) : bitsL low (bs ++ [b]) = bitsL low bs ++ tab 8 fun k => (bitAt low b.toNat k : Nat) := by
  unfold bitsL; rw [List.flatMap_append]; simp

theorem field_bit {w k : Nat} (h : k < 64) : fieldV w k 1 = w / 2 ^ k % 2 := by
  unfold fieldV
  rw [if_pos (by unfold mayP; omega)]
  unfold fieldN
  simp

theorem gabionref02_bits.L6.c {s : ByteArray} {low : Bool} {h0 : Heap} {Q : Value → Heap → Prop} {i : Nat} {b : UInt8} {done : List Int} (hs : s.size ≤ 4000) (hi : i < s.size) (hb : s.data.toList[i]? = some b) (hd : done.length = 8 * i)
    (hq : ∀ a c h, Own h0 h 3 1 a (8 * i + 8) c (ints .i64 (done ++ tab 8 fun k => (bitAt low b.toNat k : Nat))) → gabionref02_bits.L3 s low a (8 * i + 8) c ((i + 1 : Nat) : Int) h Q) : ∀ (j k : Nat) (a : Option Addr) (c : Nat) (h : Heap), k + j = 8 →
    Own h0 h 3 1 a (8 * i + k) c (ints .i64 (done ++ tab k fun k => (bitAt low b.toNat k : Nat))) → gabionref02_bits.L6 s low a (8 * i + k) c i k h Q := by
  intro j
  induction j with
  | zero =>
    intro k a c h hk w
    obtain rfl : k = 8 := by omega
    apply gabionref02_bits.L6.ok
    refine xsIf_f (by simp) ?_
    rw [i64_in _ (by omega)]
    exact hq a c h w
  | succ j ih =>
    intro k a c h hk w
    apply gabionref02_bits.L6.ok
    refine xsIf_t (by simp; omega) ?_
    have step : ∀ at0 : Nat, at0 = (if low then k else 7 - k) → gabionref02_bits.J11 s low a (8 * i + k) c i k at0 h Q := by
      intro at0 hat
      apply gabionref02_bits.J11.ok
      have hb1 := byte_lt b
      have hat64 : at0 < 64 := by cases low <;> simp at hat <;> omega
      refine ⟨b, by omega, by rw [Int.toNat_natCast, bget_get hi, ← hb]; exact (List.getElem?_eq_getElem _).symm, ?_⟩
      rw [u64_nat' (by omega)]
      refine gabionref01_Field.c (by omega) ⟨_, rfl, fun b1 hb1 => ?_⟩
      rw [field_bit hat64, i64_in _ (by omega)]
      refine w.isnoc hb1 int_cells.1 (by rw [int_cells.2.1]; rfl) (by rw [int_cells.2.2]; omega) fun a' c' h' w' => ?_
      rw [i64_in _ (by omega)]
      refine ih (k + 1) a' c' h' (by omega) ?_
      rw [List.append_assoc, show b.toNat / 2 ^ at0 % 2 = bitAt low b.toNat k by unfold bitAt; rw [hat], tab_snoc k fun k => ((bitAt low b.toNat k : Nat) : Int)] at w'
      exact w'
    cases low with
    | true => exact xsIf_t rfl (step k rfl)
    | false =>
      refine xsIf_f rfl ?_
      rw [i64_in _ (by omega), show (7 : Int) - (k : Int) = ((7 - k : Nat) : Int) by omega]
      exact step (7 - k) rfl

theorem gabionref02_bits.c {s : ByteArray} {low : Bool} {h : Heap} {Q : Value → Heap → Prop} (hs : s.size ≤ 4000)
    (hq : ∀ a c h', Own h h' 3 1 a (8 * s.size) c (ints .i64 (bitsL low s.data.toList)) → Q (.slice a (8 * s.size : Nat) c) h') : C Tryd.prog 60 #[.string s, .bool low] h Q := by
  apply gabionref02_bits.ok
  have hlen : s.data.toList.length = s.size := by simp
  have loop : ∀ (j i : Nat) (a : Option Addr) (c : Nat) (h' : Heap), i + j = s.size → Own h h' 3 1 a (8 * i) c (ints .i64 (bitsL low (s.data.toList.take i))) → gabionref02_bits.L3 s low a (8 * i) c i h' Q := by
    intro j
    induction j with
    | zero =>
      intro i a c h' hi w
      obtain rfl : i = s.size := by omega
      apply gabionref02_bits.L3.ok
      refine xsIf_f (by simp) ?_
      rw [List.take_of_length_le (by omega)] at w
      exact hq a c h' w
    | succ j ih =>
      intro i a c h' hi w
      apply gabionref02_bits.L3.ok
      refine xsIf_t (by simp; omega) ?_
      have hlt : i < s.data.toList.length := by omega
      refine gabionref02_bits.L6.c (b := s.data.toList[i]) (done := bitsL low (s.data.toList.take i)) hs (by omega) (by simp) (by rw [bitsL_length, List.length_take]; omega) (fun a c h w => ?_) 8 0 a c h' (by omega) (by simpa [tab] using w)
      refine ih (i + 1) a c h (by omega) ?_
      rw [← bitsL_snoc, ← List.take_succ_eq_append_getElem hlt] at w
      exact w
  exact loop s.size 0 none 0 h (by omega) (Own.nil (Part.refl h))

/-! the register -/

def shiftF (n : Nat) (r : Nat → Int) : Nat → Int := fun j => if j + 1 < n then r (j + 1) else 0
def refS (n : Nat) (t r : Nat → Int) (x : Int) : Nat → Int := fun j => if (r 0 + x) % 2 = 1 then (shiftF n r j + t j) % 2 else shiftF n r j

def Bit (x : Int) : Prop := x = 0 ∨ x = 1

theorem refS_bit {n : Nat} {t r : Nat → Int} {x : Int} (hr : ∀ j, Bit (r j)) : ∀ j, Bit (refS n t r x j) := by
  intro j
  have hs : Bit (shiftF n r j) := by unfold shiftF; split; exact hr _; exact .inl rfl
  unfold refS
  split
  · unfold Bit; omega
  · exact hs

section
variable {l turns : Option Addr} {l_c turns_c n : Nat} {t : Nat → Int} {ls : List Int} {h0 : Heap} {Q : Value → Heap → Prop}

theorem ref_sum_add {r_c i : Nat} {r g : Nat → Int} {a : Option Addr} (hn64 : n ≤ 64) (hls : ls.length ≤ 100000) (hg : ∀ j, Bit (g j)) (ht : ∀ j, Bit (t j)) (hturns : readsAt h0 turns (ints .i64 (tab n t))) (hi : i < ls.length)
    (hq : ∀ h, Own h0 h 3 1 a n r_c (ints .i64 (tab n fun j => (g j + t j) % 2)) → gabionref02_Sum.L7 l ls.length l_c turns n turns_c a n r_c ((i + 1 : Nat) : Int) h Q) : ∀ (j k : Nat) (h : Heap), k + j = n →
    Own h0 h 3 1 a n r_c (ints .i64 (tab n fun j => if j < k then (g j + t j) % 2 else g j)) → gabionref02_Sum.L16 l ls.length l_c turns n turns_c a n r_c i 1 k h Q := by
  intro j
  induction j with
  | zero =>
    intro k h hk w
    apply gabionref02_Sum.L16.ok
    refine xsIf_f (by simp; omega) ?_
    rw [i64_in _ (by omega)]
    refine hq h ?_
    rw [tab_congr (g := fun j => (g j + t j) % 2) (fun j hj => if_pos (by omega))] at w
    exact w
  | succ j ih =>
    intro k h hk w
    apply gabionref02_Sum.L16.ok
    refine xsIf_t (by simp; omega) (xsIf_t rfl ?_)
    apply gabionref02_Sum.J18.ok
    refine ⟨by omega, w.ibase (i := k) (by rw [tab_length]; omega) fun b hc hcan hput => ⟨by omega, reads_ints (i := k) (readsAt_part hturns w.part) (by rw [tab_length]; omega) fun b1 o1 hc1 => ?_⟩⟩
    refine ⟨_, by rw [Int.toNat_natCast]; exact hc k _ (tab_get _ (by omega)), _, by rw [Int.toNat_natCast]; exact hc1 k _ (tab_get _ (by omega)), by omega, w.ibase (i := k) (by rw [tab_length]; omega) fun b hc hcan hput => ⟨by rw [Int.toNat_natCast]; exact hcan k (by rw [tab_length]; omega), ?_⟩⟩
    have hgk := hg k
    have htk := ht k
    unfold Bit at hgk htk
    rw [Int.toNat_natCast, if_neg (by omega), i64_in (g k + t k) (by omega), irem_pos (by omega), i64_in _ (by omega)]
    refine ih (k + 1) _ (by omega) ?_
    have := hput k ((g k + t k) % 2) (by rw [tab_length]; omega)
    rw [tab_set] at this
    rw [tab_congr (g := fun j => if j < k + 1 then (g j + t j) % 2 else g j)] at this
    · exact this
    · intro q hq
      by_cases e : q = k
      · subst e; rw [if_pos rfl, if_pos (by omega)]
      · rw [if_neg e]
        by_cases e2 : q < k
        · rw [if_pos e2, if_pos (by omega)]
        · rw [if_neg e2, if_neg (by omega)]

theorem ref_sum_shift {r_c i : Nat} {r : Nat → Int} {out : Int} {a : Option Addr} (hn : 1 ≤ n) (hn64 : n ≤ 64)
    (hq : ∀ h, Own h0 h 3 1 a n r_c (ints .i64 (tab n (shiftF n r))) → gabionref02_Sum.L16 l ls.length l_c turns n turns_c a n r_c i out 0 h Q) : ∀ (j k : Nat) (h : Heap), k + 1 + j = n →
    Own h0 h 3 1 a n r_c (ints .i64 (tab n fun j => if j < k then r (j + 1) else r j)) → gabionref02_Sum.L11 l ls.length l_c turns n turns_c a n r_c i out k h Q := by
  intro j
  induction j with
  | zero =>
    intro k h hk w
    apply gabionref02_Sum.L11.ok
    unfold gabionref02_Sum.L11.wp
    rw [i64_in _ (by omega)]
    refine xsIf_f (by simp; omega) ?_
    apply gabionref02_Sum.J14.ok
    unfold gabionref02_Sum.J14.wp
    rw [i64_in _ (by omega), show (n : Int) - 1 = (k : Int) by omega]
    refine ⟨by omega, w.ibase (i := k) (by rw [tab_length]; omega) fun b hc hcan hput => ⟨by rw [Int.toNat_natCast]; exact hcan k (by rw [tab_length]; omega), hq _ ?_⟩⟩
    rw [Int.toNat_natCast]
    have := hput k 0 (by rw [tab_length]; omega)
    rw [tab_set, tab_congr (g := shiftF n r)] at this
    · exact this
    · intro q hq
      unfold shiftF
      by_cases e : q = k
      · subst e; rw [if_pos rfl, if_neg (by omega)]
      · rw [if_neg e, if_pos (by omega), if_pos (by omega)]
  | succ j ih =>
    intro k h hk w
    apply gabionref02_Sum.L11.ok
    unfold gabionref02_Sum.L11.wp
    rw [i64_in _ (by omega), show (k : Int) + 1 = ((k + 1 : Nat) : Int) by omega]
    refine xsIf_t (by simp; omega) ⟨by omega, w.ibase (i := k + 1) (by rw [tab_length]; omega) fun b hc hcan hput => ⟨_, by rw [Int.toNat_natCast]; exact hc (k + 1) _ (tab_get _ (by omega)), by omega, w.ibase (i := k) (by rw [tab_length]; omega) fun b hc hcan hput => ⟨by rw [Int.toNat_natCast]; exact hcan k (by rw [tab_length]; omega), ?_⟩⟩⟩
    rw [Int.toNat_natCast, if_neg (by omega)]
    refine ih (k + 1) _ (by omega) ?_
    have := hput k (r (k + 1)) (by rw [tab_length]; omega)
    rw [tab_set, tab_congr (g := fun j => if j < k + 1 then r (j + 1) else r j)] at this
    · exact this
    · intro q hq
      by_cases e : q = k
      · subst e; rw [if_pos rfl, if_pos (by omega)]
      · rw [if_neg e]
        by_cases e2 : q < k
        · rw [if_pos e2, if_pos (by omega)]
        · rw [if_neg e2, if_neg (by omega)]

theorem gabionref02_Sum.c {h : Heap} (hn : 1 ≤ n) (hn64 : n ≤ 64) (hll : ls.length ≤ 100000) (hls : ∀ x ∈ ls, Bit x) (ht : ∀ j, Bit (t j)) (hl : readsAt h l (ints .i64 ls)) (hturns : readsAt h turns (ints .i64 (tab n t)))
    (hq : ∀ a c h', Own h h' 3 1 a n c (ints .i64 (tab n (ls.foldl (refS n t) (fun _ => 1)))) → Q (.slice a n c) h') : C Tryd.prog 61 #[.slice l ls.length l_c, .slice turns n turns_c] h Q := by
  apply gabionref02_Sum.ok
  refine Own.make (h0 := h) (Part.refl h) int_cells.2.1 (by omega) (by rw [int_cells.2.2]; omega) (by omega) fun a h' w => ?_
  rw [Int.toNat_natCast] at w ⊢
  have loop7 : ∀ (j i : Nat) (r : Nat → Int) (h' : Heap), i + j = ls.length → (∀ j, Bit (r j)) → Own h h' 3 1 a n n (ints .i64 (tab n r)) →
      (∀ h'', Own h h'' 3 1 a n n (ints .i64 (tab n ((ls.drop i).foldl (refS n t) r))) → Q (.slice a n n) h'') → gabionref02_Sum.L7 l ls.length l_c turns n turns_c a n n i h' Q := by
    intro j
    induction j with
    | zero =>
      intro i r h' hi hr w hq
      apply gabionref02_Sum.L7.ok
      refine xsIf_f (by simp; omega) (hq h' ?_)
      rw [List.drop_eq_nil_of_le (by omega)]
      exact w
    | succ j ih =>
      intro i r h' hi hr w hq
      have hlt : i < ls.length := by omega
      rw [List.drop_eq_getElem_cons hlt, List.foldl_cons] at hq
      have hx := hls ls[i] (List.getElem_mem hlt)
      apply gabionref02_Sum.L7.ok
      refine xsIf_t (by simp; omega) ⟨by omega, w.ibase (i := 0) (by rw [tab_length]; omega) fun b hc hcan hput => ⟨by omega, reads_ints (i := i) (readsAt_part hl w.part) hlt fun b1 o1 hc1 => ?_⟩⟩
      refine ⟨_, hc 0 _ (tab_get _ (by omega)), _, by rw [Int.toNat_natCast]; exact hc1 i _ (List.getElem?_eq_getElem hlt), ?_⟩
      have hr0 := hr 0
      unfold Bit at hr0 hx
      rw [i64_in _ (by omega), irem_pos (by omega)]
      have hsb : ∀ j, Bit (shiftF n r j) := by intro j; unfold shiftF; split; exact hr _; exact .inl rfl
      refine ref_sum_shift (r := r) hn hn64 (fun h2 w2 => ?_) (n - 1) 0 h' (by omega) (by rw [tab_congr (g := r) (fun j hj => if_neg (by omega))]; exact w)
      have hnb := refS_bit (n := n) (t := t) (x := ls[i]) hr
      by_cases ho : (r 0 + ls[i]) % 2 = 1
      · rw [ho]
        have hre : tab n (fun j => (shiftF n r j + t j) % 2) = tab n (refS n t r ls[i]) := tab_congr fun j _ => by unfold refS; rw [if_pos ho]
        refine ref_sum_add (r := r) (g := shiftF n r) hn64 hll hsb ht hturns hlt (fun h3 w3 => ?_) n 0 h2 (by omega) (by rw [tab_congr (g := shiftF n r) (fun j hj => if_neg (by omega))]; exact w2)
        rw [hre] at w3
        exact ih (i + 1) _ h3 (by omega) hnb w3 hq
      · have h0 : (r 0 + ls[i]) % 2 = 0 := by omega
        rw [h0]
        have hre : tab n (shiftF n r) = tab n (refS n t r ls[i]) := tab_congr fun j _ => by unfold refS; rw [if_neg ho]
        rw [hre] at w2
        apply gabionref02_Sum.L16.ok
        refine xsIf_t (by simp; omega) (xsIf_f (by simp) ?_)
        rw [i64_in _ (by omega)]
        exact ih (i + 1) _ h2 (by omega) hnb w2 hq
  have loop3 : ∀ (j i : Nat) (h' : Heap), i + j = n → Own h h' 3 1 a n n (ints .i64 (tab n fun j => if j < i then 1 else 0)) → gabionref02_Sum.L3 l ls.length l_c turns n turns_c a n n i h' Q := by
    intro j
    induction j with
    | zero =>
      intro i h' hi w
      apply gabionref02_Sum.L3.ok
      refine xsIf_f (by simp; omega) ?_
      apply gabionref02_Sum.J6.ok
      rw [tab_congr (g := fun _ => 1) (fun j hj => if_pos (by omega))] at w
      exact loop7 ls.length 0 _ h' (by omega) (fun _ => .inr rfl) w (fun h'' w => hq _ _ _ w)
    | succ j ih =>
      intro i h' hi w
      apply gabionref02_Sum.L3.ok
      refine xsIf_t (by simp; omega) ⟨by omega, w.ibase (i := i) (by rw [tab_length]; omega) fun b hc hcan hput => ⟨by rw [Int.toNat_natCast]; exact hcan i (by rw [tab_length]; omega), ?_⟩⟩
      rw [Int.toNat_natCast, i64_in _ (by omega)]
      refine ih (i + 1) _ (by omega) ?_
      have := hput i 1 (by rw [tab_length]; omega)
      rw [tab_set, tab_congr (g := fun j => if j < i + 1 then 1 else 0)] at this
      · exact this
      · intro q hq
        by_cases e : q = i
        · subst e; rw [if_pos rfl, if_pos (by omega)]
        · rw [if_neg e]
          by_cases e2 : q < i
          · rw [if_pos e2, if_pos (by omega)]
          · rw [if_neg e2, if_neg (by omega)]
  refine loop3 n 0 h' (by omega) ?_
  have e : (tab n fun _ => (0 : Int)) = tab n fun j => if j < 0 then 1 else 0 := tab_congr fun j _ => by simp
  have w' : Own h h' 3 1 a n n (ints .i64 (tab n fun _ => 0)) := by
    have e2 : List.replicate n (Value.int .i64 0) = ints .i64 (List.replicate n 0) := by simp [ints]
    rw [← tab_replicate, ← e2]; simpa using w
  rw [e] at w'
  exact w'
end

/-- The number of a register. -/
def numL (l : List Int) : Nat := l.foldl (fun n x => 2 * n + x.toNat) 0

theorem gabionref02_number.c {a : Option Addr} {c : Nat} {ls : List Int} {h : Heap} {Q : Value → Heap → Prop} (hl : ls.length ≤ 60) (hb : ∀ x ∈ ls, Bit x) (hr : readsAt h a (ints .i64 ls)) (hq : Q (.int .u64 (numL ls)) h) :
    C Tryd.prog 62 #[.slice a ls.length c] h Q := by
  apply gabionref02_number.ok
  have loop : ∀ (j i n : Nat), i + j = ls.length → n < 2 ^ i → Q (.int .u64 ((ls.drop i).foldl (fun n x => 2 * n + x.toNat) n : Nat)) h → gabionref02_number.L3 a ls.length c n i h Q := by
    intro j
    induction j with
    | zero =>
      intro i n hi hn hq
      apply gabionref02_number.L3.ok
      refine xsIf_f (by simp; omega) ?_
      rw [List.drop_eq_nil_of_le (by omega)] at hq
      exact hq
    | succ j ih =>
      intro i n hi hn hq
      have hlt : i < ls.length := by omega
      rw [List.drop_eq_getElem_cons hlt, List.foldl_cons] at hq
      have hx := hb ls[i] (List.getElem_mem hlt)
      unfold Bit at hx
      have hp : 2 ^ i ≤ 2 ^ 60 := Nat.pow_le_pow_right (by omega) (by omega)
      apply gabionref02_number.L3.ok
      refine xsIf_t (by simp; omega) ⟨by omega, reads_ints (i := i) hr hlt fun b o hc => ⟨_, by rw [Int.toNat_natCast]; exact hc i _ (List.getElem?_eq_getElem hlt), ?_⟩⟩
      obtain ⟨x, hxe⟩ : ∃ x : Nat, ls[i] = x := ⟨ls[i].toNat, by omega⟩
      rw [hxe] at hx hq ⊢
      rw [show (2 : Int) * (n : Int) = ((2 * n : Nat) : Int) by omega, u64_nat' (by omega), u64_nat' (by omega), show ((2 * n : Nat) : Int) + (x : Int) = ((2 * n + x : Nat) : Int) by omega, u64_nat' (by omega), i64_in _ (by omega)]
      rw [Int.toNat_natCast] at hq
      exact ih (i + 1) _ (by omega) (by rw [Nat.pow_succ]; omega) hq
  exact loop ls.length 0 0 (by omega) (by omega) hq

end Go.Gb
namespace Go.Gb
open Go.Proofs IntWalk

/-! ## crc: the two ways are one -/

theorem bit_bool (b : Bool) : Bit (b.toNat : Int) := by cases b; exact .inl rfl; exact .inr rfl

theorem out_xor (a b : Bool) : (((a.toNat : Int) + (b.toNat : Int)) % 2 = 1) ↔ (a ^^ b) = true := by cases a <;> cases b <;> simp
theorem add_xor (a b : Bool) : ((a.toNat : Int) + (b.toNat : Int)) % 2 = ((a ^^ b).toNat : Int) := by cases a <;> cases b <;> rfl

/-! sixteen bits -/

theorem bit_toNat (n k : Nat) : n / 2 ^ k % 2 = (n.testBit k).toNat := by
  rw [Nat.testBit_eq_decide_div_mod_eq]
  rcases Nat.mod_two_eq_zero_or_one (n / 2 ^ k) with h | h <;> simp [h]

/-- The number of a table of bits. -/
theorem numL_tab {w R : Nat} (hR : R < 2 ^ w) : numL (tab w fun k => ((R.testBit (w - 1 - k)).toNat : Int)) = R := by
  have key : ∀ k, k ≤ w → numL (tab k fun k => ((R.testBit (w - 1 - k)).toNat : Int)) = R / 2 ^ (w - k) := by
    intro k
    induction k with
    | zero => intro _; rw [Nat.sub_zero, Nat.div_eq_of_lt hR]; rfl
    | succ k ih =>
      intro hk
      have e := ih (by omega)
      unfold numL at e ⊢
      rw [← tab_snoc, List.foldl_append, List.foldl_cons, List.foldl_nil, e, Int.toNat_natCast, ← bit_toNat, show w - k = w - 1 - k + 1 by omega, show w - (k + 1) = w - 1 - k by omega, Nat.pow_succ, ← Nat.div_div_eq_div_mul]
      omega
  have := key w (by omega)
  rw [Nat.sub_self, Nat.pow_zero, Nat.div_one] at this
  exact this

/-! thirty-two bits -/

def reg32 (R j : Nat) : Int := ((R.testBit j).toNat : Int)
def t32 : Nat → Int := reg32 2197175160
def Rel32 (r : Nat → Int) (R : Nat) : Prop := R < 4294967296 ∧ ∀ j, j < 32 → r j = reg32 R j

theorem c32_test (R i : Nat) : (c32 R).testBit i = (R.testBit (i + 1) ^^ (R.testBit 0 && (2197175160 : Nat).testBit i)) := by
  unfold c32
  rw [Nat.testBit_xor]
  congr 1
  · rw [show R / 2 = R / 2 ^ 1 from rfl, Nat.testBit_div_two_pow]
  · cases R.testBit 0 <;> simp

theorem low_test (b : Bool) (i : Nat) : (b.toNat).testBit i = (b && decide (i = 0)) := by
  cases b with
  | false => simp
  | true => cases i <;> simp [Nat.testBit_succ]

theorem rel32_step {r : Nat → Int} {R : Nat} (h : Rel32 r R) (b : Bool) : Rel32 (refS 32 t32 r (b.toNat : Int)) (c32 (R ^^^ b.toNat)) := by
  have hx : R ^^^ b.toNat < 4294967296 := xor_lt (w := 32) h.1 (by cases b <;> decide)
  refine ⟨c32_lin.lt _ hx, fun j hj => ?_⟩
  have h0 := h.2 0 (by omega)
  have e15 : (R ^^^ b.toNat).testBit 0 = (R.testBit 0 ^^ b) := by rw [Nat.testBit_xor, low_test]; simp
  have hsh : shiftF 32 r j = (((R ^^^ b.toNat).testBit (j + 1)).toNat : Int) := by
    unfold shiftF
    rw [Nat.testBit_xor, low_test]
    by_cases h1 : j + 1 < 32
    · rw [if_pos h1, h.2 _ h1]
      unfold reg32
      simp
    · rw [if_neg h1]
      have : R.testBit (j + 1) = false := Nat.testBit_lt_two_pow (Nat.lt_of_lt_of_le h.1 (Nat.pow_le_pow_right (n := 2) (by omega) (by omega : 32 ≤ j + 1)))
      rw [this]; simp
  unfold refS
  rw [hsh, h0]
  unfold reg32 t32
  rw [c32_test, e15]
  by_cases ho : (((R.testBit 0).toNat : Int) + (b.toNat : Int)) % 2 = 1
  · rw [if_pos ho, (out_xor _ _).1 ho]
    unfold reg32
    rw [add_xor]; simp
  · rw [if_neg ho]
    have : (R.testBit 0 ^^ b) = false := by
      cases hq : (R.testBit 0 ^^ b) with
      | false => rfl
      | true => exact absurd ((out_xor _ _).2 hq) ho
    rw [this]; simp

theorem rest32 (y : Nat) : c32 (y ^^^ (y.testBit 0).toNat) = y / 2 := by
  apply Nat.eq_of_testBit_eq
  intro i
  rw [c32_test, Nat.testBit_xor, Nat.testBit_xor, low_test, low_test, show y / 2 = y / 2 ^ 1 from rfl, Nat.testBit_div_two_pow]
  simp

theorem rel32_byte {r : Nat → Int} {R : Nat} (h : Rel32 r R) (b : UInt8) : Rel32 ((tab 8 fun k => (bitAt true b.toNat k : Nat)).foldl (refS 32 t32) r) (iter c32 8 (R ^^^ b.toNat)) := by
  have hb := byte_lt b
  have hx : R ^^^ b.toNat < 4294967296 := xor_lt (w := 32) h.1 (by omega)
  have key : ∀ k, k ≤ 8 → Rel32 ((tab k fun k => (bitAt true b.toNat k : Nat)).foldl (refS 32 t32) r) (iter c32 k (R ^^^ b.toNat) ^^^ (b.toNat / 2 ^ k)) := by
    intro k
    induction k with
    | zero =>
      intro _
      have : R ^^^ b.toNat ^^^ (b.toNat / 2 ^ 0) = R := by
        rw [Nat.pow_zero, Nat.div_one, Nat.xor_assoc, Nat.xor_self, Nat.xor_zero]
      show Rel32 r (R ^^^ b.toNat ^^^ (b.toNat / 2 ^ 0))
      rw [this]; exact h
    | succ k ih =>
      intro hk
      have hs := rel32_step (ih (by omega)) (b.toNat.testBit k)
      rw [← tab_snoc, List.foldl_append, List.foldl_cons, List.foldl_nil]
      have e0 : ((bitAt true b.toNat k : Nat) : Int) = ((b.toNat.testBit k).toNat : Int) := by
        unfold bitAt; rw [if_pos rfl, bit_toNat]
      rw [e0]
      have hi := (c32_lin.iter k).lt _ hx
      have hm : b.toNat / 2 ^ k < 2 ^ 32 := Nat.lt_of_le_of_lt (Nat.div_le_self _ _) (by omega)
      have htp : (b.toNat.testBit k).toNat < 2 ^ 32 := by cases b.toNat.testBit k <;> decide
      have e1 : b.toNat.testBit k = (b.toNat / 2 ^ k).testBit 0 := by rw [Nat.testBit_div_two_pow, Nat.zero_add]
      rw [Nat.xor_assoc, c32_lin.xor _ _ hi (xor_lt hm htp), ← iter_succ c32] at hs
      rw [e1] at hs ⊢
      rw [rest32, Nat.div_div_eq_div_mul, ← Nat.pow_succ] at hs
      exact hs
  have := key 8 (by omega)
  rw [show b.toNat / 2 ^ 8 = 0 by omega, Nat.xor_zero] at this
  exact this

theorem rel32_all : ∀ (bs : List UInt8) {r : Nat → Int} {R : Nat}, Rel32 r R → Rel32 ((bitsL true bs).foldl (refS 32 t32) r) (chk (iter c32 8) (fun b => b) R bs) := by
  intro bs
  induction bs with
  | nil => intro r R h; exact h
  | cons b bs ih =>
    intro r R h
    unfold bitsL
    rw [List.flatMap_cons, List.foldl_append, chk_cons]
    exact ih (rel32_byte h b)

theorem gabionref02_Sum32.c {s : ByteArray} {h : Heap} {Q : Value → Heap → Prop} (hs : s.size ≤ 4000) (hq : ∀ h', Part h h' → Q (.int .u64 (sum32 s.data.toList)) h') : C Tryd.prog 42 #[.string s] h Q := by
  apply gabionref02_Sum32.ok
  have hrel := rel32_all s.data.toList (r := fun _ => 1) (R := 4294967295) ⟨by omega, fun j hj => by
    unfold reg32
    have : ∀ j, j < 32 → (1 : Int) = (((4294967295 : Nat).testBit j).toNat : Int) := by decide
    exact this j hj⟩
  generalize hR : chk (iter c32 8) (fun b => b) 4294967295 s.data.toList = R at hrel
  have hsum : sum32 s.data.toList = R ^^^ 4294967295 := by rw [← hR]; rfl
  rw [hsum] at hq
  have l12 : ∀ (a : Option Addr) (c : Nat) (h2 : Heap) (hp : Part h h2) (hr : readsAt h2 a (ints .i64 (tab 32 (reg32 R)))) (j k : Nat) (a' : Option Addr) (c' : Nat) (h3 : Heap), k + j = 32 →
      Own h2 h3 3 1 a' k c' (ints .i64 (tab k fun k => (((R ^^^ 4294967295).testBit (32 - 1 - k)).toNat : Int))) → gabionref02_Sum32.L12 a 32 c a' k c' k h3 Q := by
    intro a c h2 hp hr j
    induction j with
    | zero =>
      intro k a' c' h3 hk w
      obtain rfl : k = 32 := by omega
      apply gabionref02_Sum32.L12.ok
      refine xsIf_f (by simp) ?_
      have hn := numL_tab (w := 32) (R := R ^^^ 4294967295) (xor_lt hrel.1 (by omega))
      have key := gabionref02_number.c (a := a') (c := c') (ls := tab 32 fun k => (((R ^^^ 4294967295).testBit (32 - 1 - k)).toNat : Int)) (h := h3) (Q := fun r h' => ∃ x, r = .int .u64 x ∧ Q (.int .u64 x) h') (by rw [tab_length]; omega) (by
        intro x hx
        unfold tab at hx
        obtain ⟨k, _, rfl⟩ := List.mem_map.1 hx
        exact bit_bool _) w.reads ⟨_, rfl, by rw [hn]; exact hq h3 (hp.trans w.part)⟩
      rw [tab_length] at key
      exact key
    | succ j ih =>
      intro k a' c' h3 hk w
      apply gabionref02_Sum32.L12.ok
      unfold gabionref02_Sum32.L12.wp
      rw [i64_in (31 - (k : Int)) (by omega), show (31 : Int) - (k : Int) = ((31 - k : Nat) : Int) by omega]
      refine xsIf_t (by simp; omega) ⟨by omega, reads_ints (i := 31 - k) (readsAt_part hr w.part) (by rw [tab_length]; omega) fun b o hc => ⟨_, by rw [Int.toNat_natCast]; exact hc (31 - k) _ (tab_get _ (by omega)), fun b1 hb1 => ?_⟩⟩
      have hbit := bit_bool (R.testBit (31 - k))
      unfold Bit at hbit
      unfold reg32
      rw [i64_in _ (by omega), i64_in _ (by omega)]
      have e : (1 : Int) - ((R.testBit (31 - k)).toNat : Int) = (((R ^^^ 4294967295).testBit (32 - 1 - k)).toNat : Int) := by
        rw [Nat.testBit_xor, show (4294967295 : Nat) = 2 ^ 32 - 1 from rfl, Nat.testBit_two_pow_sub_one, show 32 - 1 - k = 31 - k by omega]
        simp only [show 31 - k < 32 by omega, decide_true]
        cases R.testBit (31 - k) <;> rfl
      rw [e]
      refine w.isnoc hb1 int_cells.1 (by rw [int_cells.2.1]; rfl) (by rw [int_cells.2.2]; omega) fun a'' c'' h' w' => ?_
      rw [tab_snoc k fun k => (((R ^^^ 4294967295).testBit (32 - 1 - k)).toNat : Int)] at w'
      exact ih (k + 1) a'' c'' h' (by omega) w'
  have l4 : ∀ (j k : Nat) (a' : Option Addr) (c' : Nat) (h3 : Heap), k + j = 32 → Own h h3 3 1 a' k c' (ints .i64 (tab k t32)) → gabionref02_Sum32.L4 s 2197175160 a' k c' k h3 Q := by
    intro j
    induction j with
    | zero =>
      intro k a' c' h3 hk w
      obtain rfl : k = 32 := by omega
      apply gabionref02_Sum32.L4.ok
      refine xsIf_f (by simp) ?_
      apply gabionref02_Sum32.J8.ok
      refine gabionref02_bits.c hs fun a c h1 w1 => ⟨_, _, _, rfl, ?_⟩
      have hl : (bitsL true s.data.toList).length = 8 * s.size := by rw [bitsL_length]; simp
      rw [← hl]
      refine gabionref02_Sum.c (n := 32) (t := t32) (ls := bitsL true s.data.toList) (by omega) (by omega) (by omega) ?_ (fun j => bit_bool _) w1.reads (readsAt_part w.reads w1.part) (fun a2 c2 h2 w2 => ⟨_, _, _, rfl, ?_⟩)
      · intro x hx
        unfold bitsL at hx
        obtain ⟨y, _, hx⟩ := List.mem_flatMap.1 hx
        unfold tab at hx
        obtain ⟨k, _, rfl⟩ := List.mem_map.1 hx
        unfold Bit bitAt; omega
      · have e : tab 32 ((bitsL true s.data.toList).foldl (refS 32 t32) fun _ => 1) = tab 32 (reg32 R) := tab_congr fun j hj => hrel.2 j hj
        rw [e] at w2
        exact l12 a2 c2 h2 (w.part.trans (w1.part.trans w2.part)) w2.reads 32 0 none 0 h2 (by omega) (Own.nil (Part.refl h2))
    | succ j ih =>
      intro k a' c' h3 hk w
      apply gabionref02_Sum32.L4.ok
      refine xsIf_t (by simp; omega) ?_
      refine gabionref01_Field.c (w := 2197175160) (by omega) ⟨_, rfl, fun b1 hb1 => ?_⟩
      have e : ((fieldV 2197175160 (k : Int) 1 : Nat) : Int) = t32 k := by
        rw [field_bit (by omega), bit_toNat]; rfl
      have ht : t32 k = 0 ∨ t32 k = 1 := bit_bool _
      rw [e, i64_in (t32 k) (by omega)]
      refine w.isnoc hb1 int_cells.1 (by rw [int_cells.2.1]; rfl) (by rw [int_cells.2.2]; omega) fun a'' c'' h' w' => ?_
      rw [tab_snoc k t32] at w'
      rw [i64_in _ (by omega)]
      exact ih (k + 1) a'' c'' h' (by omega) w'
  exact l4 32 0 none 0 h (by omega) (Own.nil (Part.refl h))

end Go.Gb
namespace Go.Gb
open Go.Proofs IntWalk

/-! ## crc: the laws -/

/-! one byte another one -/

end Go.Gb
