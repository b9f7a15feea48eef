/- Own text for the seat: G2. -/
import Derived.Test.YtbphidfhcijbhaaW
import Derived.Test.YtbphidfhcijbhaaGbClose
import Derived.Test.YtbphidfhcijbhaaGbSl
set_option linter.unusedVariables false
set_option linter.unusedSimpArgs false
set_option linter.unnecessarySimpa false
set_option linter.deprecated false
namespace Go.Gb
open Go.Proofs IntWalk


/-! ## le: the plain functions -/

def putL : Nat → Nat → List UInt8
  | _, 0 => []
  | n, k + 1 => UInt8.ofNat n :: putL (n / 256) k

def getL : List UInt8 → Nat
  | [] => 0
  | b :: r => b.toNat + 256 * getL r

theorem putL_length (k : Nat) : ∀ n, (putL n k).length = k := by
  induction k with
  | zero => intro n; rfl
  | succ k ih => intro n; simp [putL, ih]

theorem getL_put (k : Nat) : ∀ n, getL (putL n k) = n % 256 ^ k := by
  induction k with
  | zero => intro n; simp [putL, getL, Nat.mod_one]
  | succ k ih =>
    intro n
    simp only [putL, getL, ih]
    rw [Nat.pow_succ, Nat.mul_comm (256 ^ k) 256, Nat.mod_mul, UInt8.toNat_ofNat']

theorem getL_lt (l : List UInt8) : getL l < 256 ^ l.length := by
  induction l with
  | nil => simp [getL]
  | cons b r ih =>
    simp only [getL, List.length_cons, Nat.pow_succ]
    have := b.toNat_lt
    omega

theorem putL_get (l : List UInt8) : putL (getL l) l.length = l := by
  induction l with
  | nil => rfl
  | cons b r ih =>
    simp only [getL, List.length_cons, putL]
    have := b.toNat_lt
    have e1 : (b.toNat + 256 * getL r) / 256 = getL r := by omega
    rw [e1, ih]
    congr 1
    apply UInt8.toNat_inj.1
    rw [UInt8.toNat_ofNat']
    omega

theorem putL_append (k : Nat) : ∀ (n j : Nat), putL n (k + j) = putL n k ++ putL (n / 256 ^ k) j := by
  induction k with
  | zero => intro n j; simp [putL]
  | succ k ih =>
    intro n j
    rw [Nat.succ_add]
    simp only [putL, ih, List.cons_append]
    rw [Nat.div_div_eq_div_mul, Nat.pow_succ, Nat.mul_comm 256]

theorem putL_mod (k : Nat) : ∀ (n : Nat), putL (n % 256 ^ k) k = putL n k := by
  induction k with
  | zero => intro n; rfl
  | succ k ih =>
    intro n
    simp only [putL]
    have e : n % 256 ^ (k + 1) / 256 = n / 256 % 256 ^ k := by rw [Nat.pow_succ, Nat.mul_comm, Nat.mod_mul_right_div_self]
    rw [e, ih]
    congr 1
    apply UInt8.toNat_inj.1
    rw [UInt8.toNat_ofNat', UInt8.toNat_ofNat', Nat.pow_succ, Nat.mul_comm]
    simp [Nat.mod_mul_right_mod]

theorem getL_append (a b : List UInt8) : getL (a ++ b) = getL a + 256 ^ a.length * getL b := by
  induction a with
  | nil => simp [getL]
  | cons x a ih => simp only [List.cons_append, getL, ih, List.length_cons, Nat.pow_succ]; rw [Nat.mul_add, Nat.mul_comm (256 ^ a.length) 256, Nat.mul_assoc]; omega

theorem byteVals_snoc (bs : List UInt8) (n : Nat) : byteVals bs ++ [Value.int .u8 (IntKind.u8.wrap (n : Int))] = byteVals (bs ++ [UInt8.ofNat n]) := by
  unfold byteVals
  rw [List.map_append]
  congr 1

/-- Of a slice of bytes that the call owns: its string. -/
theorem Own.str {h0 h : Heap} {T : TypeId} {a : Option Addr} {n c : Nat} {bs : List UInt8} {K : ByteArray → Prop} (w : Own h0 h T 1 a n c (byteVals bs)) (hk : K ⟨bs.toArray⟩) : xsStr h a n K :=
  ⟨bs, by have := w.len; simpa [byteVals] using this, w.reads, hk⟩

theorem bytes_cells : cellSize Try.prog 5 = 1 ∧ (cellZero Try.prog 5).length = 1 ∧ cellBytes Try.prog 5 = 1 := ⟨by kernel_rfl, by kernel_rfl, by kernel_rfl⟩

/-- One byte more. -/
theorem Own.byte {h0 h : Heap} {a : Option Addr} {n c b1 v : Nat} {bs : List UInt8} {K : Option Addr → Nat → Nat → Heap → Prop} (w : Own h0 h 5 1 a n c (byteVals bs)) (hn : n ≤ 1000000) (hb : h b1 = none)
    (hk : ∀ a' c' h', Own h0 h' 5 1 a' (n + 1) c' (byteVals (bs ++ [UInt8.ofNat v])) → K a' (n + 1) c' h') :
    xsApp Try.prog 5 (upd h b1 (.cells #[.int .u8 (IntKind.u8.wrap (v : Int))] 5 (0, 0))) a n c (some ⟨b1, 0, none⟩) 1 K := by
  refine Own.append (m := 1) (new := [.int .u8 (IntKind.u8.wrap (v : Int))]) (w.keep (Part.upd hb _)) bytes_cells.1 (by omega) rfl rfl (readsAt_new 5 _) bytes_cells.2.1 (by rw [bytes_cells.2.2]; omega) ?_
  intro a' c' h' o
  rw [byteVals_snoc] at o
  exact hk _ _ _ o

theorem le_Put.L3.c {h0 : Heap} {Q : Value → Heap → Prop} {t8 : Int} (ht : t8 ≤ 8) : ∀ (j : Nat) (t9 : Int) (n : Nat) (bs : List UInt8) (a : Option Addr) (m c : Nat) (h : Heap),
    0 ≤ t9 → t9 + j = t8 → n < 18446744073709551616 → m ≤ t9 → Own h0 h 5 1 a m c (byteVals bs) → (∀ h', Part h0 h' → Q (.string ⟨(bs ++ putL n j).toArray⟩) h') →
    le_Put.L3 n a m c t8 t9 h Q := by
  intro j
  induction j with
  | zero =>
    intro t9 n bs a m c h h1 h2 hn hm w hq
    apply le_Put.L3.ok
    unfold le_Put.L3.wp
    refine xsIf_f (by simp; omega) ?_
    refine w.str ?_
    have := hq h w.part
    simpa [putL] using this
  | succ j ih =>
    intro t9 n bs a m c h h1 h2 hn hm w hq
    apply le_Put.L3.ok
    unfold le_Put.L3.wp
    refine xsIf_t (by simp; omega) ?_
    intro b1 hb1
    refine w.byte (by omega) hb1 ?_
    intro a' c' h' w'
    rw [show (8 : Int) = ((8 : Nat) : Int) from rfl, ishr_u64 (by omega), i64_in _ (by omega)]
    refine ih (t9 + 1) (n / 2 ^ 8) _ a' (m + 1) c' h' (by omega) (by omega) (by omega) (by omega) w' ?_
    intro h'' p
    have := hq h'' p
    simpa [putL] using this

/-- How many bytes. -/
def cnt (size : Int) : Nat := (min (max size 0) 8).toNat

theorem le_Put.c {n : Nat} {size : Int} {h : Heap} {Q : Value → Heap → Prop} (hn : n < 18446744073709551616) (hq : Q (.string ⟨(putL n (cnt size)).toArray⟩) h) : C Try.prog 76 #[.int .u64 n, .int .i64 size] h Q := by
  apply C.drop
  apply le_Put.ok
  unfold le_Put.wp
  rw [imin_eq, imax_eq]
  refine le_Put.L3.c (h0 := h) (by omega) (cnt size) 0 n [] none 0 0 h (by omega) ?_ hn (by omega) (Own.nil (Part.refl h)) ?_
  · unfold cnt; omega
  · intro h' p
    exact ⟨h, p, by simpa using hq⟩

theorem gabionref01_Put.L3.c {h0 : Heap} {Q : Value → Heap → Prop} {size : Int} : ∀ (j : Nat) (i : Int) (n : Nat) (bs : List UInt8) (a : Option Addr) (m c : Nat) (h : Heap),
    0 ≤ i → i + j = max (min size 8) i → n < 18446744073709551616 → m ≤ i → Own h0 h 5 1 a m c (byteVals bs) → (∀ h', Part h0 h' → Q (.string ⟨(bs ++ putL n j).toArray⟩) h') →
    gabionref01_Put.L3 n size a m c i h Q := by
  intro j
  induction j with
  | zero =>
    intro i n bs a m c h h1 h2 hn hm w hq
    apply gabionref01_Put.L3.ok
    unfold gabionref01_Put.L3.wp
    refine xsIf_intro (fun h3 => xsIf_intro (fun h4 => ?_) (fun h4 => ?_)) (fun h3 => ?_)
    · simp at h3 h4; omega
    · refine w.str ?_
      have := hq h w.part
      simpa [putL] using this
    · refine w.str ?_
      have := hq h w.part
      simpa [putL] using this
  | succ j ih =>
    intro i n bs a m c h h1 h2 hn hm w hq
    apply gabionref01_Put.L3.ok
    unfold gabionref01_Put.L3.wp
    refine xsIf_t (by simp; omega) (xsIf_t (by simp; omega) ?_)
    apply gabionref01_Put.J5.ok
    intro b1 hb1
    have e : IntKind.u8.wrap (irem (n : Int) 256) = IntKind.u8.wrap (n : Int) := by
      rw [show (256 : Int) = ((256 : Nat) : Int) from rfl, irem_nat, u8_nat, u8_nat, Nat.mod_mod]
    rw [e]
    refine w.byte (by omega) hb1 ?_
    intro a' c' h' w'
    rw [show (256 : Int) = ((256 : Nat) : Int) from rfl, iquo_u64 _ hn, i64_in _ (by omega)]
    refine ih (i + 1) (n / 256) _ a' (m + 1) c' h' (by omega) (by omega) (by omega) (by omega) w' ?_
    intro h'' p
    have := hq h'' p
    simpa [putL] using this

theorem gabionref01_Put.c {n : Nat} {size : Int} {h : Heap} {Q : Value → Heap → Prop} (hn : n < 18446744073709551616) (hq : Q (.string ⟨(putL n (cnt size)).toArray⟩) h) : C Try.prog 68 #[.int .u64 n, .int .i64 size] h Q := by
  apply C.drop
  apply gabionref01_Put.ok
  unfold gabionref01_Put.wp
  refine gabionref01_Put.L3.c (h0 := h) (cnt size) 0 n [] none 0 0 h (by omega) ?_ hn (by omega) (Own.nil (Part.refl h)) ?_
  · unfold cnt; omega
  · intro h' p
    exact ⟨h, p, by simpa using hq⟩

/-- The number of the first eight bytes. -/
def get8 (s : ByteArray) : Nat := getL (s.data.toList.take 8)

theorem bget_get {s : ByteArray} {i : Nat} (h : i < s.size) : bget s i = some (s.data.toList[i]'(by simpa using h)) := by
  unfold bget
  simp [h]
  rfl

theorem take_succ_get {l : List UInt8} {i : Nat} (h : i < l.length) : l.drop i = l[i] :: l.drop (i + 1) := List.drop_eq_getElem_cons h

theorem le_Get.L3.c {s : ByteArray} {h : Heap} {Q : Value → Heap → Prop} (hq : Q (.int .u64 (get8 s)) h) : ∀ (j : Nat) (n : Nat), j ≤ 8 → j ≤ s.size → n = getL ((s.data.toList.take 8).drop j) →
    le_Get.L3 s n ((j : Int) - 1) h Q := by
  intro j
  induction j with
  | zero =>
    intro n _ _ hn
    apply le_Get.L3.ok
    refine xsIf_f (by simp) ?_
    rw [hn]; simpa [get8] using hq
  | succ j ih =>
    intro n h8 hs hn
    apply le_Get.L3.ok
    refine xsIf_t (by simp) ?_
    have hjs : j < s.size := by omega
    have hl : s.data.toList.length = s.size := by simp
    have hj : ((↑(j + 1) : Int) - 1).toNat = j := by omega
    refine ⟨_, by omega, by rw [hj]; exact bget_get hjs, ?_⟩
    have hlt := getL_lt ((s.data.toList.take 8).drop (j + 1))
    rw [← hn] at hlt
    have hlen : ((s.data.toList.take 8).drop (j + 1)).length ≤ 7 - j := by simp; omega
    have hn2 : n < 256 ^ (7 - j) := Nat.lt_of_lt_of_le hlt (Nat.pow_le_pow_right (by omega) hlen)
    have hn3 : n < 72057594037927936 := Nat.lt_of_lt_of_le hn2 (Nat.pow_le_pow_right (by omega) (show 7 - j ≤ 7 by omega))
    generalize hb : s.data.toList[j]'(by omega) = b
    have hbl := b.toNat_lt
    rw [show (8 : Int) = ((8 : Nat) : Int) from rfl, ishl_u64 (by omega), u64_nat' (by omega), Nat.mod_eq_of_lt (by omega), ior_u64 (by omega) (by omega), i64_in _ (by omega)]
    rw [show (↑(j + 1) : Int) - 1 - 1 = (j : Int) - 1 by omega]
    refine ih _ (by omega) (by omega) ?_
    have hdr : (s.data.toList.take 8).drop j = b :: (s.data.toList.take 8).drop (j + 1) := by
      rw [List.drop_eq_getElem_cons (by simp; omega)]
      congr 1
      simp [← hb]
    rw [hdr]
    simp only [getL]
    rw [← hn, Nat.mul_comm n, ← Nat.two_pow_add_eq_or_of_lt (by omega : b.toNat < 2 ^ 8)]
    omega

theorem le_Get.c {s : ByteArray} {h : Heap} {Q : Value → Heap → Prop} (hs : s.size ≤ 9223372036854775807) (hq : Q (.int .u64 (get8 s)) h) : C Try.prog 77 #[.string s] h Q := by
  apply le_Get.ok
  unfold le_Get.wp
  rw [imin_eq, i64_in _ (by omega)]
  have := le_Get.L3.c hq (min s.size 8) 0 (by omega) (by omega) (by
    rw [List.drop_eq_nil_of_le]; rfl
    simp
    have : s.data.size = s.size := rfl
    omega)
  have e : ((min s.size 8 : Nat) : Int) - 1 = min (s.size : Int) 8 - 1 := by omega
  rw [e] at this
  exact this

theorem gabionref01_Get.L4.c {s : ByteArray} {h : Heap} {Q : Value → Heap → Prop} (hq : Q (.int .u64 (get8 s)) h) : ∀ (j i n : Nat), i + j = min s.size 8 → n = getL (s.data.toList.take i) →
    gabionref01_Get.L4 s n ((256 ^ i % 18446744073709551616 : Nat) : Int) i h Q := by
  intro j
  induction j with
  | zero =>
    intro i n hi hn
    apply gabionref01_Get.L4.ok
    have hfin : Q (.int .u64 n) h := by
      have : s.data.toList.take i = s.data.toList.take 8 := by
        have hl : s.data.toList.length = s.size := by simp
        by_cases h8 : s.size ≤ 8
        · rw [List.take_of_length_le (by omega), List.take_of_length_le (by omega)]
        · rw [show i = 8 by omega]
      rw [hn, this]; exact hq
    refine xsIf_intro (fun h3 => xsIf_intro (fun h4 => ?_) (fun h4 => hfin)) (fun h3 => hfin)
    simp at h3 h4; omega
  | succ j ih =>
    intro i n hi hn
    apply gabionref01_Get.L4.ok
    refine xsIf_t (by simp; omega) (xsIf_t (by simp; omega) ?_)
    apply gabionref01_Get.J6.ok
    have hl : s.data.toList.length = s.size := by simp
    refine ⟨_, by omega, by rw [Int.toNat_natCast]; exact bget_get (by omega), ?_⟩
    generalize hb : s.data.toList[i]'(by omega) = b
    have hbl := b.toNat_lt
    have hi8 : i < 8 := by omega
    have hp : 256 ^ i ≤ 256 ^ 7 := Nat.pow_le_pow_right (by omega) (by omega)
    have hlt := getL_lt (s.data.toList.take i)
    have htl : (s.data.toList.take i).length = i := by simp; omega
    rw [← hn, htl] at hlt
    rw [Nat.mod_eq_of_lt (by omega : 256 ^ i < 18446744073709551616)]
    have hmul : 256 ^ i * b.toNat ≤ 256 ^ i * 255 := Nat.mul_le_mul_left _ (by omega)
    rw [u64_nat' (by omega : b.toNat < _), ← Int.natCast_mul, u64_nat' (by omega), ← Int.natCast_add, u64_nat' (by omega), show (256 : Int) = ((256 : Nat) : Int) from rfl, ← Int.natCast_mul, u64_nat, i64_in _ (by omega)]
    have := ih (i + 1) (n + 256 ^ i * b.toNat) (by omega) (by
      rw [List.take_add_one, getL_append, htl, ← hn]
      have : s.data.toList[i]? = some b := by rw [← hb]; exact List.getElem?_eq_getElem _
      rw [this]
      simp [getL])
    rw [Nat.pow_succ] at this
    exact this

theorem gabionref01_Get.c {s : ByteArray} {h : Heap} {Q : Value → Heap → Prop} (hq : Q (.int .u64 (get8 s)) h) : C Try.prog 66 #[.string s] h Q := by
  apply gabionref01_Get.ok
  unfold gabionref01_Get.wp
  exact gabionref01_Get.L4.c hq (min s.size 8) 0 0 (by omega) rfl

end Go.Gb
