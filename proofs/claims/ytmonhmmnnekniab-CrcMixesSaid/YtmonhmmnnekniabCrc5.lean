/- Own text for the seat: Crc5. -/
import Derived.Test.YtmonhmmnnekniabCrc4
set_option linter.unusedVariables false
set_option linter.unusedSimpArgs false
set_option linter.unnecessarySimpa false
set_option linter.deprecated false
namespace Go.Gb
open Go.Proofs IntWalk

/-! ## crc: three texts -/

theorem xor3_length : ∀ (a b c : List UInt8), a.length = b.length → a.length = c.length → (xor3 a b c).length = a.length := by
  intro a
  induction a with
  | nil => intro b c h1 h2; cases b <;> cases c <;> simp_all [xor3]
  | cons x a ih =>
    intro b c h1 h2
    cases b with
    | nil => simp at h1
    | cons y b => cases c with
      | nil => simp at h2
      | cons z c => simp only [xor3, List.length_cons]; rw [ih b c (by simpa using h1) (by simpa using h2)]

theorem xor3_get : ∀ (a b c : List UInt8) (i : Nat) (x y z : UInt8), a[i]? = some x → b[i]? = some y → c[i]? = some z → (xor3 a b c)[i]? = some (x ^^^ y ^^^ z) := by
  intro a
  induction a with
  | nil => intro b c i x y z h1; simp at h1
  | cons p a ih =>
    intro b c i x y z h1 h2 h3
    cases b with
    | nil => simp at h2
    | cons q b => cases c with
      | nil => simp at h3
      | cons r c =>
        cases i with
        | zero => simp at h1 h2 h3; subst h1; subst h2; subst h3; rfl
        | succ i => simp only [List.getElem?_cons_succ] at h1 h2 h3; simp only [xor3, List.getElem?_cons_succ]; exact ih b c i x y z h1 h2 h3

theorem fill_set {l : List UInt8} {n i : Nat} {x : UInt8} (hl : l.length = n) (hi : i < n) (hx : l[i]? = some x) : (l.take i ++ List.replicate (n - i) 0).set i x = l.take (i + 1) ++ List.replicate (n - (i + 1)) 0 := by
  have hlt : i < l.length := by omega
  have hg : l[i] = x := by rw [List.getElem?_eq_getElem hlt] at hx; simpa using hx
  have ht : (l.take i).length = i := by rw [List.length_take]; omega
  rw [List.take_succ_eq_append_getElem hlt, hg, List.set_append_right _ _ (by omega), ht, Nat.sub_self, show n - i = n - (i + 1) + 1 by omega, List.replicate_succ, List.set_cons_zero]
  simp

theorem byte_cells : cellZero Try.prog 5 = [.int .u8 0] ∧ cellBytes Try.prog 5 = 1 := ⟨by kernel_rfl, by kernel_rfl⟩

theorem gabionlaw02_CrcMixes.law (a : ByteArray) (ha : a.size ≤ 140737488351232) (b : ByteArray) (hb : b.size ≤ 140737488351232) (c : ByteArray) (hc : c.size ≤ 140737488351232) (h : Heap) :
    C Try.prog 6 #[.string a, .string b, .string c] h fun v h' => v = .bool true ∧ Part h h' := by
  apply gabionlaw02_CrcMixes.ok
  unfold gabionlaw02_CrcMixes.wp
  obtain ⟨n, hn, hna, hnb, hnc, hn5⟩ : ∃ n : Nat, imin (imin (imin (a.size : Int) (b.size : Int)) (c.size : Int)) 500 = n ∧ n ≤ a.size ∧ n ≤ b.size ∧ n ≤ c.size ∧ n ≤ 500 :=
    ⟨min (min (min a.size b.size) c.size) 500, by rw [imin_eq, imin_eq, imin_eq]; omega, by omega, by omega, by omega, by omega⟩
  rw [hn]
  refine Own.make (h0 := h) (Part.refl h) byte_cells.1 (by omega) (by rw [byte_cells.2]; omega) (by omega) fun x h1 w => ?_
  rw [Int.toNat_natCast] at w ⊢
  generalize hA : a.data.toList.take n = A
  generalize hB : b.data.toList.take n = B
  generalize hC : c.data.toList.take n = D
  have lA : A.length = n := by rw [← hA, List.length_take, ← size_list]; omega
  have lB : B.length = n := by rw [← hB, List.length_take, ← size_list]; omega
  have lD : D.length = n := by rw [← hC, List.length_take, ← size_list]; omega
  have lX : (xor3 A B D).length = n := by rw [xor3_length _ _ _ (by omega) (by omega), lA]
  have get : ∀ (s : ByteArray) (S : List UInt8) (i : Nat), s.data.toList.take n = S → n ≤ s.size → i < n → ∃ y, bget s i = some y ∧ S[i]? = some y := by
    intro s S i hS hs hi
    refine ⟨_, bget_get (by omega), ?_⟩
    rw [← hS, List.getElem?_take, if_pos hi, List.getElem?_eq_getElem]
  have loop : ∀ (j i : Nat) (h' : Heap), i + j = n → Own h h' 5 1 x n n (byteVals ((xor3 A B D).take i ++ List.replicate (n - i) 0)) → gabionlaw02_CrcMixes.L4 a b c n x n n n i h' fun v h' => v = .bool true ∧ Part h h' := by
    intro j
    induction j with
    | zero =>
      intro i h' hi w
      obtain rfl : i = n := by omega
      apply gabionlaw02_CrcMixes.L4.ok
      refine xsIf_f (by simp) ?_
      apply gabionlaw02_CrcMixes.J8.ok
      rw [Nat.sub_self, List.replicate_zero, List.append_nil, List.take_of_length_le (by omega)] at w
      refine ⟨by omega, by omega, by omega, gabionlaw02_wakes.c ⟨_, rfl, xsIf_t rfl ⟨xor3 A B D, lX, w.reads, ?_⟩⟩⟩
      have sz : ∀ l : List UInt8, l.length = i → (⟨l.toArray⟩ : ByteArray).size ≤ 9223372036854775807 := fun l hl => by rw [size_list]; simp; omega
      have sx : ∀ s : ByteArray, (sext s 0 (i : Int)).size ≤ 9223372036854775807 := fun s => by rw [sext_size0]; omega
      refine crc_Sum16.c (sz _ lX) ⟨_, rfl, crc_Sum16.c (sx a) ⟨_, rfl, crc_Sum16.c (sx b) ⟨_, rfl, crc_Sum16.c (sx c) ⟨_, rfl, ?_⟩⟩⟩⟩
      rw [sext_list, sext_list, sext_list, hA, hB, hC]
      have a16 := sum16_lt A
      have b16 := sum16_lt B
      have c16 := sum16_lt D
      rw [ixorU (k := .u16) rfl a16 b16, ixorU (k := .u16) rfl (xor_lt (w := 16) a16 b16) c16]
      have e16 : sum16 (⟨(xor3 A B D).toArray⟩ : ByteArray).data.toList = sum16 A ^^^ sum16 B ^^^ sum16 D := sum16_mixes A B D (by omega) (by omega)
      rw [e16]
      refine xsIf_t (by simp) ⟨xor3 A B D, lX, w.reads, ?_⟩
      refine crc_Sum32.c (sz _ lX) ⟨_, rfl, crc_Sum32.c (sx a) ⟨_, rfl, crc_Sum32.c (sx b) ⟨_, rfl, crc_Sum32.c (sx c) ⟨_, rfl, ?_⟩⟩⟩⟩
      rw [sext_list, sext_list, sext_list, hA, hB, hC]
      have a32 := sum32_lt A
      have b32 := sum32_lt B
      have c32 := sum32_lt D
      rw [ixorU (k := .u32) rfl a32 b32, ixorU (k := .u32) rfl (xor_lt (w := 32) a32 b32) c32]
      have e32 : sum32 (⟨(xor3 A B D).toArray⟩ : ByteArray).data.toList = sum32 A ^^^ sum32 B ^^^ sum32 D := sum32_mixes A B D (by omega) (by omega)
      rw [e32]
      exact ⟨by simp, w.part⟩
    | succ j ih =>
      intro i h' hi w
      apply gabionlaw02_CrcMixes.L4.ok
      obtain ⟨p, hp, hp'⟩ := get a A i hA hna (by omega)
      obtain ⟨q, hq, hq'⟩ := get b B i hB hnb (by omega)
      obtain ⟨r, hr, hr'⟩ := get c D i hC hnc (by omega)
      refine xsIf_t (by simp; omega) ⟨p, by omega, by rw [Int.toNat_natCast]; exact hp, q, by omega, by rw [Int.toNat_natCast]; exact hq, r, by omega, by rw [Int.toNat_natCast]; exact hr, by omega, w.base (by omega) fun b1 hcell hcan hput => ⟨by rw [Int.toNat_natCast]; exact hcan i (by omega), ?_⟩⟩
      rw [Int.toNat_natCast, i64_in _ (by omega)]
      refine ih (i + 1) _ (by omega) ?_
      have := hput i (.int .u8 ((p ^^^ q ^^^ r).toNat : Int)) (by omega)
      rw [byteVals_set, fill_set lX (by omega) (xor3_get A B D i p q r hp' hq' hr')] at this
      rw [ixorU (k := .u8) rfl (byte_lt p) (byte_lt q), ixorU (k := .u8) rfl (xor_lt (w := 8) (byte_lt p) (byte_lt q)) (byte_lt r), show p.toNat ^^^ q.toNat ^^^ r.toNat = (p ^^^ q ^^^ r).toNat by simp]
      exact this
  refine loop n 0 h1 (by omega) ?_
  have e : byteVals ((xor3 A B D).take 0 ++ List.replicate (n - 0) 0) = List.replicate n (Value.int .u8 0) := by simp [byteVals]
  rw [e]; exact w

end Go.Gb
