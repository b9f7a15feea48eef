/- Own text for the seat: Crc4. -/
import Derived.Test.YtmonhmmnnekniabCrc3
set_option linter.unusedVariables false
set_option linter.unusedSimpArgs false
set_option linter.unnecessarySimpa false
set_option linter.deprecated false
namespace Go.Gb
open Go.Proofs IntWalk

/-! ## crc: the laws -/

theorem sext_list (s : ByteArray) (n : Nat) : (sext s 0 (n : Int)).data.toList = s.data.toList.take n := by
  unfold sext
  rw [Int.toNat_natCast, ByteArray.data_extract]
  simp

theorem size_list (s : ByteArray) : s.size = s.data.toList.length := by simp

theorem sext_size0 (s : ByteArray) (n : Nat) : (sext s 0 (n : Int)).size = min n s.size := by
  rw [size_list, sext_list, List.length_take, size_list s]

theorem gabionlaw02_CrcSums.law (s : ByteArray) (hs : s.size ≤ 140737488351232) (h : Heap) : C Try.prog 3 #[.string s] h fun v h' => v = .bool true ∧ Part h h' := by
  apply gabionlaw02_CrcSums.ok
  unfold gabionlaw02_CrcSums.wp
  have hm : imin (s.size : Int) 400 = ((min s.size 400 : Nat) : Int) := by rw [imin_eq]; omega
  rw [hm]
  have hz := sext_size0 s (min s.size 400)
  refine ⟨by omega, gabionlaw02_wakes.c ⟨_, rfl, xsIf_t rfl ?_⟩⟩
  generalize sext s 0 ((min s.size 400 : Nat) : Int) = t at hz ⊢
  refine crc_Sum16.c (by omega) ⟨_, rfl, ?_⟩
  refine gabionref02_Sum16.c (by omega) fun h1 p1 => ⟨_, rfl, ?_⟩
  have h16 := sum16_lt t.data.toList
  have h32 := sum32_lt t.data.toList
  rw [u64_nat' (by omega)]
  refine xsIf_t (by simp) (crc_Sum32.c (by omega) ⟨_, rfl, ?_⟩)
  refine gabionref02_Sum32.c (by omega) fun h2 p2 => ⟨_, rfl, ?_⟩
  rw [u64_nat' (by omega)]
  exact ⟨by simp, p1.trans p2⟩

theorem crcGuards_step {n x j b : Nat} {h h0 : Heap} {Q : Value → Heap → Prop} (hx : x < 18446744073709551616) (hj : j < 3) (hc : h.cell b (0 + j * 1) = some (.int .u64 x)) (hp : Part h0 h)
    (hq : ∀ h', Part h h' → gabionlaw02_CrcGuards.L2 n (some ⟨b, 0, none⟩) 3 3 ((3 : Nat) : Int) ((j + 1 : Nat) : Int) h' Q) : gabionlaw02_CrcGuards.L2 n (some ⟨b, 0, none⟩) 3 3 ((3 : Nat) : Int) j h Q := by
  apply gabionlaw02_CrcGuards.L2.ok
  refine xsIf_t (by simp; omega) ⟨by omega, ⟨b, 0, rfl, x, by rw [Int.toNat_natCast]; exact hc, ?_⟩⟩
  refine crc_Guarded.c hx ⟨_, _, rfl, ?_⟩
  refine gabionref02_Guard.c hx fun h1 p1 => ⟨_, rfl, ?_⟩
  have hq1 := hq h1 p1
  rw [i64_in _ (by omega)]
  have hand : iand .u64 (x : Int) 281474976710655 = ((x % 281474976710656 : Nat) : Int) := by
    rw [show (281474976710655 : Int) = ((281474976710655 : Nat) : Int) from rfl, iand_u64 hx (by omega), show (281474976710655 : Nat) = 2 ^ 48 - 1 from rfl, Nat.and_two_pow_sub_one_eq_mod]
  by_cases e : guardN x = x
  · rw [if_pos e, decide_eq_true e, e]
    exact xsIf_f (by simp) (xsIf_t rfl (xsIf_f (by rw [hand]; simp) (xsIf_f rfl hq1)))
  · rw [if_neg e, decide_eq_false e]
    have e' : ¬ ((guardN x : Int) = (x : Int)) := by omega
    exact xsIf_f (by simp [e']) (xsIf_f rfl (xsIf_t rfl (xsIf_f (by simp) hq1)))

theorem gabionlaw02_CrcGuards.law (n : Int) (hn : IntKind.u64.min ≤ n ∧ n ≤ IntKind.u64.max) (w : Int) (hw : IntKind.u64.min ≤ w ∧ w ≤ IntKind.u64.max) (h : Heap) : C Try.prog 4 #[.int .u64 n, .int .u64 w] h fun v h' => v = .bool true ∧ Part h h' := by
  obtain ⟨n, rfl, hn'⟩ := nat_of rfl hn
  obtain ⟨w, rfl, hw'⟩ := nat_of rfl hw
  have hn' : n < 18446744073709551616 := hn'
  have hw' : w < 18446744073709551616 := hw'
  apply gabionlaw02_CrcGuards.ok
  refine gabionref02_Guard.c hn' fun h1 p1 => ⟨_, rfl, fun b hb => ?_⟩
  have p2 := Part.upd hb (.cells #[.int .u64 w, .int .u64 (guardN n : Nat), .int .u64 n] 23 (0, 0))
  refine crcGuards_step (x := w) (j := 0) hw' (by omega) (by simp [Heap.cell, upd_same]) p2 fun h2 p3 => ?_
  refine crcGuards_step (x := guardN n) (j := 1) (guardN_lt n) (by omega) (p3.cell (by simp [Heap.cell, upd_same])) (p2.trans p3) fun h3 p4 => ?_
  refine crcGuards_step (x := n) (j := 2) hn' (by omega) ((p3.trans p4).cell (by simp [Heap.cell, upd_same])) (p2.trans (p3.trans p4)) fun h4 p5 => ?_
  apply gabionlaw02_CrcGuards.L2.ok
  refine xsIf_f (by simp) (gabionlaw02_wakes.c ⟨_, rfl, xsIf_t rfl ?_⟩)
  refine crc_Guard.c hn' ⟨_, rfl, gabionref02_Guard.c hn' fun h5 p6 => ⟨_, rfl, by simp, ?_⟩⟩
  exact p1.trans (p2.trans (p3.trans (p4.trans (p5.trans p6))))

/-! one byte another one -/

theorem sum_set (F : List UInt8 → Nat) (hF : ∀ ps bs (x y : UInt8), x ≠ y → F (ps ++ x :: bs) ≠ F (ps ++ y :: bs)) {l : List UInt8} {i : Nat} (hi : i < l.length) {y : UInt8} (hy : l[i] ≠ y) : F l ≠ F (l.set i y) := by
  have e1 : l = l.take i ++ l[i] :: l.drop (i + 1) := by rw [← List.drop_eq_getElem_cons hi, List.take_append_drop]
  have e2 : l.set i y = l.take i ++ y :: l.drop (i + 1) := by rw [List.set_eq_take_append_cons_drop, if_pos hi]
  have e3 := hF (l.take i) (l.drop (i + 1)) l[i] y hy
  rw [← e1, ← e2] at e3
  exact e3

theorem putL_flip {n j : Nat} (hj : j < 48) : ∃ (ps bs : List UInt8) (x y : UInt8), x ≠ y ∧ putL n 6 = ps ++ x :: bs ∧ putL (n ^^^ 2 ^ j) 6 = ps ++ y :: bs := by
  have hput : ∀ (k m : Nat), (putL m k).length = k := fun k m => putL_length k m
  have hsplit : ∀ m, putL m 6 = putL m (j / 8) ++ putL (m / 256 ^ (j / 8)) (6 - j / 8) := fun m => by
    have := putL_append (j / 8) m (6 - j / 8)
    rw [show j / 8 + (6 - j / 8) = 6 by omega] at this; exact this
  have hcons : ∀ m, putL m (6 - j / 8) = UInt8.ofNat m :: putL (m / 256) (5 - j / 8) := fun m => by
    rw [show 6 - j / 8 = 5 - j / 8 + 1 by omega]; rfl
  have hlow : putL (n ^^^ 2 ^ j) (j / 8) = putL n (j / 8) := by
    rw [← putL_mod, ← putL_mod (j / 8) n]
    congr 1
    rw [show (256 : Nat) = 2 ^ 8 from rfl, ← Nat.pow_mul]
    apply Nat.eq_of_testBit_eq
    intro i
    rw [Nat.testBit_mod_two_pow, Nat.testBit_mod_two_pow, Nat.testBit_xor, Nat.testBit_two_pow]
    by_cases h1 : i < 8 * (j / 8)
    · have : decide (j = i) = false := by simp; omega
      rw [this]; simp
    · simp [h1]
  have hhigh : (n ^^^ 2 ^ j) / 256 ^ (j / 8) / 256 = n / 256 ^ (j / 8) / 256 := by
    rw [Nat.div_div_eq_div_mul, Nat.div_div_eq_div_mul, ← Nat.pow_succ, show (256 : Nat) = 2 ^ 8 from rfl, ← Nat.pow_mul]
    apply Nat.eq_of_testBit_eq
    intro i
    rw [Nat.testBit_div_two_pow, Nat.testBit_div_two_pow, Nat.testBit_xor, Nat.testBit_two_pow]
    have : decide (j = i + 8 * (j / 8).succ) = false := by simp; omega
    rw [this]; simp
  have hmid : UInt8.ofNat (n / 256 ^ (j / 8)) ≠ UInt8.ofNat ((n ^^^ 2 ^ j) / 256 ^ (j / 8)) := by
    intro e
    have e2 := congrArg UInt8.toNat e
    simp only [UInt8.toNat_ofNat'] at e2
    have e3 : (n / 256 ^ (j / 8) % 2 ^ 8).testBit (j % 8) = ((n ^^^ 2 ^ j) / 256 ^ (j / 8) % 2 ^ 8).testBit (j % 8) := by rw [e2]
    rw [show (256 : Nat) = 2 ^ 8 from rfl, ← Nat.pow_mul, Nat.testBit_mod_two_pow, Nat.testBit_mod_two_pow, Nat.testBit_div_two_pow, Nat.testBit_div_two_pow, Nat.testBit_xor, Nat.testBit_two_pow] at e3
    have h1 : decide (j = j % 8 + 8 * (j / 8)) = true := by simp; omega
    have h2 : decide (j % 8 < 8) = true := by simp; omega
    rw [h1, h2] at e3
    cases hb : n.testBit (j % 8 + 8 * (j / 8)) <;> rw [hb] at e3 <;> simp at e3
  refine ⟨putL n (j / 8), putL (n / 256 ^ (j / 8) / 256) (5 - j / 8), _, _, hmid, ?_, ?_⟩
  · rw [hsplit, hcons]
  · rw [hsplit, hcons, hlow, hhigh]

theorem guard_tells {n j : Nat} (hj : j < 64) : ¬ guardN (guardN n ^^^ 2 ^ j) = guardN n ^^^ 2 ^ j := by
  intro e
  have hw := guardN_lt n
  have hmod : (guardN n ^^^ 2 ^ j) % 281474976710656 = guardN n % 281474976710656 ^^^ 2 ^ j % 281474976710656 := by
    apply Nat.eq_of_testBit_eq
    intro i
    rw [show (281474976710656 : Nat) = 2 ^ 48 from rfl, Nat.testBit_xor, Nat.testBit_mod_two_pow, Nat.testBit_mod_two_pow, Nat.testBit_mod_two_pow, Nat.testBit_xor]
    cases decide (i < 48) <;> simp
  have hdiv : (guardN n ^^^ 2 ^ j) / 281474976710656 = guardN n / 281474976710656 ^^^ 2 ^ j / 281474976710656 := by
    apply Nat.eq_of_testBit_eq
    intro i
    rw [show (281474976710656 : Nat) = 2 ^ 48 from rfl, Nat.testBit_xor, Nat.testBit_div_two_pow, Nat.testBit_div_two_pow, Nat.testBit_div_two_pow, Nat.testBit_xor]
  have e1 : guardN (guardN n ^^^ 2 ^ j) / 281474976710656 = (guardN n ^^^ 2 ^ j) / 281474976710656 := by rw [e]
  rw [guardN_div, hdiv, hmod, guardN_mod, guardN_div] at e1
  by_cases h48 : j < 48
  · rw [Nat.mod_eq_of_lt (show 2 ^ j < 281474976710656 from Nat.pow_lt_pow_right (a := 2) (by omega) h48), Nat.div_eq_of_lt (show 2 ^ j < 281474976710656 from Nat.pow_lt_pow_right (a := 2) (by omega) h48), Nat.xor_zero] at e1
    obtain ⟨ps, bs, x, y, hxy, e2, e3⟩ := putL_flip (n := n % 281474976710656) h48
    have h1 := sum16_lt (putL (n % 281474976710656) 6)
    have h2 := sum16_lt (putL (n % 281474976710656 ^^^ 2 ^ j) 6)
    unfold checkN at e1
    have e4 : sum16 (putL (n % 281474976710656) 6) = sum16 (putL (n % 281474976710656 ^^^ 2 ^ j) 6) := by omega
    rw [e2, e3] at e4
    exact sum16_tells ps bs hxy e4
  · have e2 : 2 ^ j % 281474976710656 = 0 := by
      obtain ⟨d, rfl⟩ : ∃ d, j = 48 + d := ⟨j - 48, by omega⟩
      rw [Nat.pow_add]; exact Nat.mul_mod_right _ _
    rw [e2, Nat.xor_zero] at e1
    have e3 : 2 ^ j / 281474976710656 ≠ 0 := by
      have : 281474976710656 ≤ 2 ^ j := Nat.pow_le_pow_right (n := 2) (by omega) (show 48 ≤ j by omega)
      have := Nat.div_pos this (by omega)
      omega
    generalize 2 ^ j / 281474976710656 = z at e1 e3
    have e4 : checkN (n % 281474976710656) ^^^ checkN (n % 281474976710656) = checkN (n % 281474976710656) ^^^ (checkN (n % 281474976710656) ^^^ z) := by rw [← e1]
    rw [Nat.xor_self, ← Nat.xor_assoc, Nat.xor_self, Nat.zero_xor] at e4
    exact e3 e4.symm

theorem guard_any {x j : Nat} {h : Heap} {Q : Value → Heap → Prop} (hx : x < 18446744073709551616) (hq : Q (.int .u64 (guardN x)) h) : C Try.prog 18 #[.int .u64 x] h Q := crc_Guard.c hx hq

theorem wrapU_nat (k : IntKind) (hk : k.signed = false) (x : Int) : ∃ n : Nat, k.wrap x = (n : Int) ∧ n < 2 ^ k.bits := by
  rw [wrapU k hk]
  have h0 : 0 ≤ x % ((2 ^ k.bits : Nat) : Int) := Int.emod_nonneg _ (by have := Nat.two_pow_pos k.bits; omega)
  have h1 : x % ((2 ^ k.bits : Nat) : Int) < ((2 ^ k.bits : Nat) : Int) := Int.emod_lt_of_pos _ (by have := Nat.two_pow_pos k.bits; omega)
  exact ⟨_, (Int.toNat_of_nonneg h0).symm, by omega⟩

theorem ior_is (k : IntKind) (hk : k.signed = false) (a b : Int) : ∃ n : Nat, ior k a b = (n : Int) ∧ n < 2 ^ k.bits := wrapU_nat k hk _

theorem byteVals_get (bs : List UInt8) (i : Nat) : (byteVals bs)[i]? = (bs[i]?).map fun b => Value.int .u8 b.toNat := by simp [byteVals]
theorem byteVals_length (bs : List UInt8) : (byteVals bs).length = bs.length := by simp [byteVals]
theorem byteVals_set (bs : List UInt8) (i : Nat) (b : UInt8) : (byteVals bs).set i (.int .u8 b.toNat) = byteVals (bs.set i b) := by simp [byteVals, List.map_set]

theorem gabionlaw02_CrcTells.law (s : ByteArray) (hs : s.size ≤ 140737488351232) (at0 : Int) (hat : IntKind.u16.min ≤ at0 ∧ at0 ≤ IntKind.u16.max) (by0 : Int) (hby : IntKind.u8.min ≤ by0 ∧ by0 ≤ IntKind.u8.max) (h : Heap) :
    C Try.prog 5 #[.string s, .int .u16 at0, .int .u8 by0] h fun v h' => v = .bool true ∧ Part h h' := by
  obtain ⟨p, rfl, hp⟩ := nat_of rfl hat
  obtain ⟨y, rfl, hy⟩ := nat_of rfl hby
  have hp : p < 65536 := hp
  have hy : y < 256 := hy
  apply gabionlaw02_CrcTells.ok
  unfold gabionlaw02_CrcTells.wp
  have hm : imin (s.size : Int) 2000 = ((min s.size 2000 : Nat) : Int) := by rw [imin_eq]; omega
  rw [hm]
  have hz := sext_size0 s (min s.size 2000)
  refine ⟨by omega, ?_⟩
  generalize sext s 0 ((min s.size 2000 : Nat) : Int) = t at hz ⊢
  obtain ⟨x, hx, hx'⟩ := ior_is .u64 rfl (ior .u64 (ishl .u64 (IntKind.u64.wrap (t.size : Int)) 20) (ishl .u64 (IntKind.u64.wrap (p : Int)) 8)) (IntKind.u64.wrap (y : Int))
  have hx' : x < 18446744073709551616 := hx'
  rw [hx]
  refine crc_Guard.c hx' ⟨_, rfl, ?_⟩
  rw [show (64 : Int) = ((64 : Nat) : Int) from rfl, irem_nat]
  refine ⟨by omega, ?_⟩
  have h64 : y % 64 < 64 := Nat.mod_lt _ (by omega)
  have hpow : 2 ^ (y % 64) < 18446744073709551616 := Nat.pow_lt_pow_right (a := 2) (by omega) h64
  rw [show (1 : Int) = ((1 : Nat) : Int) from rfl, ishl_u64 (by omega), Nat.one_mul, Nat.mod_eq_of_lt hpow, ixor_u64 (guardN_lt x) hpow]
  refine crc_Guarded.c (xor_lt (w := 64) (guardN_lt x) hpow) ⟨_, _, rfl, ?_⟩
  rw [decide_eq_false (guard_tells (n := x) h64)]
  refine xsIf_f rfl (gabionlaw02_wakes.c ⟨_, rfl, xsIf_f rfl ?_⟩)
  apply gabionlaw02_CrcTells.J6.ok
  refine xsIf_intro (fun _ => ⟨rfl, Part.refl h⟩) (fun h1 => xsIf_intro (fun _ => ⟨rfl, Part.refl h⟩) (fun h2 => ?_))
  have h1 : t.size ≠ 0 := by intro e; rw [e] at h1; simp at h1
  have h2 : y ≠ 0 := by intro e; rw [e] at h2; simp at h2
  apply gabionlaw02_CrcTells.J8.ok
  intro b c hb hcs
  have hlen : t.data.toList.length = t.size := by simp
  have hpos : 0 < t.size := by omega
  have hi : p % t.size < t.data.toList.length := by rw [hlen]; exact Nat.mod_lt _ hpos
  rw [i64_in (p : Int) (by omega), irem_nat, Int.toNat_natCast]
  generalize hidx : p % t.size = i at hi ⊢
  refine ⟨by omega, by omega, ⟨b, 0, rfl, t.data.toList[i].toNat, ?_, by omega, ⟨b, 0, rfl, ?_, ?_⟩⟩⟩
  · unfold Heap.cell
    rw [upd_same]
    show (byteVals t.data.toList ++ List.replicate (c - t.size) (Value.int .u8 0)).toArray[0 + i * 1]? = _
    rw [List.getElem?_toArray, Nat.zero_add, Nat.mul_one, List.getElem?_append_left (by rw [byteVals_length]; exact hi), byteVals_get, List.getElem?_eq_getElem hi]
    rfl
  · refine ⟨_, _, _, _, upd_same _ _ _, by simp [byteVals]; omega, .inl (by simp; omega)⟩
  · have hbt := byte_lt t.data.toList[i]
    have hxor : t.data.toList[i].toNat ^^^ y < 256 := xor_lt (w := 8) hbt hy
    rw [ixorU (k := .u8) rfl (show t.data.toList[i].toNat < 2 ^ 8 from hbt) (show y < 2 ^ 8 from hy)]
    obtain ⟨z, hz2⟩ : ∃ z : UInt8, z.toNat = t.data.toList[i].toNat ^^^ y := ⟨UInt8.ofNat (t.data.toList[i].toNat ^^^ y), by rw [UInt8.toNat_ofNat']; exact Nat.mod_eq_of_lt hxor⟩
    rw [← hz2]
    have hne : t.data.toList[i] ≠ z := by
      intro e
      rw [← e] at hz2
      have : t.data.toList[i].toNat ^^^ t.data.toList[i].toNat = t.data.toList[i].toNat ^^^ (t.data.toList[i].toNat ^^^ y) := by rw [← hz2]
      rw [Nat.xor_self, ← Nat.xor_assoc, Nat.xor_self, Nat.zero_xor] at this
      omega
    have hpart : Part h ((upd h b (.cells (byteVals t.data.toList ++ List.replicate (c - t.size) (Value.int .u8 0)).toArray 5 (c, c + 1))).put b (0 + i * 1) [.int .u8 z.toNat]) := (Part.upd hb _).put hb _ _
    have hread : readsAt ((upd h b (.cells (byteVals t.data.toList ++ List.replicate (c - t.size) (Value.int .u8 0)).toArray 5 (c, c + 1))).put b (0 + i * 1) [.int .u8 z.toNat]) (some ⟨b, 0, none⟩) (byteVals (t.data.toList.set i z)) := by
      right
      refine ⟨b, 0, rfl, fun j hj => ?_⟩
      rw [byteVals_length, List.length_set] at hj
      unfold Heap.cell Heap.put
      simp only [if_true, upd_same, Option.map_some, putObj]
      show (setL (byteVals t.data.toList ++ List.replicate (c - t.size) (Value.int .u8 0)).toArray.toList (0 + i * 1) [.int .u8 z.toNat]).toArray[0 + j]? = _
      rw [List.getElem?_toArray, setL_get _ _ _ _ (by simp [byteVals]; omega), ← byteVals_set, List.getElem?_set]
      simp only [List.length_cons, List.length_nil, Nat.zero_add, Nat.mul_one]
      by_cases e : i = j
      · subst e; rw [byteVals_length]; simp; omega
      · rw [if_neg (by omega), if_neg e, List.getElem?_append_left (by rw [byteVals_length]; exact hj)]
    generalize hset : t.data.toList.set i z = l at hread
    have hl : l.length = t.size := by rw [← hset, List.length_set, hlen]
    have hsz : (⟨l.toArray⟩ : ByteArray).size ≤ 9223372036854775807 := by rw [size_list]; simp; omega
    have n16 : sum16 t.data.toList ≠ sum16 l := by rw [← hset]; exact sum_set sum16 (fun ps bs x y h => sum16_tells ps bs h) hi hne
    have n32 : sum32 t.data.toList ≠ sum32 l := by rw [← hset]; exact sum_set sum32 (fun ps bs x y h => sum32_tells ps bs h) hi hne
    have e16 : (((sum16 t.data.toList : Nat) : Int) ≠ ((sum16 l : Nat) : Int)) := by omega
    have e32 : (((sum32 t.data.toList : Nat) : Int) ≠ ((sum32 l : Nat) : Int)) := by omega
    have hts : t.size ≤ 9223372036854775807 := by omega
    refine ⟨?_, ?_⟩
    · refine crc_Sum16.c hts ⟨_, rfl, l, hl, hread, crc_Sum16.c hsz ⟨_, rfl, xsIf_t (decide_eq_true e16) ⟨?_, ?_⟩⟩⟩
      · exact crc_Sum32.c hts ⟨_, rfl, l, hl, hread, crc_Sum32.c hsz ⟨_, rfl, by rw [decide_eq_true e32], hpart⟩⟩
      · exact ⟨l, hl, hread, crc_Sum32.c hts ⟨_, rfl, crc_Sum32.c hsz ⟨_, rfl, by rw [decide_eq_true e32], hpart⟩⟩⟩
    · refine ⟨l, hl, hread, crc_Sum16.c hts ⟨_, rfl, crc_Sum16.c hsz ⟨_, rfl, xsIf_t (decide_eq_true e16) ⟨?_, ?_⟩⟩⟩⟩
      · exact crc_Sum32.c hts ⟨_, rfl, l, hl, hread, crc_Sum32.c hsz ⟨_, rfl, by rw [decide_eq_true e32], hpart⟩⟩
      · exact ⟨l, hl, hread, crc_Sum32.c hts ⟨_, rfl, crc_Sum32.c hsz ⟨_, rfl, by rw [decide_eq_true e32], hpart⟩⟩⟩

end Go.Gb
