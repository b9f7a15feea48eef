/- Own text for the seat: G4. -/
import Derived.Test.YtmonhmmnnekniaaG3
set_option linter.unusedVariables false
set_option linter.unusedSimpArgs false
set_option linter.unnecessarySimpa false
set_option linter.deprecated false
namespace Go.Gb
open Go.Proofs IntWalk

/-! ## The laws of le -/

theorem get8_put8 {n : Nat} (hn : n < 18446744073709551616) : get8 ⟨(putL n (cnt 8)).toArray⟩ = n := by
  unfold get8
  have : cnt 8 = 8 := by decide
  rw [this]
  simp only [List.take_of_length_le (Nat.le_of_eq (putL_length 8 n))]
  rw [getL_put]
  exact Nat.mod_eq_of_lt hn

theorem cell_new {h : Heap} {b : Nat} {vs : Array Value} {T : TypeId} {f : Nat × Nat} (i : Nat) : (upd h b (.cells vs T f)).cell b i = vs[i]? := by
  unfold Heap.cell
  rw [upd_same]

theorem gabionlaw01_LeBytes.J7.c {n : Nat} {s : ByteArray} {h : Heap} {Q : Value → Heap → Prop} (hn : n < 18446744073709551616) (hs : s.size ≤ 9223372036854775807) (hq : Q (.bool true) h) : gabionlaw01_LeBytes.J7 n s h Q := by
  apply gabionlaw01_LeBytes.J7.ok
  unfold gabionlaw01_LeBytes.J7.wp
  refine gabionlaw01_wakes.c ⟨_, rfl, xsIf_t rfl ?_⟩
  refine le_Get.c hs ⟨_, rfl, ?_⟩
  refine gabionref01_Get.c ⟨_, rfl, ?_⟩
  refine xsIf_t (by simp) ?_
  refine le_Put.c hn ⟨_, rfl, ?_⟩
  refine le_Get.c ?_ ⟨_, rfl, ?_⟩
  · show (putL n (cnt 8)).toArray.size ≤ _
    rw [List.size_toArray, putL_length]; decide
  · rw [get8_put8 hn]; simpa using hq

theorem gabionlaw01_LeBytes.law (n : Int) (hn : IntKind.u64.min ≤ n ∧ n ≤ IntKind.u64.max) (size : Int) (hz : IntKind.i64.min ≤ size ∧ size ≤ IntKind.i64.max) (s : ByteArray) (hs : s.size ≤ 140737488351232) (h : Heap) :
    C Try.prog 5 #[.int .u64 n, .int .i64 size, .string s] h fun v h' => v = .bool true ∧ Part h h' := by
  obtain ⟨n, rfl, hn'⟩ := nat_of rfl hn
  have hn' : n < 18446744073709551616 := hn'
  have hs' : s.size ≤ 9223372036854775807 := Nat.le_trans hs (by omega)
  apply gabionlaw01_LeBytes.ok
  intro b hb
  apply gabionlaw01_LeBytes.L2.ok
  refine xsIf_t (by decide) ⟨by decide, b, 0, rfl, size, by rw [cell_new]; rfl, ?_⟩
  refine le_Put.c hn' ⟨_, rfl, ?_⟩
  refine gabionref01_Put.c hn' ⟨_, rfl, ?_⟩
  refine xsIf_f (by simp) ?_
  apply gabionlaw01_LeBytes.L2.ok
  refine xsIf_t (by decide) ⟨by decide, b, 0, rfl, _, by rw [cell_new]; rfl, ?_⟩
  refine le_Put.c hn' ⟨_, rfl, ?_⟩
  refine gabionref01_Put.c hn' ⟨_, rfl, ?_⟩
  refine xsIf_f (by simp) ?_
  apply gabionlaw01_LeBytes.L2.ok
  refine xsIf_f (by decide) ?_
  exact gabionlaw01_LeBytes.J7.c hn' hs' ⟨rfl, Part.upd hb _⟩

theorem gabionlaw01_LeFields.law (w : Int) (hw : IntKind.u64.min ≤ w ∧ w ≤ IntKind.u64.max) (v : Int) (hv : IntKind.u64.min ≤ v ∧ v ≤ IntKind.u64.max) (ns : List Int) (hl : ns.length = 2) (hx : ∀ x ∈ ns, IntKind.i64.min ≤ x ∧ x ≤ IntKind.i64.max) (h : Heap) :
    C Try.prog 6 #[.int .u64 w, .int .u64 v, .agg (ns.map (Value.int .i64)).toArray] h fun v h' => v = .bool true ∧ Part h h' := by
  obtain ⟨w, rfl, hw'⟩ := nat_of rfl hw
  obtain ⟨v, rfl, hv'⟩ := nat_of rfl hv
  have hw' : w < 18446744073709551616 := hw'
  have hv' : v < 18446744073709551616 := hv'
  match ns, hl with
  | [a, c], _ =>
  apply gabionlaw01_LeFields.ok
  intro b hb
  apply gabionlaw01_LeFields.L2.ok
  refine xsIf_t (by decide) ⟨by decide, b, 0, rfl, _, by rw [cell_new]; rfl, _, by rw [cell_new]; rfl, ?_⟩
  refine le_Field.c hw' ⟨_, rfl, ?_⟩
  refine gabionref01_Field.c hw' ⟨_, rfl, ?_⟩
  refine xsIf_f (by simp) ?_
  refine le_With.c hw' hv' ⟨_, rfl, ?_⟩
  refine gabionref01_With.c hw' hv' ⟨_, rfl, ?_⟩
  refine xsIf_f (by simp) ?_
  apply gabionlaw01_LeFields.L2.ok
  refine xsIf_t (by decide) ⟨by decide, b, 0, rfl, _, by rw [cell_new]; rfl, _, by rw [cell_new]; rfl, ?_⟩
  refine le_Field.c hw' ⟨_, rfl, ?_⟩
  refine gabionref01_Field.c hw' ⟨_, rfl, ?_⟩
  refine xsIf_f (by simp) ?_
  refine le_With.c hw' hv' ⟨_, rfl, ?_⟩
  refine gabionref01_With.c hw' hv' ⟨_, rfl, ?_⟩
  refine xsIf_f (by simp) ?_
  apply gabionlaw01_LeFields.L2.ok
  refine xsIf_f (by decide) ?_
  exact gabionlaw01_wakes.c ⟨_, rfl, rfl, Part.upd hb _⟩

/-! LeParts -/

theorem fieldV_nat (w a n : Nat) (h1 : 1 ≤ n) (h : a + n ≤ 64) : fieldV w a n = fieldN w a n := by
  unfold fieldV
  rw [if_pos ⟨by omega, by omega, by omega, by omega⟩]; simp
theorem withV_nat (w a n v : Nat) (h1 : 1 ≤ n) (h : a + n ≤ 64) : withV w a n v = withN w a n v := by
  unfold withV
  rw [if_pos ⟨by omega, by omega, by omega, by omega⟩]; simp

theorem parts1 {w a n v : Nat} (h : a + n ≤ 64) (hw : w < 18446744073709551616) : fieldN (withN w a n v) a n = fieldN v 0 n := by
  apply Nat.eq_of_testBit_eq
  intro i
  rw [fieldN_test, fieldN_test, withN_test h hw]
  by_cases hi : i < n
  · rw [if_pos (by omega)]; simp
  · simp [hi]

theorem parts2 {w a n v : Nat} (h : a + n ≤ 64) (hw : w < 18446744073709551616) : withN (withN w a n v) a n (fieldN w a n) = w := by
  apply Nat.eq_of_testBit_eq
  intro i
  rw [withN_test h (withN_lt h hw)]
  by_cases hi : a ≤ i ∧ i < a + n
  · rw [if_pos hi, fieldN_test]
    have : i - a < n := by omega
    simp only [this, decide_true, Bool.true_and]
    congr 1; omega
  · rw [if_neg hi, withN_test h hw, if_neg hi]

theorem parts3 {w a n v c m : Nat} (h : a + n ≤ 64) (hw : w < 18446744073709551616) (hd : c + m ≤ a ∨ a + n ≤ c) : fieldN (withN w a n v) c m = fieldN w c m := by
  apply Nat.eq_of_testBit_eq
  intro i
  rw [fieldN_test, fieldN_test, withN_test h hw]
  by_cases hi : i < m
  · rw [if_neg (by omega)]
  · simp [hi]

theorem gabionlaw01_LeParts.law (w : Int) (hw : IntKind.u64.min ≤ w ∧ w ≤ IntKind.u64.max) (v : Int) (hv : IntKind.u64.min ≤ v ∧ v ≤ IntKind.u64.max) (ns : List Int) (hl : ns.length = 2) (hx : ∀ x ∈ ns, IntKind.u8.min ≤ x ∧ x ≤ IntKind.u8.max) (h : Heap) :
    C Try.prog 7 #[.int .u64 w, .int .u64 v, .agg (ns.map (Value.int .u8)).toArray] h fun v h' => v = .bool true ∧ Part h h' := by
  obtain ⟨w, rfl, hw'⟩ := nat_of rfl hw
  obtain ⟨v, rfl, hv'⟩ := nat_of rfl hv
  have hw' : w < 18446744073709551616 := hw'
  have hv' : v < 18446744073709551616 := hv'
  match ns, hl with
  | [x, y], _ =>
  obtain ⟨x, rfl, hx1⟩ := nat_of rfl (hx x (by simp))
  obtain ⟨y, rfl, hy1⟩ := nat_of rfl (hx y (by simp))
  have hx1 : x < 256 := hx1
  have hy1 : y < 256 := hy1
  apply gabionlaw01_LeParts.ok
  show gabionlaw01_LeParts.wp w v x y h _
  unfold gabionlaw01_LeParts.wp
  have hm := Nat.mod_lt x (show 64 > 0 by omega)
  generalize hae : x % 64 = a at hm
  have e1 : IntKind.i64.wrap (irem (x : Int) 64) = (a : Int) := by
    rw [show (64 : Int) = ((64 : Nat) : Int) from rfl, irem_nat, hae, i64_in _ (by omega)]
  rw [e1, i64_in (64 - (a : Int)) (by omega), i64_in (y : Int) (by omega), show (64 : Int) - (a : Int) = ((64 - a : Nat) : Int) by omega, irem_nat]
  have hm2 := Nat.mod_lt y (show 64 - a > 0 by omega)
  rw [i64_in _ (by omega), show (1 : Int) + ((y % (64 - a) : Nat) : Int) = ((1 + y % (64 - a) : Nat) : Int) by omega]
  have hn1 : 1 ≤ 1 + y % (64 - a) ∧ a + (1 + y % (64 - a)) ≤ 64 := by omega
  generalize 1 + y % (64 - a) = n at hn1 ⊢
  refine ⟨by omega, ?_⟩
  refine le_With.c hw' hv' ⟨_, rfl, ?_⟩
  rw [withV_nat _ _ _ _ hn1.1 hn1.2]
  have hxl := withN_lt (v := v) hn1.2 hw'
  refine gabionlaw01_wakes.c ⟨_, rfl, xsIf_f rfl ?_⟩
  refine le_Field.c hxl ⟨_, rfl, ?_⟩
  refine le_Field.c (at0 := ((0 : Nat) : Int)) hv' ⟨_, rfl, ?_⟩
  rw [fieldV_nat _ _ _ hn1.1 hn1.2, fieldV_nat _ _ _ hn1.1 (by omega), parts1 hn1.2 hw']
  refine xsIf_f (by simp) ?_
  refine le_Field.c hw' ⟨_, rfl, ?_⟩
  rw [fieldV_nat _ _ _ hn1.1 hn1.2]
  refine le_With.c hxl (fieldN_lt64 (by omega)) ⟨_, rfl, ?_⟩
  rw [withV_nat _ _ _ _ hn1.1 hn1.2, parts2 hn1.2 hw']
  refine xsIf_f (by simp) ?_
  apply gabionlaw01_LeParts.J6.ok
  unfold gabionlaw01_LeParts.J6.wp
  have hi : ∀ h' : Heap, h' = h → xsIf (decide (IntKind.i64.wrap ((a : Int) + (n : Int)) = 64)) ((fun v h' => v = Value.bool true ∧ Part h h') (Value.bool true) h')
      (C Try.prog 26 #[.int .u64 (withN w a n v : Nat), .int .i64 (IntKind.i64.wrap ((a : Int) + n)), .int .i64 (IntKind.i64.wrap (IntKind.i64.wrap (64 - (a : Int)) - n))] h' fun r h' =>
        ∃ x : Int, r = .int .u64 x ∧ C Try.prog 26 #[.int .u64 w, .int .i64 (IntKind.i64.wrap ((a : Int) + n)), .int .i64 (IntKind.i64.wrap (IntKind.i64.wrap (64 - (a : Int)) - n))] h' fun r h' =>
          ∃ x_1 : Int, r = .int .u64 x_1 ∧ (fun v h' => v = Value.bool true ∧ Part h h') (Value.bool (decide (x = x_1))) h') := by
    rintro h' rfl
    rw [i64_in ((a : Int) + n) (by omega), i64_in (64 - (a : Int)) (by omega), i64_in _ (by omega)]
    refine xsIf_intro (fun _ => ⟨rfl, Part.refl _⟩) (fun h1 => ?_)
    simp at h1
    rw [show (a : Int) + n = ((a + n : Nat) : Int) by omega, show 64 - (a : Int) - n = ((64 - a - n : Nat) : Int) by omega]
    refine le_Field.c hxl ⟨_, rfl, ?_⟩
    refine le_Field.c hw' ⟨_, rfl, ?_⟩
    rw [fieldV_nat _ _ _ (by omega) (by omega), fieldV_nat _ _ _ (by omega) (by omega), parts3 hn1.2 hw' (by omega)]
    exact ⟨by simp, Part.refl _⟩
  refine xsIf_intro (fun h1 => hi h rfl) (fun h1 => ?_)
  simp at h1
  refine le_Field.c (at0 := ((0 : Nat) : Int)) hxl ⟨_, rfl, ?_⟩
  refine le_Field.c (at0 := ((0 : Nat) : Int)) hw' ⟨_, rfl, ?_⟩
  rw [fieldV_nat _ _ _ (by omega) (by omega), fieldV_nat _ _ _ (by omega) (by omega), parts3 hn1.2 hw' (by omega)]
  exact xsIf_t (by simp) (hi h rfl)

/-! LeJoins -/

theorem cnt_nat {k : Nat} (h : k ≤ 8) : cnt (k : Int) = k := by unfold cnt; omega

theorem gabionlaw01_LeJoins.law (n : Int) (hn : IntKind.u64.min ≤ n ∧ n ≤ IntKind.u64.max) (x : Int) (hx : IntKind.u8.min ≤ x ∧ x ≤ IntKind.u8.max) (more : ByteArray) (hs : more.size ≤ 140737488351232) (h : Heap) :
    C Try.prog 8 #[.int .u64 n, .int .u8 x, .string more] h fun v h' => v = .bool true ∧ Part h h' := by
  obtain ⟨n, rfl, hn'⟩ := nat_of rfl hn
  obtain ⟨x, rfl, hx'⟩ := nat_of rfl hx
  have hn' : n < 18446744073709551616 := hn'
  have hx' : x < 256 := hx'
  apply gabionlaw01_LeJoins.ok
  unfold gabionlaw01_LeJoins.wp
  have hm := Nat.mod_lt x (show 7 > 0 by omega)
  generalize hae : x % 7 = a at hm
  have e1 : IntKind.i64.wrap (irem (x : Int) 7) = (a : Int) := by
    rw [show (7 : Int) = ((7 : Nat) : Int) from rfl, irem_nat, hae, i64_in _ (by omega)]
  rw [e1, i64_in (1 + (a : Int)) (by omega), show (1 : Int) + a = ((1 + a : Nat) : Int) by omega]
  generalize hk : 1 + a = k
  have hk1 : 1 ≤ k := by omega
  have hk7 : k ≤ 7 := by omega
  rw [show (8 : Int) * (k : Int) = ((8 * k : Nat) : Int) by omega, i64_in ((8 * k : Nat) : Int) (by omega), show (64 : Int) - ((8 * k : Nat) : Int) = ((64 - 8 * k : Nat) : Int) by omega, i64_in ((64 - 8 * k : Nat) : Int) (by omega),
    show (8 : Int) - (k : Int) = ((8 - k : Nat) : Int) by omega, i64_in ((8 - k : Nat) : Int) (by omega)]
  have hp : (2 : Nat) ^ (8 * k) = 256 ^ k := by rw [Nat.pow_mul]
  have hp2 : (2 : Nat) ^ (64 - 8 * k) = 256 ^ (8 - k) := by rw [show 64 - 8 * k = 8 * (8 - k) by omega, Nat.pow_mul]
  have hp8 : 256 ^ k * 256 ^ (8 - k) = 18446744073709551616 := by rw [← Nat.pow_add, show k + (8 - k) = 8 by omega]
  have hpk : 0 < 256 ^ k := Nat.pow_pos (by omega)
  refine le_Field.c (at0 := ((0 : Nat) : Int)) hn' ⟨_, rfl, ?_⟩
  refine le_Field.c hn' ⟨_, rfl, ?_⟩
  rw [fieldV_nat _ _ _ (by omega) (by omega), fieldV_nat _ _ _ (by omega) (by omega)]
  have elow : fieldN n 0 (8 * k) = n % 256 ^ k := by unfold fieldN; rw [hp]; simp
  have ehigh : fieldN n (8 * k) (64 - 8 * k) = n / 256 ^ k := by
    unfold fieldN; rw [hp, hp2]
    exact Nat.mod_eq_of_lt (Nat.div_lt_of_lt_mul (by rw [hp8]; exact hn'))
  rw [elow, ehigh]
  have hlowl : n % 256 ^ k < 18446744073709551616 := Nat.lt_of_le_of_lt (Nat.mod_le _ _) hn'
  have hhighl : n / 256 ^ k < 18446744073709551616 := Nat.lt_of_le_of_lt (Nat.div_le_self _ _) hn'
  refine le_Put.c hlowl ⟨_, rfl, ?_⟩
  refine le_Put.c hhighl ⟨_, rfl, ?_⟩
  rw [cnt_nat (by omega), cnt_nat (by omega), putL_mod]
  have ejoin : (⟨(putL n k).toArray⟩ : ByteArray) ++ ⟨(putL (n / 256 ^ k) (8 - k)).toArray⟩ = ⟨(putL n 8).toArray⟩ := by
    have := putL_append k n (8 - k)
    rw [show k + (8 - k) = 8 by omega] at this
    rw [this]
    apply ByteArray.ext
    simp
  have hsz1 : (⟨(putL n k).toArray⟩ : ByteArray).size = k := by show (putL n k).toArray.size = k; simp [putL_length]
  have hsz2 : (⟨(putL (n / 256 ^ k) (8 - k)).toArray⟩ : ByteArray).size = 8 - k := by show (putL _ _).toArray.size = _; simp [putL_length]
  have hsz8 : (⟨(putL n 8).toArray⟩ : ByteArray).size = 8 := by show (putL _ _).toArray.size = _; simp [putL_length]
  have hms : more.size ≤ 4611686018427387904 := Nat.le_trans hs (by omega)
  rw [ejoin, hsz1, hsz2, hsz8]
  refine ⟨by omega, gabionlaw01_wakes.c ⟨_, rfl, xsIf_t rfl ?_⟩⟩
  refine le_Put.c hn' ⟨_, rfl, ?_⟩
  rw [show cnt 8 = 8 by decide]
  refine xsIf_t (by simp) ⟨by omega, ?_⟩
  have hd8 : (⟨(putL n 8).toArray⟩ : ByteArray).data.toList = putL n 8 := rfl
  refine le_Get.c ?_ ⟨_, rfl, ?_⟩
  · rw [ByteArray.size_append, hsz8]; omega
  have eg1 : get8 ((⟨(putL n 8).toArray⟩ : ByteArray) ++ more) = n := by
    unfold get8
    rw [ByteArray.data_append, Array.toList_append, hd8, List.take_left' (putL_length 8 n), getL_put]
    exact Nat.mod_eq_of_lt hn'
  rw [eg1]
  refine xsIf_t (by simp) ⟨by omega, ?_⟩
  have ek : ((k : Nat) : Int).toNat = k := Int.toNat_natCast k
  have esx : ∀ l m : Int, (sext ⟨(putL n 8).toArray⟩ l m).data.toList = ((putL n 8).take m.toNat).drop l.toNat := by
    intro l m
    unfold sext
    simp [ByteArray.data_extract, List.drop_take]
  refine le_Get.c ?_ ⟨_, rfl, ?_⟩
  · show (sext _ _ _).data.size ≤ _
    rw [← Array.length_toList, esx]; simp [putL_length]; omega
  have eg2 : get8 (sext ⟨(putL n 8).toArray⟩ 0 k) = n % 256 ^ k := by
    unfold get8
    rw [esx, ek]
    simp only [Int.toNat_zero, List.drop_zero]
    have := putL_append k n (8 - k)
    rw [show k + (8 - k) = 8 by omega] at this
    rw [this, List.take_left' (putL_length k n), List.take_of_length_le (by rw [putL_length]; omega), getL_put]
  rw [eg2]
  refine xsIf_t (by simp) ⟨by omega, ?_⟩
  refine le_Get.c ?_ ⟨_, rfl, ?_⟩
  · show (sext _ _ _).data.size ≤ _
    rw [← Array.length_toList, esx]; simp [putL_length]; omega
  have eg3 : get8 (sext ⟨(putL n 8).toArray⟩ k 8) = n / 256 ^ k := by
    unfold get8
    rw [esx, ek]
    have := putL_append k n (8 - k)
    rw [show k + (8 - k) = 8 by omega] at this
    rw [show ((8 : Int)).toNat = 8 by decide, List.take_of_length_le (Nat.le_of_eq (putL_length 8 n)), this, List.drop_left' (putL_length k n), List.take_of_length_le (by rw [putL_length]; omega), getL_put]
    exact Nat.mod_eq_of_lt (Nat.div_lt_of_lt_mul (by rw [hp8]; exact hn'))
  have e8 : ((8 : Nat) : Int) = 8 := rfl
  rw [e8, eg3]
  exact ⟨by simp, Part.refl _⟩

end Go.Gb
