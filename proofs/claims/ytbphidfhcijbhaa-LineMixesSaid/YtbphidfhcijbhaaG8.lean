/- Own text for the seat: G8. -/
import Derived.Test.YtbphidfhcijbhaaG4
set_option linter.unusedVariables false
set_option linter.unusedSimpArgs false
set_option linter.unnecessarySimpa false
set_option linter.deprecated false
namespace Go.Gb
open Go.Proofs IntWalk

/-! ## le: words -/

def chunk (l : List UInt8) (i : Nat) : List UInt8 := (l.drop (8 * i)).take 8
def wordAt (s : ByteArray) (i : Nat) : Nat := getL (chunk s.data.toList i)
def textL (n0 n1 n2 n3 n4 n5 n6 n7 : Nat) : List UInt8 := putL n0 8 ++ putL n1 8 ++ putL n2 8 ++ putL n3 8 ++ putL n4 8 ++ putL n5 8 ++ putL n6 8 ++ putL n7 8

theorem get8_sext {s : ByteArray} {i : Nat} (hs : s.size = 64) : get8 (sext s ((8 * i : Nat) : Int) (s.size : Int)) = wordAt s i := by
  unfold get8 wordAt chunk sext
  congr 1
  rw [Int.toNat_natCast, Int.toNat_natCast]
  rw [ByteArray.data_extract]
  have e : (s.data.extract (8 * i) s.size).toList = s.data.toList.drop (8 * i) := by
    rw [Array.toList_extract]
    have : s.size = s.data.toList.length := by simp
    rw [this, List.extract_eq_take_drop, ← List.drop_take, List.take_length]
  rw [e]

theorem sext_size {s : ByteArray} {l : Int} : (sext s l (s.size : Int)).size ≤ s.size := by
  unfold sext
  rw [ByteArray.size_extract]
  omega

theorem wordAt_lt (s : ByteArray) (i : Nat) : wordAt s i < 18446744073709551616 := by
  unfold wordAt
  have h1 := getL_lt (chunk s.data.toList i)
  have h2 : (chunk s.data.toList i).length ≤ 8 := by unfold chunk; simp; omega
  exact Nat.lt_of_lt_of_le h1 (Nat.pow_le_pow_right (n := 256) (by omega) h2)

theorem words_step {s : ByteArray} {h : Heap} {Q : Value → Heap → Prop} {k : Nat} {w : List Value} {t0 t1 t2 t3 t4 t5 t6 t7 : Int} (hk : k < 8) (hs : s.size = 64) (hw : w.length = 8)
    (hq : le_Words.L5 s ((k + 1 : Nat) : Int) t0 t1 t2 t3 t4 t5 t6 t7 (lput w k [.int .u64 (wordAt s k)]) h Q) : le_Words.L5 s (k : Int) t0 t1 t2 t3 t4 t5 t6 t7 w h Q := by
  apply le_Words.L5.ok
  unfold le_Words.L5.wp
  refine xsIf_t (by simp; omega) ?_
  rw [show (8 : Int) * (k : Int) = ((8 * k : Nat) : Int) by omega, i64_in ((8 * k : Nat) : Int) (by omega)]
  refine ⟨by omega, ?_⟩
  refine le_Get.c (Nat.le_trans sext_size (by omega)) ⟨_, rfl, by omega, by omega, ?_⟩
  rw [get8_sext hs, i64_in _ (by omega), Int.toNat_natCast, Nat.zero_add, Nat.mul_one]
  exact hq

theorem le_Words.c {s : ByteArray} {h : Heap} {Q : Value → Heap → Prop}
    (hq : s.size = 64 → Q (.tuple #[.agg #[.int .u64 (wordAt s 0), .int .u64 (wordAt s 1), .int .u64 (wordAt s 2), .int .u64 (wordAt s 3), .int .u64 (wordAt s 4), .int .u64 (wordAt s 5), .int .u64 (wordAt s 6), .int .u64 (wordAt s 7)], .int .i64 0]) h)
    (hn : s.size ≠ 64 → Q (.tuple #[.agg #[.int .u64 0, .int .u64 0, .int .u64 0, .int .u64 0, .int .u64 0, .int .u64 0, .int .u64 0, .int .u64 0], .int .i64 2]) h) : C Try.prog 63 #[.string s] h Q := by
  apply le_Words.ok
  unfold le_Words.wp
  refine xsIf_intro (fun h1 => ?_) (fun h1 => ?_)
  · have h1' : s.size ≠ 64 := by simp at h1; omega
    exact ⟨by decide, _, rfl, _, rfl, _, rfl, _, rfl, _, rfl, _, rfl, _, rfl, _, rfl, hn h1'⟩
  · have hs : s.size = 64 := by simp at h1; omega
    refine words_step (k := 0) (by omega) hs rfl ?_
    refine words_step (k := 1) (by omega) hs rfl ?_
    refine words_step (k := 2) (by omega) hs rfl ?_
    refine words_step (k := 3) (by omega) hs rfl ?_
    refine words_step (k := 4) (by omega) hs rfl ?_
    refine words_step (k := 5) (by omega) hs rfl ?_
    refine words_step (k := 6) (by omega) hs rfl ?_
    refine words_step (k := 7) (by omega) hs rfl ?_
    apply le_Words.L5.ok
    refine xsIf_f (by decide) ⟨Nat.le_refl 8, _, rfl, _, rfl, _, rfl, _, rfl, _, rfl, _, rfl, _, rfl, _, rfl, hq hs⟩

theorem bytes_append (a b : List UInt8) : (⟨a.toArray⟩ : ByteArray) ++ ⟨b.toArray⟩ = ⟨(a ++ b).toArray⟩ := by
  apply ByteArray.ext
  simp

theorem bytes_size (a : List UInt8) : (⟨a.toArray⟩ : ByteArray).size = a.length := by
  show a.toArray.size = _
  simp

theorem text_step {h : Heap} {Q : Value → Heap → Prop} {k n : Nat} {acc : List UInt8} {t0 t1 t2 t3 t4 t5 t6 t7 : Int} (hk : k < 8) (hl : acc.length = 8 * k) (hn : n < 18446744073709551616)
    (hg : lget [.int .u64 t0, .int .u64 t1, .int .u64 t2, .int .u64 t3, .int .u64 t4, .int .u64 t5, .int .u64 t6, .int .u64 t7] k = some (.int .u64 n))
    (hq : le_Text.L3 ⟨(acc ++ putL n 8).toArray⟩ t0 t1 t2 t3 t4 t5 t6 t7 ((k + 1 : Nat) : Int) h Q) : le_Text.L3 ⟨acc.toArray⟩ t0 t1 t2 t3 t4 t5 t6 t7 (k : Int) h Q := by
  apply le_Text.L3.ok
  unfold le_Text.L3.wp
  refine xsIf_t (by simp; omega) ⟨by omega, n, ?_, ?_⟩
  · rw [Int.toNat_natCast, Nat.mul_one]; exact hg
  refine le_Put.c hn ⟨_, rfl, ?_, ?_⟩
  · rw [bytes_size, bytes_size, putL_length, show cnt 8 = 8 by decide]; omega
  · rw [bytes_append, show cnt 8 = 8 by decide, i64_in _ (by omega)]
    exact hq

theorem le_Text.c {n0 n1 n2 n3 n4 n5 n6 n7 : Nat} {h : Heap} {Q : Value → Heap → Prop} (h0 : n0 < 18446744073709551616) (h1 : n1 < 18446744073709551616) (h2 : n2 < 18446744073709551616) (h3 : n3 < 18446744073709551616)
    (h4 : n4 < 18446744073709551616) (h5 : n5 < 18446744073709551616) (h6 : n6 < 18446744073709551616) (h7 : n7 < 18446744073709551616)
    (hq : Q (.string ⟨(textL n0 n1 n2 n3 n4 n5 n6 n7).toArray⟩) h) :
    C Try.prog 62 #[.agg #[.int .u64 n0, .int .u64 n1, .int .u64 n2, .int .u64 n3, .int .u64 n4, .int .u64 n5, .int .u64 n6, .int .u64 n7]] h Q := by
  apply le_Text.ok
  unfold le_Text.wp
  refine text_step (acc := []) (k := 0) (by omega) rfl h0 rfl ?_
  refine text_step (k := 1) (by omega) (by simp [putL_length]) h1 rfl ?_
  refine text_step (k := 2) (by omega) (by simp [putL_length]) h2 rfl ?_
  refine text_step (k := 3) (by omega) (by simp [putL_length]) h3 rfl ?_
  refine text_step (k := 4) (by omega) (by simp [putL_length]) h4 rfl ?_
  refine text_step (k := 5) (by omega) (by simp [putL_length]) h5 rfl ?_
  refine text_step (k := 6) (by omega) (by simp [putL_length]) h6 rfl ?_
  refine text_step (k := 7) (by omega) (by simp [putL_length]) h7 rfl ?_
  apply le_Text.L3.ok
  refine xsIf_f (by decide) ?_
  exact hq

theorem chunk_at (a b c : List UInt8) (k : Nat) (ha : a.length = 8 * k) (hb : b.length = 8) : chunk (a ++ (b ++ c)) k = b := by
  unfold chunk
  rw [List.drop_left' ha, List.take_left' hb]

theorem word_put {l a c : List UInt8} {n k : Nat} (hl : l = a ++ (putL n 8 ++ c)) (ha : a.length = 8 * k) (hn : n < 18446744073709551616) : wordAt ⟨l.toArray⟩ k = n := by
  unfold wordAt
  show getL (chunk l k) = n
  rw [hl, chunk_at _ _ _ _ ha (putL_length 8 n), getL_put]
  exact Nat.mod_eq_of_lt hn

theorem chunks (l : List UInt8) (h : l.length = 64) : l = chunk l 0 ++ chunk l 1 ++ chunk l 2 ++ chunk l 3 ++ chunk l 4 ++ chunk l 5 ++ chunk l 6 ++ chunk l 7 := by
  unfold chunk
  apply List.ext_getElem?
  intro i
  simp only [List.getElem?_append, List.getElem?_take, List.getElem?_drop, List.length_append, List.length_take, List.length_drop, h]
  simp
  (repeat' split) <;> first | rfl | (congr 1; omega) | (rw [List.getElem?_eq_none]; omega) | omega

theorem put_word (s : ByteArray) (hs : s.size = 64) (i : Nat) (hi : i < 8) : putL (wordAt s i) 8 = chunk s.data.toList i := by
  unfold wordAt
  have hl : (chunk s.data.toList i).length = 8 := by
    unfold chunk
    have : s.data.toList.length = s.size := by simp
    simp; omega
  have := putL_get (chunk s.data.toList i)
  rw [hl] at this
  exact this

theorem text_words (s : ByteArray) (hs : s.size = 64) : (⟨(textL (wordAt s 0) (wordAt s 1) (wordAt s 2) (wordAt s 3) (wordAt s 4) (wordAt s 5) (wordAt s 6) (wordAt s 7)).toArray⟩ : ByteArray) = s := by
  unfold textL
  rw [put_word s hs 0 (by omega), put_word s hs 1 (by omega), put_word s hs 2 (by omega), put_word s hs 3 (by omega), put_word s hs 4 (by omega), put_word s hs 5 (by omega), put_word s hs 6 (by omega), put_word s hs 7 (by omega)]
  rw [← chunks s.data.toList (by have : s.data.toList.length = s.size := by simp
                                 omega)]

end Go.Gb
