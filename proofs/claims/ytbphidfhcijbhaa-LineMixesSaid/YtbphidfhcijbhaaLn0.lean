/- Own text for the seat: Ln0. -/
import Derived.Test.YtbphidfhcijbhaaPmB2
import Derived.Test.YtbphidfhcijbhaaPm12
import Derived.Test.YtbphidfhcijbhaaG8
set_option linter.unusedVariables false
set_option linter.unusedSimpArgs false
set_option linter.unnecessarySimpa false
set_option linter.deprecated false
namespace Go.Gb
open Go.Proofs IntWalk

/-! ## line: the pure state -/

def R64 (x : Int) : Prop := 0 ≤ x ∧ x < 18446744073709551616

/-- All numbers are words. -/
structure PmOk (s : PmS) : Prop where
  media : ∀ w, R64 (s.media w)
  buf : ∀ w x, s.buf w = some x → R64 x.1

theorem pburn_media (s : PmS) : (pburn s).2.media = s.media := by unfold pburn; split <;> (try split) <;> rfl
theorem pbegin_media (s : PmS) (a o : Int) : (pbegin s a o).2.media = s.media := by unfold pbegin; split; exact pburn_media s; rfl

theorem R64.zero : R64 0 := ⟨by omega, by omega⟩
theorem PmOk.new (n : Nat) : PmOk (pnew n) := ⟨fun _ => R64.zero, fun _ _ h => by cases h⟩
theorem PmOk.of {s s' : PmS} (o : PmOk s) (hm : s'.media = s.media) (hb : s'.buf = s.buf) : PmOk s' := ⟨by rw [hm]; exact o.media, by rw [hb]; exact o.buf⟩
theorem PmOk.begin {s : PmS} (o : PmOk s) (a b : Int) : PmOk (pbegin s a b).2 := o.of (pbegin_media s a b) (pbegin_buf s a b)
theorem PmOk.store {s : PmS} (o : PmOk s) (k : Int) {v : Int} (hv : R64 v) : PmOk (pstore s k v).2 := by
  unfold pstore
  split
  · refine ⟨by show ∀ w, R64 ((pbegin s k _).2.media w); rw [pbegin_media]; exact o.media, fun w x h => ?_⟩
    have h : fset s.buf k.toNat (some (v, false)) w = some x := h
    unfold fset at h
    split at h
    · cases h; exact hv
    · exact o.buf w x h
  · exact o.begin _ _
theorem PmOk.flush {s : PmS} (o : PmOk s) (k : Int) : PmOk (pflush s k).2 := by
  unfold pflush
  split
  · refine ⟨by show ∀ w, R64 ((pbegin s k _).2.media w); rw [pbegin_media]; exact o.media, fun w x h => ?_⟩
    have h : fbuf s.buf k.toNat 8 w = some x := h
    unfold fbuf at h
    split at h
    · cases e : s.buf w with
      | none => rw [e] at h; cases h
      | some y => rw [e] at h; cases h; exact o.buf w y e
    · exact o.buf w x h
  · exact o.begin _ _
theorem PmOk.last {s : PmS} (o : PmOk s) (ws : List Nat) : PmOk (plast s ws) := by
  refine ⟨fun w => ?_, fun w x h => ?_⟩
  · show R64 (lmedia s ws w)
    unfold lmedia
    split
    · cases e : s.buf w with
      | none => exact R64.zero
      | some x => exact o.buf w x e
    · exact o.media w
  · have h : lbuf s ws w = some x := h
    unfold lbuf at h
    split at h
    · cases h
    · exact o.buf w x h
theorem PmOk.fence {s : PmS} (o : PmOk s) : PmOk (pfence s).2 := by
  unfold pfence
  split
  · exact (o.begin _ _).last _
  · exact o.begin _ _
theorem PmOk.boot {s : PmS} (o : PmOk s) (ks : List Bool) : PmOk (pboot s ks) := ⟨(o.last _).media, fun _ _ h => by cases h⟩

def llast (s : PmS) (a : Int) : Int × PmS := if (pflush s a).1 = 0 then pfence (pflush s a).2 else pflush s a

/-- Words k .. k + j - 1 of a line are stored, then all lasts. -/
def lstores (a : Nat) (f : Nat → Nat) : Nat → Nat → PmS → Int × PmS
  | 0, _, s => llast s a
  | j + 1, k, s => if (pstore s ((8 * a + k : Nat) : Int) (f k : Nat)).1 = 0 then lstores a f j (k + 1) (pstore s ((8 * a + k : Nat) : Int) (f k : Nat)).2 else pstore s ((8 * a + k : Nat) : Int) (f k : Nat)

def lthere (s : PmS) (a : Int) : Int := if 0 ≤ a ∧ a < (s.nl : Int) then 0 else 3
def lnput (s : PmS) (a : Int) (b : ByteArray) : Int × PmS := if b.size = 64 then (if lthere s a = 0 then lstores a.toNat (wordAt b) 8 0 s else (3, s)) else (2, s)
def lnputw (s : PmS) (a k v : Int) : Int × PmS := if 0 ≤ k ∧ k < 8 then (if lthere s a = 0 then (if (pstore s (8 * a + k) v).1 = 0 then llast (pstore s (8 * a + k) v).2 a else pstore s (8 * a + k) v) else (3, s)) else (2, s)

def pval (s : PmS) (w : Nat) : Int := match s.buf w with | some x => x.1 | none => s.media w
theorem PmOk.val {s : PmS} (o : PmOk s) (w : Nat) : R64 (pval s w) := by
  unfold pval
  cases e : s.buf w with
  | none => exact o.media w
  | some x => exact o.buf w x e

/-- The text of words. -/
def textN (f : Nat → Nat) : Nat → List UInt8
  | 0 => []
  | k + 1 => textN f k ++ putL (f k) 8
theorem textN_len (f : Nat → Nat) : ∀ k, (textN f k).length = 8 * k
  | 0 => rfl
  | k + 1 => by unfold textN; rw [List.length_append, textN_len f k, putL_length]; omega
theorem textN_eight (f : Nat → Nat) : textN f 8 = textL (f 0) (f 1) (f 2) (f 3) (f 4) (f 5) (f 6) (f 7) := by
  simp [textN, textL]
theorem textN_congr {f g : Nat → Nat} : ∀ k, (∀ i, i < k → f i = g i) → textN f k = textN g k
  | 0, _ => rfl
  | k + 1, h => by unfold textN; rw [textN_congr k fun i hi => h i (by omega), h k (by omega)]
def lnbytes (f : Nat → Nat) : ByteArray := ⟨(textN f 8).toArray⟩
theorem lnbytes_size (f : Nat → Nat) : (lnbytes f).size = 64 := by unfold lnbytes; rw [bytes_size, textN_len]
theorem lnbytes_words (b : ByteArray) (h : b.size = 64) : lnbytes (wordAt b) = b := by
  unfold lnbytes
  rw [textN_eight]; exact text_words b h

theorem drop_textN (f : Nat → Nat) {k : Nat} : ∀ n, k < n → chunk (textN f n) k = putL (f k) 8 := by
  intro n
  induction n with
  | zero => intro h; omega
  | succ n ih =>
    intro h
    unfold chunk textN
    by_cases e : k = n
    · subst e
      rw [List.drop_append_of_le_length (by rw [textN_len]; omega), List.drop_of_length_le (by rw [textN_len]; omega), List.nil_append, List.take_of_length_le (by rw [putL_length]; omega)]
    · rw [List.drop_append_of_le_length (by rw [textN_len]; omega), List.take_append_of_le_length (by rw [List.length_drop, textN_len]; omega)]
      exact ih (by omega)
theorem wordAt_text {f : Nat → Nat} {k : Nat} (hk : k < 8) (hf : f k < 18446744073709551616) : wordAt (lnbytes f) k = f k := by
  unfold wordAt lnbytes
  show getL (chunk (textN f 8) k) = _
  rw [drop_textN f 8 hk, getL_put]
  exact Nat.mod_eq_of_lt hf

def lnget (s : PmS) (a : Int) : ByteArray × Int := if s.off then (⟨#[]⟩, 6) else if lthere s a = 0 then (lnbytes fun k => (pval s (8 * a.toNat + k)).toNat, 0) else (⟨#[]⟩, 3)
def lntook (s : PmS) (a : Int) (b : ByteArray) : Prop := b.size = 64 ∧ lthere s a = 0 ∧ ∀ k, k < 8 → s.media (8 * a.toNat + k) = ((wordAt b k : Nat) : Int)

theorem pstore_nl (s : PmS) (k v : Int) : (pstore s k v).2.nl = s.nl := by
  unfold pstore; split
  · exact pbegin_nl _ _ _
  · exact pbegin_nl _ _ _
theorem pflush_nl (s : PmS) (k : Int) : (pflush s k).2.nl = s.nl := by
  unfold pflush; split
  · exact pbegin_nl _ _ _
  · exact pbegin_nl _ _ _
theorem pfence_nl (s : PmS) : (pfence s).2.nl = s.nl := by
  unfold pfence; split
  · exact pbegin_nl _ _ _
  · exact pbegin_nl _ _ _
theorem llast_nl (s : PmS) (a : Int) : (llast s a).2.nl = s.nl := by
  unfold llast; split
  · rw [pfence_nl, pflush_nl]
  · exact pflush_nl _ _
theorem PmOk.llast {s : PmS} (o : PmOk s) (a : Int) : PmOk (llast s a).2 := by
  unfold Gb.llast; split
  · exact (o.flush a).fence
  · exact o.flush a
theorem lstores_nl {a : Nat} {f : Nat → Nat} : ∀ (j k : Nat) (s : PmS), (lstores a f j k s).2.nl = s.nl
  | 0, _, s => llast_nl s a
  | j + 1, k, s => by
    unfold lstores; split
    · rw [lstores_nl, pstore_nl]
    · exact pstore_nl _ _ _
theorem PmOk.stores {a : Nat} {f : Nat → Nat} (hf : ∀ k, f k < 18446744073709551616) : ∀ (j k : Nat) (s : PmS), PmOk s → PmOk (lstores a f j k s).2
  | 0, _, s, o => o.llast a
  | j + 1, k, s, o => by
    have hv : R64 ((f k : Nat) : Int) := ⟨by omega, by have := hf k; omega⟩
    unfold lstores; split
    · exact PmOk.stores hf j (k + 1) _ (o.store _ hv)
    · exact o.store _ hv
theorem lnput_nl (s : PmS) (a : Int) (b : ByteArray) : (lnput s a b).2.nl = s.nl := by
  unfold lnput; split
  · split
    · exact lstores_nl _ _ _
    · rfl
  · rfl
theorem PmOk.put {s : PmS} (o : PmOk s) (a : Int) (b : ByteArray) : PmOk (lnput s a b).2 := by
  unfold lnput; split
  · split
    · exact PmOk.stores (fun k => wordAt_lt b k) _ _ _ o
    · exact o
  · exact o
theorem lnputw_nl (s : PmS) (a k v : Int) : (lnputw s a k v).2.nl = s.nl := by
  unfold lnputw; split
  · split
    · split
      · rw [llast_nl, pstore_nl]
      · exact pstore_nl _ _ _
    · rfl
  · rfl
theorem PmOk.putw {s : PmS} (o : PmOk s) (a k : Int) {v : Int} (hv : R64 v) : PmOk (lnputw s a k v).2 := by
  unfold lnputw; split
  · split
    · split
      · exact (o.store _ hv).llast a
      · exact o.store _ hv
    · exact o
  · exact o
end Go.Gb
