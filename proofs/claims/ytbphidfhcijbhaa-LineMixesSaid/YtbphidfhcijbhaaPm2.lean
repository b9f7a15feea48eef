/- Own text for the seat: Pm2. -/
import Derived.Test.YtbphidfhcijbhaaPm1
set_option linter.unusedVariables false
set_option linter.unusedSimpArgs false
set_option linter.unnecessarySimpa false
set_option linter.deprecated false
namespace Go.Gb
open Go.Proofs IntWalk

/-! ## pm: what reads -/

section
variable {F : Nat → Prop} {h : Heap} {d : Nat} {s : PmS} {Q : Value → Heap → Prop}

def pload (s : PmS) (w : Int) : Int × Int :=
  if pready s w ((8 * s.nl : Nat) : Int) = 0 then ((match s.buf w.toNat with | some x => x.1 | none => s.media w.toNat), 0) else (0, pready s w ((8 * s.nl : Nat) : Int))

theorem pready_ok {s : PmS} {w o : Int} (h : pready s w o = 0) : s.off = false ∧ 0 ≤ w ∧ w < o := by
  unfold pready at h
  split at h
  · cases h
  · rename_i h1
    split at h
    · rename_i h2; exact ⟨by simpa using h1, h2⟩
    · cases h

theorem BufM.found {n : Nat} {buf : Nat → Option (Int × Bool)} {l : List (Int × Value × Nat)} {c : Nat} (m : BufM n buf l c) {k : Nat} {j : Nat} {v : Value} {b : Nat} (h : mnth l j = some ((k : Int), v, b)) : ∃ x, buf k = some x ∧ v = cellV x := by
  obtain ⟨w, x, h1, h2, h3, h4⟩ := m.ent _ (List.mem_of_getElem? h)
  have : w = k := by have : (k : Int) = (w : Int) := h2; omega
  subst this
  exact ⟨x, h3, h4⟩
theorem BufM.lacks {n : Nat} {buf : Nat → Option (Int × Bool)} {l : List (Int × Value × Nat)} {c : Nat} (m : BufM n buf l c) {k : Nat} (h : ∀ (j : Nat) (v : Value) (b : Nat), ¬ mnth l j = some ((k : Int), v, b)) : buf k = none := by
  cases e : buf k with
  | none => rfl
  | some x =>
    obtain ⟨b, hb⟩ := m.has k x e
    obtain ⟨j, hj⟩ := List.getElem?_of_mem hb
    exact absurd hj (h j _ _)

theorem pm_Device_Load.c {k : Int} (w : PmD F h d s) (hq : Q (.tuple #[.int .u64 (pload s k).1, .int .i64 (pload s k).2]) h) : C Try.prog 19 #[.pointer (some ⟨d, 0, none⟩), .int .i64 k] h Q := by
  apply pm_Device_Load.ok
  refine pm_Device_words.c w ⟨_, rfl, pm_Device_ready.c w ⟨_, rfl, ?_⟩⟩
  unfold pload at hq
  refine xsIf_intro (fun h1 => ?_) (fun h1 => ?_)
  · have h1 := of_decide_eq_true h1
    rw [if_neg h1] at hq
    exact hq
  · have h1 : pready s k ((8 * s.nl : Nat) : Int) = 0 := Classical.byContradiction (of_decide_eq_false h1)
    rw [if_pos h1] at hq
    obtain ⟨_, h2, h3⟩ := pready_ok h1
    obtain ⟨mb, r, wb, bb, l, c, w⟩ := w
    have ek : ((k.toNat : Nat) : Int) = k := by omega
    refine ⟨d, 0, rfl, _, w.hd.cell _, r, rfl, l, c, w.hr, fun j v b hj => ?_, fun hn => ⟨d, 0, rfl, _, _, _, w.hd.cell _, ⟨h2, h3⟩, mb, 0, rfl, _, by rw [w.hm.cell, Nat.zero_add, Nat.mul_one]; exact row_get _ (by omega), ?_⟩⟩
    · rw [← ek] at hj
      obtain ⟨x, hx, rfl⟩ := w.bm.found hj
      rw [hx] at hq
      exact ⟨_, _, rfl, hq⟩
    · rw [← ek] at hn
      rw [w.bm.lacks hn] at hq
      exact hq

theorem pm_Device_Media.c {k : Int} (w : PmD F h d s) (hq : Q (.int .u64 (if 0 ≤ k ∧ k < ((8 * s.nl : Nat) : Int) then s.media k.toNat else 0)) h) : C Try.prog 20 #[.pointer (some ⟨d, 0, none⟩), .int .i64 k] h Q := by
  apply pm_Device_Media.ok
  refine xsIf_intro (fun h1 => ?_) (fun h1 => pm_Device_words.c w ⟨_, rfl, xsIf_intro (fun h2 => ?_) (fun h2 => ?_)⟩)
  · simp only [decide_eq_true_eq] at h1; rw [if_neg (by omega)] at hq; exact hq
  · simp only [decide_eq_true_eq] at h2; rw [if_neg (by omega)] at hq; exact hq
  · have h1 := of_decide_eq_false h1
    have h2 := of_decide_eq_false h2
    rw [if_pos (by omega)] at hq
    obtain ⟨mb, r, wb, bb, l, c, w⟩ := w
    exact ⟨d, 0, rfl, _, _, _, w.hd.cell _, ⟨by omega, by omega⟩, mb, 0, rfl, _, by rw [w.hm.cell, Nat.zero_add, Nat.mul_one]; exact row_get _ (by omega), hq⟩

theorem pm_Device_is.c {k : Int} (w : PmD F h d s) (hq : Q (.bool (decide (0 ≤ k ∧ k < s.nl))) h) : C Try.prog 55 #[.pointer (some ⟨d, 0, none⟩), .int .i64 k] h Q := by
  apply pm_Device_is.ok
  refine xsIf_intro (fun h1 => pm_Device_Lines.c w ⟨_, rfl, ?_⟩) (fun h1 => ?_)
  · have h1 := of_decide_eq_true h1
    have e : decide (0 ≤ k ∧ k < (s.nl : Int)) = decide (k < (s.nl : Int)) := by simp [h1]
    rw [e] at hq; exact hq
  · have h1 := of_decide_eq_false h1
    have e : decide (0 ≤ k ∧ k < (s.nl : Int)) = false := by simp; omega
    rw [e] at hq; exact hq

theorem pm_Device_Wear.c {k : Int} (w : PmD F h d s) (hq : Q (.int .i64 (if 0 ≤ k ∧ k < s.nl then s.wear k.toNat else 0)) h) : C Try.prog 21 #[.pointer (some ⟨d, 0, none⟩), .int .i64 k] h Q := by
  apply pm_Device_Wear.ok
  refine pm_Device_is.c w ⟨_, rfl, xsIf_intro (fun h1 => ?_) (fun h1 => ?_)⟩
  · simp only [Bool.not_eq_true', decide_eq_false_iff_not] at h1
    rw [if_neg h1] at hq; exact hq
  · simp only [Bool.not_eq_false', decide_eq_true_eq] at h1
    rw [if_pos h1] at hq
    obtain ⟨mb, r, wb, bb, l, c, w⟩ := w
    exact ⟨d, 0, rfl, _, _, _, w.hd.cell _, h1, wb, 0, rfl, _, by rw [w.hw.cell, Nat.zero_add, Nat.mul_one]; exact row_get _ (by omega), hq⟩

theorem pm_Device_Count.c (w : PmD F h d s) (hq : Q (.int .i64 s.count) h) : C Try.prog 27 #[.pointer (some ⟨d, 0, none⟩)] h Q := by
  obtain ⟨mb, r, wb, bb, l, c, w⟩ := w
  apply pm_Device_Count.ok
  exact xsIf_f rfl ⟨d, 0, rfl, _, w.hd.cell _, hq⟩

end
end Go.Gb
