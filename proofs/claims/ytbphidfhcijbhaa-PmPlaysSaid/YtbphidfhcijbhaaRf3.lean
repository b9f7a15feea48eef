/- Own text for the seat: Rf3. -/
import Derived.Test.YtbphidfhcijbhaaRf2
import Derived.Test.YtbphidfhcijbhaaPm12
set_option linter.unusedVariables false
set_option linter.unusedSimpArgs false
set_option linter.unnecessarySimpa false
set_option linter.deprecated false
namespace Go.Gb
open Go.Proofs IntWalk

/-! ## gabionref03: Fence, Boot -/

def upto (f : Nat → Bool) (i : Nat) : Nat → Bool := fun w => if w < i then f w else false

theorem upto_set {f : Nat → Bool} {i : Nat} : fset (upto f i) i (f i) = upto f (i + 1) := by
  funext w
  unfold fset upto
  by_cases e : w = i
  · rw [if_pos e, if_pos (by omega), e]
  · rw [if_neg e]
    by_cases e2 : w < i
    · rw [if_pos e2, if_pos (by omega)]
    · rw [if_neg e2, if_neg (by omega)]
theorem upto_no {f : Nat → Bool} {i : Nat} (h : f i = false) : upto f i = upto f (i + 1) := by
  rw [← upto_set, h]
  funext w
  unfold fset upto
  by_cases e : w = i
  · rw [if_pos e, if_neg (by omega)]
  · rw [if_neg e]

section
variable {F : Nat → Prop} {h : Heap} {m wb rb bb : Nat} {q : Nat → Wd} {s : PmS} {Q : Value → Heap → Prop} {cb : Nat}

theorem Blk.bset {n : Nat} {f : Nat → Bool} {i : Nat} {b : Bool} (w : Blk h cb (rowB n f)) : Blk (h.put cb (0 + i * 1) [.bool b]) cb (rowB n (fset f i b)) := by
  have := w.put (0 + i * 1) [.bool b]
  rw [setL_one, show 0 + i * 1 = i by omega, row_set (fun x : Bool => Value.bool x)] at this
  rw [show 0 + i * 1 = i by omega]; exact this

/-- Which words a fence takes. -/
def fls (s : PmS) (w : Nat) : Bool := match s.buf w with | some x => x.2 | none => false

theorem gabionref03_Fence.L6.c (ncb : ¬ F cb) : ∀ (j i : Nat) (h : Heap), i + j = 8 * s.nl → RfC F h m wb rb bb q s → Blk h cb (rowB (8 * s.nl) (upto (fls s) i)) →
    (∀ h' q', RfC F h' m wb rb bb q' (plast s (flushed s)) → (∀ k, ¬ F k → k ≠ cb → h k ≠ none → h' k = h k) → (∀ k, h k ≠ none → h' k ≠ none) → Q (.int .i64 0) h') →
    gabionref03_Fence.L6 (some ⟨m, 0, none⟩) (some ⟨cb, 0, none⟩) (8 * s.nl) (8 * s.nl) (i : Int) h Q := by
  intro j
  induction j with
  | zero =>
    intro i h hi w hcb hq
    apply gabionref03_Fence.L6.ok
    refine ⟨m, 0, rfl, _, _, _, w.c0, xsIf_f (decide_eq_false (by omega)) ?_⟩
    refine gabionref03_last.c (ch := upto (fls s) i) w (fun w hw hc => ?_) ncb hcb fun h' q' w' st => ?_
    · unfold upto fls at hc
      rw [if_pos (by omega)] at hc
      intro e; rw [e] at hc; cases hc
    · have e : plast s (lastN (upto (fls s) i) (8 * s.nl)) = plast s (flushed s) := plast_congr fun w => by
        rw [lastN_mem, flushed_mem]
        unfold upto
        constructor
        · rintro ⟨h1, h2⟩
          rw [if_pos (by omega)] at h2
          unfold fls at h2
          cases e : s.buf w with
          | none => rw [e] at h2; cases h2
          | some x => rw [e] at h2; exact ⟨h1, x.1, by rw [← h2]⟩
        · rintro ⟨h1, v, h2⟩
          refine ⟨h1, ?_⟩
          rw [if_pos (by omega)]
          unfold fls; rw [h2]
      rw [e] at w'
      exact hq h' q' w' (fun k h1 _ h3 => st.keep k h1 h3) st.live
  | succ j ih =>
    intro i h hi w hcb hq
    apply gabionref03_Fence.L6.ok
    have hK : i < 8 * s.nl := by omega
    have h92 : s.nl ≤ 8192 := w.hi
    have kb : 0 ≤ (i : Int) ∧ (i : Int) < ((8 * s.nl : Nat) : Int) := by omega
    have ew : ∀ j, 0 + (i : Int).toNat * 4 + j = 4 * i + j := fun j => by omega
    have e2 : IntKind.i64.wrap ((i : Int) + 1) = ((i + 1 : Nat) : Int) := by rw [i64_in _ (by omega)]; omega
    have r := w.rel i hK
    have nx : ∀ b, b = fls s i → h.can cb (0 + (i : Int).toNat * 1) 1 ∧ gabionref03_Fence.L6 (some ⟨m, 0, none⟩) (some ⟨cb, 0, none⟩) (8 * s.nl) (8 * s.nl) (IntKind.i64.wrap ((i : Int) + 1)) (h.put cb (0 + (i : Int).toNat * 1) [.bool b]) Q := by
      intro b hb
      rw [show (i : Int).toNat = i by omega, e2]
      refine ⟨hcb.can (by simp; omega), ih (i + 1) _ (by omega) (w.keep fun k hk _ => put_other _ _ _ fun e => ncb (e ▸ hk)) ?_ fun h' q' w' st1 st2 => ?_⟩
      · have := hcb.bset (i := i) (b := b)
        rw [hb, upto_set] at this
        rw [hb]; exact this
      · refine hq h' q' w' (fun k h1 h2 h3 => ?_) fun k hk => st2 k (put_live _ _ hk)
        have e := put_other h (b := cb) (k := k) (0 + i * 1) [.bool b] h2
        rw [st1 k h1 h2 (by rw [e]; exact h3), e]
    refine ⟨m, 0, rfl, _, _, _, w.c0, xsIf_t (decide_eq_true (by omega)) ⟨m, 0, rfl, _, _, _, w.c0, kb, wb, 0, rfl, (q i).there, by rw [ew]; exact w.wc (j := 1) hK (by omega), xsIf_intro (fun h1 => ?_) fun h1 => ?_⟩⟩
    · refine ⟨m, 0, rfl, _, _, _, w.c0, kb, wb, 0, rfl, (q i).fl, by rw [ew]; exact w.wc (j := 3) hK (by omega), kb, cb, 0, rfl, nx _ ?_⟩
      unfold fls
      unfold Wr at r
      cases e : s.buf i with
      | none => rw [e] at r; rw [h1] at r; cases r.2
      | some x => rw [e] at r; exact r.2.2.2
    · refine ⟨kb, cb, 0, rfl, nx _ ?_⟩
      unfold fls
      unfold Wr at r
      cases e : s.buf i with
      | none => rfl
      | some x => rw [e] at r; rw [h1] at r; cases r.2.1

theorem gabionref03_Fence.c (w : RfD F h m s) (hlv : Live F h) (hq : ∀ h', RfD F h' m (pfence s).2 → Step F h F h' → Q (.int .i64 (pfence s).1) h') : C Try.prog 58 #[.pointer (some ⟨m, 0, none⟩)] h Q := by
  obtain ⟨wb, rb, bb, q, w⟩ := w
  apply gabionref03_Fence.ok
  have cB : (cellBytes Try.prog 4 : Int) ≤ 8 := by rw [show cellBytes Try.prog 4 = 1 by kernel_rfl]; omega
  refine gabionref03_begin.c w fun h2 w2 st2 _ => ⟨_, rfl, ?_⟩
  unfold pfence at hq
  by_cases h1 : (pbegin s 0 1).1 = 0
  · rw [if_pos h1] at hq
    refine xsIf_f (decide_eq_false (by omega)) ?_
    have h92 := w2.hi
    generalize (pbegin s 0 1).2 = s2 at w2 hq h92
    refine ⟨m, 0, rfl, _, _, _, w2.c0, xsMk_i (by omega) (by omega) cB fun b hb => ?_⟩
    rw [Int.toNat_natCast]
    have zB : zeros Try.prog 4 (8 * s2.nl) = rowB (8 * s2.nl) fun _ => false := zeros_row (by kernel_rfl) _
    have lv2 := st2.dom hlv
    have nF : ¬ F b := fun hf => lv2 b hf hb
    refine gabionref03_Fence.L6.c nF (8 * s2.nl) 0 _ (by omega) (w2.keep fun k hk _ => upd_ne fun e => nF (e ▸ hk)) ?_ fun h' q' w' s1 s2' => ?_
    · rw [zB]; exact ⟨_, by rw [upd_same]; rfl⟩
    · refine hq h' ⟨wb, rb, bb, q', w'⟩ (st2.trans ⟨fun k hf hk => ?_, fun k hk => .inl hk, fun k hk => s2' k (upd_live _ hk), fun lv k hk => s2' k (upd_live _ (lv k hk))⟩)
      have hkb : k ≠ b := fun e => hk (by rw [e]; exact hb)
      rw [s1 k hf hkb (by rw [upd_ne hkb]; exact hk), upd_ne hkb]
  · rw [if_neg h1] at hq
    exact xsIf_t (decide_eq_true h1) (hq h2 ⟨wb, rb, bb, q, w2⟩ st2)
end
end Go.Gb
