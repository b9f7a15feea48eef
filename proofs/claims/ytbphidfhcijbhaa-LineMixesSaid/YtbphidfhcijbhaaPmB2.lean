/- Own text for the seat: PmB2. -/
import Derived.Test.YtbphidfhcijbhaaPmB
set_option linter.unusedVariables false
set_option linter.unusedSimpArgs false
set_option linter.unnecessarySimpa false
set_option linter.deprecated false
namespace Go.Gb
open Go.Proofs IntWalk

/-! More of the pure state. -/

theorem keptN_iff {ps : List Nat} {ks : List Bool} {w : Nat} : ∀ k, w ∈ keptN ps ks k ↔ ∃ i, i < k ∧ ks.getD i false = true ∧ ps.getD i 0 = w
  | 0 => by simp [keptN]
  | k + 1 => by
    unfold keptN
    rw [List.mem_append, keptN_iff k]
    constructor
    · rintro (⟨i, h1, h2, h3⟩ | h)
      · exact ⟨i, by omega, h2, h3⟩
      · split at h
        · rename_i h1; simp at h; exact ⟨k, by omega, h1, by simpa using h.symm⟩
        · cases h
    · rintro ⟨i, h1, h2, h3⟩
      by_cases e : i = k
      · subst e; right; rw [if_pos h2, ← h3]; simp
      · exact .inl ⟨i, by omega, h2, h3⟩

theorem pend_full {s : PmS} (h : ∀ w, w < 8 * s.nl → s.buf w ≠ none) : pend s = List.range (8 * s.nl) := by
  unfold pend
  rw [List.filter_eq_self]
  intro w hw
  cases e : s.buf w with
  | none => exact absurd e (h w (by simpa using hw))
  | some x => rfl
theorem pend_none {s : PmS} (h : ∀ w, w < 8 * s.nl → s.buf w = none) : pend s = [] := by
  unfold pend
  rw [List.filter_eq_nil_iff]
  intro w hw
  rw [h w (by simpa using hw)]; simp

end Go.Gb
