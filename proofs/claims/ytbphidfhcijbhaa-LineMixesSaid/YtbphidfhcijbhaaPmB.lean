/- Own text for the seat: PmB. -/
import Derived.Test.YtbphidfhcijbhaaPmA
set_option linter.unusedVariables false
set_option linter.unusedSimpArgs false
set_option linter.unnecessarySimpa false
set_option linter.deprecated false
namespace Go.Gb
open Go.Proofs IntWalk

/-! ## pm: what begins well -/

/-- One thing done. -/
def ptick (s : PmS) : PmS := { s with fuse := if 0 < s.fuse then s.fuse - 1 else s.fuse, count := IntKind.wrap .i64 (s.count + 1) }

theorem pbegin_run {s : PmS} {a o : Int} (h0 : s.off = false) (h1 : s.fuse ≠ 1) (h2 : 0 ≤ a) (h3 : a < o) : pbegin s a o = (0, ptick s) := by
  have hr : pready s a o = 0 := by unfold pready; rw [h0, if_neg (by simp), if_pos ⟨h2, h3⟩]
  unfold pbegin
  rw [if_pos hr]
  unfold pburn ptick
  rw [if_neg h1]
  split
  · rfl
  · rfl
theorem pbegin_fails {s : PmS} {a o : Int} (h0 : s.off = false) (h1 : s.fuse = 1) (h2 : 0 ≤ a) (h3 : a < o) : pbegin s a o = (6, { s with fuse := 0, off := true }) := by
  have hr : pready s a o = 0 := by unfold pready; rw [h0, if_neg (by simp), if_pos ⟨h2, h3⟩]
  unfold pbegin
  rw [if_pos hr]
  unfold pburn
  rw [if_pos h1]
theorem pbegin_off {s : PmS} {a o : Int} (h0 : s.off = true) : pbegin s a o = (6, s) := by
  have hr : pready s a o = 6 := by unfold pready; rw [h0]; rfl
  unfold pbegin
  rw [if_neg (by rw [hr]; decide), hr]

theorem pstore_run {s : PmS} {k v : Int} (h0 : s.off = false) (h1 : s.fuse ≠ 1) (h2 : 0 ≤ k) (h3 : k < ((8 * s.nl : Nat) : Int)) : pstore s k v = (0, { ptick s with buf := fset s.buf k.toNat (some (v, false)) }) := by
  unfold pstore
  rw [pbegin_run h0 h1 h2 h3]
  rfl
theorem pflush_run {s : PmS} {k : Int} (h0 : s.off = false) (h1 : s.fuse ≠ 1) (h2 : 0 ≤ k) (h3 : k < (s.nl : Int)) : pflush s k = (0, { ptick s with buf := fbuf s.buf k.toNat 8 }) := by
  unfold pflush
  rw [pbegin_run h0 h1 h2 h3]
  rfl
theorem flushed_mem {s : PmS} {w : Nat} : w ∈ flushed s ↔ w < 8 * s.nl ∧ ∃ v, s.buf w = some (v, true) := by
  unfold flushed
  rw [List.mem_filter, pend_mem]
  unfold unflushed
  constructor
  · rintro ⟨⟨h1, h2⟩, h3⟩
    obtain ⟨x, hx⟩ := Option.ne_none_iff_exists'.1 h2
    rw [hx] at h3
    refine ⟨h1, x.1, ?_⟩
    rw [hx]
    have : x.2 = true := by simpa using h3
    rw [← this]
  · rintro ⟨h1, v, hv⟩
    exact ⟨⟨h1, by rw [hv]; simp⟩, by rw [hv]; rfl⟩
theorem pfence_run {s : PmS} (h0 : s.off = false) (h1 : s.fuse ≠ 1) : pfence s = (0, plast (ptick s) (flushed s)) := by
  unfold pfence
  rw [pbegin_run h0 h1 (by omega) (by omega)]
  rfl
theorem keptN_false {ps : List Nat} {ks : List Bool} (h : ∀ k, ks.getD k false = false) : ∀ k, keptN ps ks k = []
  | 0 => rfl
  | k + 1 => by
    show keptN ps ks k ++ _ = []
    rw [keptN_false h k, if_neg (by rw [h k]; simp)]
    rfl
theorem plast_nil (s : PmS) : plast s [] = s := by
  unfold plast lmedia lbuf lwear
  simp
end Go.Gb
