/- Own text for the seat: Pm8. -/
import Derived.Test.YtbphidfhcijbhaaPm7
import Derived.Test.YtbphidfhcijbhaaSrt1
set_option linter.unusedVariables false
set_option linter.unusedSimpArgs false
set_option linter.unnecessarySimpa false
set_option linter.deprecated false
namespace Go.Gb
open Go.Proofs IntWalk

/-! ## pm: what is pending -/

def pend (s : PmS) : List Nat := (List.range (8 * s.nl)).filter fun w => (s.buf w).isSome
abbrev rowN (l : List Nat) : List Value := l.map fun (w : Nat) => .int .i64 (w : Int)

theorem pend_mem {s : PmS} {w : Nat} : w ∈ pend s ↔ w < 8 * s.nl ∧ s.buf w ≠ none := by
  unfold pend
  rw [List.mem_filter, List.mem_range, Option.isSome_iff_ne_none]
theorem pend_nodup (s : PmS) : (pend s).Nodup := by unfold pend; exact List.Nodup.sublist List.filter_sublist List.nodup_range
theorem pend_length (s : PmS) : (pend s).length ≤ 8 * s.nl := by
  unfold pend
  exact Nat.le_trans (List.length_filter_le _ _) (by simp)
theorem pend_sorted (s : PmS) : (pend s).Pairwise (· < ·) := List.Pairwise.sublist List.filter_sublist List.pairwise_lt_range

theorem keys_perm {s : PmS} {l : List (Int × Value × Nat)} {c : Nat} (m : BufM (8 * s.nl) s.buf l c) : (keysOf l).Perm ((pend s).map fun (w : Nat) => (w : Int)) := by
  refine (List.perm_ext_iff_of_nodup m.im.kn ?_).2 fun x => ?_
  · rw [List.nodup_iff_pairwise_ne, List.pairwise_map]
    exact (List.nodup_iff_pairwise_ne.1 (pend_nodup s)).imp fun h e => h (by omega)
  · constructor
    · intro hx
      obtain ⟨e, he, rfl⟩ := List.mem_map.1 hx
      obtain ⟨w, y, h1, h2, h3, _⟩ := m.ent e he
      exact List.mem_map.2 ⟨w, pend_mem.2 ⟨h1, by rw [h3]; simp⟩, h2.symm⟩
    · intro hx
      obtain ⟨w, hw, rfl⟩ := List.mem_map.1 hx
      obtain ⟨_, h2⟩ := pend_mem.1 hw
      obtain ⟨y, hy⟩ := Option.ne_none_iff_exists'.1 h2
      obtain ⟨b, hb⟩ := m.has w y hy
      exact List.mem_map.2 ⟨_, hb, rfl⟩

theorem keys_sorted {s : PmS} {l : List (Int × Value × Nat)} {c : Nat} (m : BufM (8 * s.nl) s.buf l c) : sortZ (keysOf l) = (pend s).map fun (w : Nat) => (w : Int) := by
  have hp := keys_perm m
  have tr : ∀ a b c : Int, decide (a ≤ b) = true → decide (b ≤ c) = true → decide (a ≤ c) = true := fun a b c h1 h2 => by simp only [decide_eq_true_eq] at *; omega
  have to : ∀ a b : Int, (decide (a ≤ b) || decide (b ≤ a)) = true := fun a b => by simp only [Bool.or_eq_true, decide_eq_true_eq]; omega
  refine List.Perm.eq_of_pairwise (le := fun a b => decide (a ≤ b) = true) (fun a b _ _ h1 h2 => ?_) (List.pairwise_mergeSort tr to _) ?_ ((List.mergeSort_perm _ _).trans hp)
  · simp only [decide_eq_true_eq] at h1 h2; omega
  · rw [List.pairwise_map]
    exact (pend_sorted s).imp fun h => by simp only [decide_eq_true_eq]; omega

section
variable {F : Nat → Prop} {h : Heap} {d : Nat} {s : PmS} {Q : Value → Heap → Prop}

theorem pm_Device_Pending.c (w : PmD F h d s) (hq : ∀ a cp h', Part h h' → Sl (fun k => h k = none) h' 3 1 a (pend s).length cp (rowN (pend s)) → Q (.slice a (pend s).length cp) h') :
    C Try.prog 17 #[.pointer (some ⟨d, 0, none⟩)] h Q := by
  obtain ⟨mb, r, wb, bb, l, c, w⟩ := w
  have hi := w.hi
  have hlen : l.length = (pend s).length := by have := (keys_perm w.bm).length_eq; simpa using this
  have hle := pend_length s
  apply pm_Device_Pending.ok
  refine xsIf_f rfl ⟨d, 0, rfl, _, w.hd.cell _, ?_⟩
  apply maps_Keys_map_int_pm_cell_int_pm_cell.ok
  intro b hb
  have hrn : r ≠ b := fun e => by have := w.hr; rw [e, hb] at this; cases this
  refine ⟨_, rfl, (sortedI.c (Bm := b) (r := r) (l := l) (c := c) (by rw [upd_same]) (by rw [upd_ne hrn]; exact w.hr) w.bm.im (by omega)).mono ?_⟩
  rintro v h' ⟨a, n, cp, rfl, rfl, hsl, hp⟩
  rw [keys_sorted w.bm, List.map_map] at hsl
  have hpart : Part h h' := fun k o hk => hp k o (by rw [upd_ne (fun e => by rw [e, hb] at hk; cases hk)]; exact hk)
  refine ⟨a, l.length, cp, rfl, ?_⟩
  rw [hlen] at hsl ⊢
  refine hq a cp h' hpart (hsl.keep (fun k hk => ?_) fun _ _ _ => rfl)
  by_cases e : k = b
  · rw [e]; exact hb
  · rw [upd_ne e] at hk; exact hk
end
end Go.Gb
