/- Own text for the seat: G12. -/
import Derived.Test.YtmonhmmnnekniaaG11
import Derived.Test.YtmonhmmnnekniaaG5
set_option linter.unusedVariables false
set_option linter.unusedSimpArgs false
set_option linter.unnecessarySimpa false
set_option linter.deprecated false
namespace Go.Gb
open Go.Proofs IntWalk

/-! ## feistel: FeistelOnce -/

theorem new_goes {m : Nat} (key : Nat) (hm : m ≤ 8192) {i : Nat} (hi : i < m) : ∃ k, Goes (turnN (halfN m) (keyN key 0) (keyN key 1) (keyN key 2) (keyN key 3)) m i k :=
  (turn_perm _ _ _ _ _).goes (new_perm key hm).fit hi

theorem gabionlaw08_wakes.c {h : Heap} {Q : Value → Heap → Prop} (hq : Q (.bool true) h) : C Try.prog 41 #[] h Q := by
  apply gabionlaw08_wakes.ok
  unfold gabionlaw08_wakes.wp
  refine feistel_New.c (m := 1) (key := 99) (by omega) (by omega) (by omega) ⟨_, _, _, _, _, _, _, rfl, ?_⟩
  refine feistel_New.c (m := 100) (key := 81985529216486895) (by omega) (by omega) (by omega) ⟨_, _, _, _, _, _, _, rfl, ?_⟩
  refine xsIf_t rfl (xsIf_t rfl ?_)
  obtain ⟨k, hk⟩ := new_goes (m := 1) 99 (by omega) (i := 0) (by omega)
  refine feistel_Perm_To.c (i := 0) (new_perm (m := 1) 99 (by omega)) (by omega) hk ⟨_, rfl, ?_⟩
  have hk0 := hk.1
  refine xsIf_t (by simp; omega) ?_
  refine feistel_Perm_Size.c ⟨_, rfl, xsIf_t rfl ?_⟩
  refine feistel_Perm_Size.c ⟨_, rfl, xsIf_t rfl ?_⟩
  obtain ⟨k, hk⟩ := new_goes (m := 100) 81985529216486895 (by omega) (i := 42) (by omega)
  refine feistel_Perm_To.c (i := 42) (new_perm (m := 100) 81985529216486895 (by omega)) (by omega) hk ⟨_, rfl, ?_⟩
  refine feistel_Perm_From.c (new_perm (m := 100) 81985529216486895 (by omega)) hk.1 ((turn_perm _ _ _ _ _).goes_back (new_perm (m := 100) 81985529216486895 (by omega)).fit (by omega) hk) ⟨_, rfl, xsIf_t rfl ?_⟩
  exact feistel_Perm_To.out (by omega) ⟨_, rfl, hq⟩

end Go.Gb
