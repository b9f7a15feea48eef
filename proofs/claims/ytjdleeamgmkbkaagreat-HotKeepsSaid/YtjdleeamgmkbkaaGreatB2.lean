/- Own texts for the seat: Hp. -/
import Derived.Test.YtjdleeamgmkbkaaGreatA6
import Derived.Test.YtjdleeamgmkbkaaGreatA11
set_option linter.unusedVariables false
set_option linter.unusedSimpArgs false
set_option linter.unnecessarySimpa false
set_option linter.deprecated false
namespace Go.Gb
open IntWalk
theorem slBase0 (a : Option Addr) (c : Int) (sz : Nat) : slBase a c 0 sz = a := by
 unfold slBase
 split
 ·rfl
 ·cases a with
  | none => rfl
  | some x => simp [Addr.add]
theorem okc_bools {P : Program} {h : Heap} {d : Nat} {t e : TypeId} {v : Value} (ht : P.underlying t = some (.slice e)) (he : P.underlying e = some .bool) (hsz : P.cellsOf e = 1) (hk : Okc P h (d + 2) t [v]) :
  ∃ (a : Option Addr) (n c : Nat) (l : List Bool), v = .slice a n c ∧ n ≤ c ∧ c ≤ 9223372036854775807 ∧ l.length = n ∧ readsAt h a (l.map Value.bool) := by
 obtain ⟨a, n, c, dss, rfl, h1, h2, h3, h4, h5⟩ := okc_slice ht hsz (by omega) hk
 obtain ⟨l, rfl, -⟩ := typed (f := fun x => [Value.bool x]) (p := fun _ => True) dss (fun ds hds => by
  have := (h4 ds hds).2
  unfold Okc at this
  rw [he] at this
  obtain ⟨b, hb⟩ := this
  exact ⟨b, hb, trivial⟩)
 refine ⟨a, n, c, l, rfl, h1, h2, by simpa using h3, ?_⟩
 have : (l.map fun x => [Value.bool x]).flatten = l.map Value.bool := by
  clear h3 h4 h5
  induction l with
  | nil => rfl
  | cons x l ih => simp at ih ⊢; exact ih
 rw [← this]; exact h5
end Go.Gb
