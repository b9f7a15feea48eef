/- Own text for the seat: RDescLeast. -/
import Derived.Test.YtmonhmmnnekniabRows
import Derived.Test.YtmonhmmnnekniabGbClose
import Derived.Test.YtmonhmmnnekniabGbArgs
import Derived.Test.YtmonhmmnnekniabDesc4
set_option linter.unusedVariables false
set_option linter.unusedSimpArgs false
set_option linter.unnecessarySimpa false
set_option linter.deprecated false
namespace Go.Gb
open Go.Proofs Go.Proofs.Ytmonhmmnnekniab
open Go.ChangeShapes Go.WideShapes Go.ChangeAt Go.RowKit
open Go.ChangeMaps (open_string shut_string)

set_option maxRecDepth 100000 in
theorem descLeast_lifted (os : Os) (started : os.Started) (H : Type) (enc : TypeId × Value → H) :
    ReturnsInHanded {} Try.checked os 7 .any (Rows.descLeastSpec.pre6 enc Try.prog Try.f7 Rows.descLeastRow.domain false) (Rows.descLeastSpec.post enc Try.prog Try.f7 false true false false) := by
  refine lift (C := Try.checked) (rt := 4) (by kernel_rfl) started (by kernel_rfl) Try.func7
    (ChangeSpec.witness6 (enc := enc) (C := Try.checked) false ⟨#[], #[.slice none 0 0], []⟩ 8 (by kernel_rfl) (by kernel_rfl) (by kernel_rfl) (by kernel_rfl))
    (by kernel_rfl) (by kernel_rfl) rfl (by kernel_rfl) (by kernel_rfl) (fun ds hd => by match ds, hd with | [d0], _ => rfl) ?_
  intro W base args ds ps hval hA hsz hfz
  have hval : ∀ (j : Nat) t v, (#[36] : Array Nat)[j]? = some t → args[j]? = some v → Value.okWide Try.prog W .any base t v := hval
  replace hA : DataW.TrodAll enc Try.prog W 0 (fun _ => true) true [36] args.toList ds ps := hA
  replace hsz : (DataW.weightsEach Try.prog [36] ds).all (· ≤ reachBytes) = true := hsz
  obtain ⟨v0, vs0, d0, ds0, p0, q0, hargs, rfl, rfl, h0, r0⟩ := trodAll_cons hA
  obtain ⟨rfl, rfl, rfl⟩ := trodAll_nil r0
  obtain rfl : args = #[v0] := by cases args; simp_all
  exact C.below fun h hs hw => gabionlaw23_DescLeast.law v0 h (open_cell (d := 8) hw (by kernel_rfl) (hval 0 36 v0 rfl rfl) h0)

theorem descLeast_over : Rows.descLeastRow.holds Try.pinned (OpenSpec.ofChange Rows.descLeastSpec) :=
  OpenClaim.holds_of_wide 7 Try.f7 rfl rfl rfl rfl rfl rfl rfl ⟨rfl, rfl, rfl, rfl, rfl⟩ rfl rfl rfl rfl rfl (by kernel_rfl) Try.func7 (by kernel_rfl)
    (of_decide_eq_true (by kernel_rfl)) (by unfold Func.isWrapper; first | (rw [if_pos (by decide +kernel)]; kernel_rfl) | (rw [if_neg (by decide +kernel)]; exact ⟨rfl, rfl⟩))
    (fun os started H enc _ => descLeast_lifted os started H enc)
end Go.Gb
namespace Go.Proofs.Ytmonhmmnnekniab
theorem descLeast_holds : Rows.DescLeastSaid := Go.Gb.descLeast_over
end Go.Proofs.Ytmonhmmnnekniab
#print axioms Go.Proofs.Ytmonhmmnnekniab.descLeast_holds
