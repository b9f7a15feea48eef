/- Own text for the seat: RPmWears. -/
import Derived.Test.YtbphidfhcijbhaaRows
import Derived.Test.YtbphidfhcijbhaaGbClose
import Derived.Test.YtbphidfhcijbhaaGbArgs
import Derived.Test.YtbphidfhcijbhaaPmE2
set_option linter.unusedVariables false
set_option linter.unusedSimpArgs false
set_option linter.unnecessarySimpa false
set_option linter.deprecated false
namespace Go.Gb
open Go.Proofs Go.Proofs.Ytbphidfhcijbhaa
open Go.ChangeShapes Go.WideShapes Go.ChangeAt Go.RowKit
open Go.ChangeMaps (open_string shut_string)

set_option maxRecDepth 100000 in
theorem pmWears_lifted (os : Os) (started : os.Started) (H : Type) (enc : TypeId × Value → H) :
    ReturnsInHanded {} Try.checked os 4 .any (Rows.pmWearsSpec.pre6 enc Try.prog Try.f4 Rows.pmWearsRow.domain false) (Rows.pmWearsSpec.post enc Try.prog Try.f4 false true false false) := by
  refine lift (C := Try.checked) (rt := 4) (by kernel_rfl) started (by kernel_rfl) Try.func4
    (ChangeSpec.witness6 (enc := enc) (C := Try.checked) false ⟨#[], #[.slice none 0 0], []⟩ 8 (by kernel_rfl) (by kernel_rfl) (by kernel_rfl) (by kernel_rfl))
    (by kernel_rfl) (by kernel_rfl) rfl (by kernel_rfl) (by kernel_rfl) (fun ds hd => by match ds, hd with | [d0], _ => rfl) ?_
  intro W base args ds ps hval hA hsz hfz
  have hval : ∀ (j : Nat) t v, (#[42] : Array Nat)[j]? = some t → args[j]? = some v → Value.okWide Try.prog W .any base t v := hval
  replace hA : DataW.TrodAll enc Try.prog W 0 (fun _ => true) true [42] args.toList ds ps := hA
  replace hsz : (DataW.weightsEach Try.prog [42] ds).all (· ≤ reachBytes) = true := hsz
  obtain ⟨v0, vs0, d0, ds0, p0, q0, hargs, rfl, rfl, h0, r0⟩ := trodAll_cons hA
  obtain ⟨rfl, rfl, rfl⟩ := trodAll_nil r0
  obtain rfl : args = #[v0] := by cases args; simp_all
  exact C.below fun h hs hw => gabionlaw03_PmWears.law v0 h (open_cell (d := 8) hw (by kernel_rfl) (hval 0 42 v0 rfl rfl) h0)

theorem pmWears_over : Rows.pmWearsRow.holds Try.pinned (OpenSpec.ofChange Rows.pmWearsSpec) :=
  OpenClaim.holds_of_wide 4 Try.f4 rfl rfl rfl rfl rfl rfl rfl ⟨rfl, rfl, rfl, rfl, rfl⟩ rfl rfl rfl rfl rfl (by kernel_rfl) Try.func4 (by kernel_rfl)
    (of_decide_eq_true (by kernel_rfl)) (by unfold Func.isWrapper; first | (rw [if_pos (by decide +kernel)]; kernel_rfl) | (rw [if_neg (by decide +kernel)]; exact ⟨rfl, rfl⟩))
    (fun os started H enc _ => pmWears_lifted os started H enc)
end Go.Gb
namespace Go.Proofs.Ytbphidfhcijbhaa
theorem pmWears_holds : Rows.PmWearsSaid := Go.Gb.pmWears_over
end Go.Proofs.Ytbphidfhcijbhaa
#print axioms Go.Proofs.Ytbphidfhcijbhaa.pmWears_holds
