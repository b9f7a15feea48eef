/- Own text for the seat: RLinePlays. -/
import Derived.Test.YtbphidfhcijbhaaRows
import Derived.Test.YtbphidfhcijbhaaA10
import Derived.Test.YtbphidfhcijbhaaA11
import Derived.Test.YtbphidfhcijbhaaB5
set_option linter.unusedVariables false
set_option linter.unusedSimpArgs false
set_option linter.unnecessarySimpa false
set_option linter.deprecated false
namespace Go.Gb
open Go.Proofs Go.Proofs.Ytbphidfhcijbhaa
open Go.ChangeShapes Go.WideShapes Go.ChangeAt Go.RowKit
open Go.ChangeMaps (open_string shut_string)

set_option maxRecDepth 100000 in
theorem linePlays_lifted (os : Os) (started : os.Started) (H : Type) (enc : TypeId × Value → H) :
    ReturnsInHanded {} Try.checked os 10 .any (Rows.linePlaysSpec.pre6 enc Try.prog Try.f10 Rows.linePlaysRow.domain false) (Rows.linePlaysSpec.post enc Try.prog Try.f10 false true false false) := by
  refine lift (C := Try.checked) (rt := 4) (by kernel_rfl) started (by kernel_rfl) Try.func10
    (ChangeSpec.witness6 (enc := enc) (C := Try.checked) false ⟨#[], #[.slice none 0 0], []⟩ 8 (by kernel_rfl) (by kernel_rfl) (by kernel_rfl) (by kernel_rfl))
    (by kernel_rfl) (by kernel_rfl) rfl (by kernel_rfl) (by kernel_rfl) (fun ds hd => by match ds, hd with | [d0], _ => rfl) ?_
  intro W base args ds ps hval hA hsz hfz
  have hval : ∀ (j : Nat) t v, (#[69] : Array Nat)[j]? = some t → args[j]? = some v → Value.okWide Try.prog W .any base t v := hval
  replace hA : DataW.TrodAll enc Try.prog W 0 (fun _ => true) true [69] args.toList ds ps := hA
  replace hsz : (DataW.weightsEach Try.prog [69] ds).all (· ≤ reachBytes) = true := hsz
  obtain ⟨v0, vs0, d0, ds0, p0, q0, hargs, rfl, rfl, h0, r0⟩ := trodAll_cons hA
  obtain ⟨rfl, rfl, rfl⟩ := trodAll_nil r0
  obtain rfl : args = #[v0] := by cases args; simp_all
  exact C.below fun h hs hw => gabionlaw04_LinePlays.law v0 h (open_cell (d := 8) hw (by kernel_rfl) (hval 0 69 v0 rfl rfl) h0)

theorem linePlays_over : Rows.linePlaysRow.holds Try.pinned (OpenSpec.ofChange Rows.linePlaysSpec) :=
  OpenClaim.holds_of_wide 10 Try.f10 rfl rfl rfl rfl rfl rfl rfl ⟨rfl, rfl, rfl, rfl, rfl⟩ rfl rfl rfl rfl rfl (by kernel_rfl) Try.func10 (by kernel_rfl)
    (of_decide_eq_true (by kernel_rfl)) (by unfold Func.isWrapper; first | (rw [if_pos (by decide +kernel)]; kernel_rfl) | (rw [if_neg (by decide +kernel)]; exact ⟨rfl, rfl⟩))
    (fun os started H enc _ => linePlays_lifted os started H enc)
end Go.Gb
namespace Go.Proofs.Ytbphidfhcijbhaa
theorem linePlays_holds : Rows.LinePlaysSaid := Go.Gb.linePlays_over
end Go.Proofs.Ytbphidfhcijbhaa
#print axioms Go.Proofs.Ytbphidfhcijbhaa.linePlays_holds
