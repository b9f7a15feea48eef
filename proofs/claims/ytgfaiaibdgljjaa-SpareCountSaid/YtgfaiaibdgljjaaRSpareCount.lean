/- Own text for the seat: RSpareCount. -/
import Derived.Test.YtgfaiaibdgljjaaRows
import Derived.Test.YtgfaiaibdgljjaaA10
import Derived.Test.YtgfaiaibdgljjaaA11
import Derived.Test.YtgfaiaibdgljjaaB6
set_option linter.unusedVariables false
set_option linter.unusedSimpArgs false
set_option linter.unnecessarySimpa false
set_option linter.deprecated false
namespace Go.Gb
open Go.Proofs Go.Proofs.Ytgfaiaibdgljjaa
open Go.ChangeShapes Go.WideShapes Go.ChangeAt Go.RowKit
open Go.ChangeMaps (open_string shut_string)

set_option maxRecDepth 100000 in
theorem spareCount_lifted (os : Os) (started : os.Started) (H : Type) (enc : TypeId × Value → H) :
    ReturnsInHanded {} Try.checked os 3 .any (Rows.spareCountSpec.pre6 enc Try.prog Try.f3 Rows.spareCountRow.domain false) (Rows.spareCountSpec.post enc Try.prog Try.f3 false true false false) := by
  refine lift (C := Try.checked) (rt := 4) (by kernel_rfl) started (by kernel_rfl) Try.func3
    (ChangeSpec.witness6 (enc := enc) (C := Try.checked) false ⟨#[], #[.int .u8 0, .int .u8 0], []⟩ 8 (by kernel_rfl) (by kernel_rfl) (by kernel_rfl) (by kernel_rfl))
    (by kernel_rfl) (by kernel_rfl) rfl (by kernel_rfl) (by kernel_rfl) (fun ds hd => by match ds, hd with | [d0, d1], _ => rfl) ?_
  intro W base args ds ps hval hA hsz hfz
  have hval : ∀ (j : Nat) t v, (#[5, 5] : Array Nat)[j]? = some t → args[j]? = some v → Value.okWide Try.prog W .any base t v := hval
  replace hA : DataW.TrodAll enc Try.prog W 0 (fun _ => true) true [5, 5] args.toList ds ps := hA
  replace hsz : (DataW.weightsEach Try.prog [5, 5] ds).all (· ≤ reachBytes) = true := hsz
  obtain ⟨v0, vs0, d0, ds0, p0, q0, hargs, rfl, rfl, h0, r0⟩ := trodAll_cons hA
  obtain ⟨v1, vs1, d1, ds1, p1, q1, rfl, rfl, rfl, h1, r1⟩ := trodAll_cons r0
  obtain ⟨rfl, rfl, rfl⟩ := trodAll_nil r1
  obtain rfl : args = #[v0, v1] := by cases args; simp_all
  obtain ⟨a0, rfl, -, -, w0⟩ := open_int (P := Try.prog) (t := 5) (k := .u8) (by kernel_rfl) (hval 0 5 v0 rfl rfl) h0
  have w0 := wf_lo w0
  obtain ⟨a1, rfl, -, -, w1⟩ := open_int (P := Try.prog) (t := 5) (k := .u8) (by kernel_rfl) (hval 1 5 v1 rfl rfl) h1
  have w1 := wf_lo w1
  exact C.below fun h hs hw => gabionlaw05_SpareCount.law a0 w0 a1 w1 h 

theorem spareCount_over : Rows.spareCountRow.holds Try.pinned (OpenSpec.ofChange Rows.spareCountSpec) :=
  OpenClaim.holds_of_wide 3 Try.f3 rfl rfl rfl rfl rfl rfl rfl ⟨rfl, rfl, rfl, rfl, rfl⟩ rfl rfl rfl rfl rfl (by kernel_rfl) Try.func3 (by kernel_rfl)
    (of_decide_eq_true (by kernel_rfl)) (by unfold Func.isWrapper; first | (rw [if_pos (by decide +kernel)]; kernel_rfl) | (rw [if_neg (by decide +kernel)]; exact ⟨rfl, rfl⟩))
    (fun os started H enc _ => spareCount_lifted os started H enc)
end Go.Gb
namespace Go.Proofs.Ytgfaiaibdgljjaa
theorem spareCount_holds : Rows.SpareCountSaid := Go.Gb.spareCount_over
end Go.Proofs.Ytgfaiaibdgljjaa
#print axioms Go.Proofs.Ytgfaiaibdgljjaa.spareCount_holds
