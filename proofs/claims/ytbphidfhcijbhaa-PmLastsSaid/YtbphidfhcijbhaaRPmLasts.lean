/- Own text for the seat: RPmLasts. -/
import Derived.Test.YtbphidfhcijbhaaRows
import Derived.Test.YtbphidfhcijbhaaGbClose
import Derived.Test.YtbphidfhcijbhaaGbArgs
import Derived.Test.YtbphidfhcijbhaaPmF2
set_option linter.unusedVariables false
set_option linter.unusedSimpArgs false
set_option linter.unnecessarySimpa false
set_option linter.deprecated false
namespace Go.Gb
open Go.Proofs Go.Proofs.Ytbphidfhcijbhaa
open Go.ChangeShapes Go.WideShapes Go.ChangeAt Go.RowKit
open Go.ChangeMaps (open_string shut_string)

set_option maxRecDepth 100000 in
theorem pmLasts_lifted (os : Os) (started : os.Started) (H : Type) (enc : TypeId × Value → H) :
    ReturnsInHanded {} Try.checked os 3 .any (Rows.pmLastsSpec.pre6 enc Try.prog Try.f3 Rows.pmLastsRow.domain false) (Rows.pmLastsSpec.post enc Try.prog Try.f3 false true false false) := by
  refine lift (C := Try.checked) (rt := 4) (by kernel_rfl) started (by kernel_rfl) Try.func3
    (ChangeSpec.witness6 (enc := enc) (C := Try.checked) false ⟨#[], #[.agg #[.int .u64 0, .int .u64 0, .int .u64 0, .int .u64 0, .int .u64 0, .int .u64 0, .int .u64 0, .int .u64 0, .int .u64 0, .int .u64 0, .int .u64 0, .int .u64 0, .int .u64 0, .int .u64 0, .int .u64 0, .int .u64 0, .int .u64 0, .int .u64 0, .int .u64 0, .int .u64 0, .int .u64 0, .int .u64 0, .int .u64 0, .int .u64 0, .int .u64 0, .int .u64 0, .int .u64 0, .int .u64 0, .int .u64 0, .int .u64 0, .int .u64 0, .int .u64 0], .slice none 0 0, .agg #[.bool false, .bool false]], []⟩ 8 (by kernel_rfl) (by kernel_rfl) (by kernel_rfl) (by kernel_rfl))
    (by kernel_rfl) (by kernel_rfl) rfl (by kernel_rfl) (by kernel_rfl) (fun ds hd => by match ds, hd with | [d0, d1, d2], _ => rfl) ?_
  intro W base args ds ps hval hA hsz hfz
  have hval : ∀ (j : Nat) t v, (#[24, 25, 26] : Array Nat)[j]? = some t → args[j]? = some v → Value.okWide Try.prog W .any base t v := hval
  replace hA : DataW.TrodAll enc Try.prog W 0 (fun _ => true) true [24, 25, 26] args.toList ds ps := hA
  replace hsz : (DataW.weightsEach Try.prog [24, 25, 26] ds).all (· ≤ reachBytes) = true := hsz
  obtain ⟨v0, vs0, d0, ds0, p0, q0, hargs, rfl, rfl, h0, r0⟩ := trodAll_cons hA
  obtain ⟨v1, vs1, d1, ds1, p1, q1, rfl, rfl, rfl, h1, r1⟩ := trodAll_cons r0
  obtain ⟨v2, vs2, d2, ds2, p2, q2, rfl, rfl, rfl, h2, r2⟩ := trodAll_cons r1
  obtain ⟨rfl, rfl, rfl⟩ := trodAll_nil r2
  obtain rfl : args = #[v0, v1, v2] := by cases args; simp_all
  obtain ⟨c0, rfl⟩ := open_aggv (P := Try.prog) (t := 24) (by kernel_rfl) (hval 0 24 v0 rfl rfl)
  obtain ⟨c2, rfl⟩ := open_aggv (P := Try.prog) (t := 26) (by kernel_rfl) (hval 2 26 v2 rfl rfl)
  exact C.below fun h hs hw => gabionlaw03_PmLasts.law c0 v1 c2 h (okc_agg (d := 8) hw h0) (open_cell (d := 8) hw (by kernel_rfl) (hval 1 25 v1 rfl rfl) h1) (okc_agg (d := 8) hw h2)

theorem pmLasts_over : Rows.pmLastsRow.holds Try.pinned (OpenSpec.ofChange Rows.pmLastsSpec) :=
  OpenClaim.holds_of_wide 3 Try.f3 rfl rfl rfl rfl rfl rfl rfl ⟨rfl, rfl, rfl, rfl, rfl⟩ rfl rfl rfl rfl rfl (by kernel_rfl) Try.func3 (by kernel_rfl)
    (of_decide_eq_true (by kernel_rfl)) (by unfold Func.isWrapper; first | (rw [if_pos (by decide +kernel)]; kernel_rfl) | (rw [if_neg (by decide +kernel)]; exact ⟨rfl, rfl⟩))
    (fun os started H enc _ => pmLasts_lifted os started H enc)
end Go.Gb
namespace Go.Proofs.Ytbphidfhcijbhaa
theorem pmLasts_holds : Rows.PmLastsSaid := Go.Gb.pmLasts_over
end Go.Proofs.Ytbphidfhcijbhaa
#print axioms Go.Proofs.Ytbphidfhcijbhaa.pmLasts_holds
