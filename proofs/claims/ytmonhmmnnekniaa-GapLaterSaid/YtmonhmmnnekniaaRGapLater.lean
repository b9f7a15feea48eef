/- Own text for the seat: RGapLater. -/
import Derived.Test.YtmonhmmnnekniaaRows
import Derived.Test.YtmonhmmnnekniaaGbClose
import Derived.Test.YtmonhmmnnekniaaG1
set_option linter.unusedVariables false
set_option linter.unusedSimpArgs false
set_option linter.unnecessarySimpa false
set_option linter.deprecated false
namespace Go.Gb
open Go.Proofs Go.Proofs.Ytmonhmmnnekniaa
open Go.ChangeShapes Go.WideShapes Go.ChangeAt Go.RowKit

set_option maxRecDepth 100000 in
theorem gapLater_lifted (os : Os) (started : os.Started) (H : Type) (enc : TypeId × Value → H) :
    ReturnsInHanded {} Try.checked os 4 .any (Rows.gapLaterSpec.pre6 enc Try.prog Try.f4 Rows.gapLaterRow.domain false) (Rows.gapLaterSpec.post enc Try.prog Try.f4 false true false false) := by
  refine lift (C := Try.checked) (rt := 4) (by kernel_rfl) started (by kernel_rfl) Try.func4
    (ChangeSpec.witness6 (enc := enc) (C := Try.checked) false ⟨#[], #[.int .u8 0, .int .u16 0], []⟩ 8 (by kernel_rfl) (by kernel_rfl) (by kernel_rfl) (by kernel_rfl))
    (by kernel_rfl) (by kernel_rfl) rfl (by kernel_rfl) (by kernel_rfl) (fun ds hd => by match ds, hd with | [d0, d1], _ => rfl) ?_
  intro W base args ds ps hval hA hsz hfz
  have hval : ∀ (j : Nat) t v, (#[5, 35] : Array Nat)[j]? = some t → args[j]? = some v → Value.okWide Try.prog W .any base t v := hval
  replace hA : DataW.TrodAll enc Try.prog W 0 (fun _ => true) true [5, 35] args.toList ds ps := hA
  obtain ⟨v0, vs0, d0, ds0, p0, q0, hargs, rfl, rfl, h0, r0⟩ := trodAll_cons hA
  obtain ⟨v1, vs1, d1, ds1, p1, q1, rfl, rfl, rfl, h1, r1⟩ := trodAll_cons r0
  obtain ⟨rfl, rfl, rfl⟩ := trodAll_nil r1
  obtain rfl : args = #[v0, v1] := by cases args; simp_all
  obtain ⟨a0, rfl, -, -, w0⟩ := open_int (P := Try.prog) (t := 5) (k := .u8) (by kernel_rfl) (hval 0 5 v0 rfl rfl) h0
  have w0 := wf_lo w0
  obtain ⟨a1, rfl, -, -, w1⟩ := open_int (P := Try.prog) (t := 35) (k := .u16) (by kernel_rfl) (hval 1 35 v1 rfl rfl) h1
  have w1 := wf_lo w1
  exact C.below fun h hs hw => gabionlaw06_GapLater.law a0 w0 a1 w1 h

theorem gapLater_over : Rows.gapLaterRow.holds Try.pinned (OpenSpec.ofChange Rows.gapLaterSpec) :=
  OpenClaim.holds_of_wide 4 Try.f4 rfl rfl rfl rfl rfl rfl rfl ⟨rfl, rfl, rfl, rfl, rfl⟩ rfl rfl rfl rfl rfl (by kernel_rfl) Try.func4 (by kernel_rfl)
    (of_decide_eq_true (by kernel_rfl)) (by unfold Func.isWrapper; first | (rw [if_pos (by decide +kernel)]; kernel_rfl) | (rw [if_neg (by decide +kernel)]; exact ⟨rfl, rfl⟩))
    (fun os started H enc _ => gapLater_lifted os started H enc)
end Go.Gb
namespace Go.Proofs.Ytmonhmmnnekniaa
theorem gapLater_holds : Rows.GapLaterSaid := Go.Gb.gapLater_over
end Go.Proofs.Ytmonhmmnnekniaa
#print axioms Go.Proofs.Ytmonhmmnnekniaa.gapLater_holds
