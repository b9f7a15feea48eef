/- Own text for the seat: RPmPlays. -/
import Derived.Test.YtbphidfhcijbhaaRows
import Derived.Test.YtbphidfhcijbhaaGbClose
import Derived.Test.YtbphidfhcijbhaaGbArgs
import Derived.Test.YtbphidfhcijbhaaPmP2
set_option linter.unusedVariables false
set_option linter.unusedSimpArgs false
set_option linter.unnecessarySimpa false
set_option linter.deprecated false
namespace Go.Gb
open Go.Proofs Go.Proofs.Ytbphidfhcijbhaa
open Go.ChangeShapes Go.WideShapes Go.ChangeAt Go.RowKit
open Go.ChangeMaps (open_string shut_string)

set_option maxRecDepth 100000 in
theorem pmPlays_lifted (os : Os) (started : os.Started) (H : Type) (enc : TypeId × Value → H) :
    ReturnsInHanded {} Try.checked os 5 .any (Rows.pmPlaysSpec.pre6 enc Try.prog Try.f5 Rows.pmPlaysRow.domain false) (Rows.pmPlaysSpec.post enc Try.prog Try.f5 false true false false) := by
  refine lift (C := Try.checked) (rt := 4) (by kernel_rfl) started (by kernel_rfl) Try.func5
    (ChangeSpec.witness6 (enc := enc) (C := Try.checked) false ⟨#[], #[.int .i64 0, .slice none 0 0], []⟩ 8 (by kernel_rfl) (by kernel_rfl) (by kernel_rfl) (by kernel_rfl))
    (by kernel_rfl) (by kernel_rfl) rfl (by kernel_rfl) (by kernel_rfl) (fun ds hd => by match ds, hd with | [d0, d1], _ => rfl) ?_
  intro W base args ds ps hval hA hsz hfz
  have hval : ∀ (j : Nat) t v, (#[3, 47] : Array Nat)[j]? = some t → args[j]? = some v → Value.okWide Try.prog W .any base t v := hval
  replace hA : DataW.TrodAll enc Try.prog W 0 (fun _ => true) true [3, 47] args.toList ds ps := hA
  replace hsz : (DataW.weightsEach Try.prog [3, 47] ds).all (· ≤ reachBytes) = true := hsz
  obtain ⟨v0, vs0, d0, ds0, p0, q0, hargs, rfl, rfl, h0, r0⟩ := trodAll_cons hA
  obtain ⟨v1, vs1, d1, ds1, p1, q1, rfl, rfl, rfl, h1, r1⟩ := trodAll_cons r0
  obtain ⟨rfl, rfl, rfl⟩ := trodAll_nil r1
  obtain rfl : args = #[v0, v1] := by cases args; simp_all
  obtain ⟨a0, rfl, -, -, w0⟩ := open_int (P := Try.prog) (t := 3) (k := .i64) (by kernel_rfl) (hval 0 3 v0 rfl rfl) h0
  have w0 := wf_lo w0
  exact C.below fun h hs hw => gabionlaw03_PmPlays.law a0 w0 v1 h (open_cell (d := 8) hw (by kernel_rfl) (hval 1 47 v1 rfl rfl) h1)

theorem pmPlays_over : Rows.pmPlaysRow.holds Try.pinned (OpenSpec.ofChange Rows.pmPlaysSpec) :=
  OpenClaim.holds_of_wide 5 Try.f5 rfl rfl rfl rfl rfl rfl rfl ⟨rfl, rfl, rfl, rfl, rfl⟩ rfl rfl rfl rfl rfl (by kernel_rfl) Try.func5 (by kernel_rfl)
    (of_decide_eq_true (by kernel_rfl)) (by unfold Func.isWrapper; first | (rw [if_pos (by decide +kernel)]; kernel_rfl) | (rw [if_neg (by decide +kernel)]; exact ⟨rfl, rfl⟩))
    (fun os started H enc _ => pmPlays_lifted os started H enc)
end Go.Gb
namespace Go.Proofs.Ytbphidfhcijbhaa
theorem pmPlays_holds : Rows.PmPlaysSaid := Go.Gb.pmPlays_over
end Go.Proofs.Ytbphidfhcijbhaa
#print axioms Go.Proofs.Ytbphidfhcijbhaa.pmPlays_holds
