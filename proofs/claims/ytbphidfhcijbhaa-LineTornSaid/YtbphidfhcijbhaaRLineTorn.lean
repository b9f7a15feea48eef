/- Own text for the seat: RLineTorn. -/
import Derived.Test.YtbphidfhcijbhaaRows
import Derived.Test.YtbphidfhcijbhaaA10
import Derived.Test.YtbphidfhcijbhaaA11
import Derived.Test.YtbphidfhcijbhaaB5
set_option linter.unusedVariables false
set_option linter.unusedSimpArgs false
set_option linter.unnecessarySimpa false
set_option linter.deprecated false
namespace Go.Gb
open Go.Proofs Go.Proofs.Ytbphidfhcijbhaa
open Go.ChangeShapes Go.WideShapes Go.ChangeAt Go.RowKit
open Go.ChangeMaps (open_string shut_string)

set_option maxRecDepth 100000 in
theorem lineTorn_lifted (os : Os) (started : os.Started) (H : Type) (enc : TypeId × Value → H) :
    ReturnsInHanded {} Try.checked os 11 .any (Rows.lineTornSpec.pre6 enc Try.prog Try.f11 Rows.lineTornRow.domain false) (Rows.lineTornSpec.post enc Try.prog Try.f11 false true false false) := by
  refine lift (C := Try.checked) (rt := 4) (by kernel_rfl) started (by kernel_rfl) Try.func11
    (ChangeSpec.witness6 (enc := enc) (C := Try.checked) false ⟨#[], #[.string ⟨#[]⟩, .string ⟨#[]⟩, .agg #[.int .u8 0, .int .u8 0]], []⟩ 8 (by kernel_rfl) (by kernel_rfl) (by kernel_rfl) (by kernel_rfl))
    (by kernel_rfl) (by kernel_rfl) rfl (by kernel_rfl) (by kernel_rfl) (fun ds hd => by match ds, hd with | [d0, d1, d2], _ => rfl) ?_
  intro W base args ds ps hval hA hsz hfz
  have hval : ∀ (j : Nat) t v, (#[9, 9, 82] : Array Nat)[j]? = some t → args[j]? = some v → Value.okWide Try.prog W .any base t v := hval
  replace hA : DataW.TrodAll enc Try.prog W 0 (fun _ => true) true [9, 9, 82] args.toList ds ps := hA
  replace hsz : (DataW.weightsEach Try.prog [9, 9, 82] ds).all (· ≤ reachBytes) = true := hsz
  obtain ⟨v0, vs0, d0, ds0, p0, q0, hargs, rfl, rfl, h0, r0⟩ := trodAll_cons hA
  obtain ⟨v1, vs1, d1, ds1, p1, q1, rfl, rfl, rfl, h1, r1⟩ := trodAll_cons r0
  obtain ⟨v2, vs2, d2, ds2, p2, q2, rfl, rfl, rfl, h2, r2⟩ := trodAll_cons r1
  obtain ⟨rfl, rfl, rfl⟩ := trodAll_nil r2
  obtain rfl : args = #[v0, v1, v2] := by cases args; simp_all
  obtain ⟨a0, rfl, rfl, -, -⟩ := open_string (P := Try.prog) (t := 9) (by kernel_rfl) (hval 0 9 v0 rfl rfl) h0
  have w0 : a0.size ≤ 140737488351232 := by
    have z := sized_string hsz (j := 0) (t := 9) rfl rfl
    rw [Array.length_toList] at z
    exact z
  obtain ⟨a1, rfl, rfl, -, -⟩ := open_string (P := Try.prog) (t := 9) (by kernel_rfl) (hval 1 9 v1 rfl rfl) h1
  have w1 : a1.size ≤ 140737488351232 := by
    have z := sized_string hsz (j := 1) (t := 9) rfl rfl
    rw [Array.length_toList] at z
    exact z
  obtain ⟨a2, rfl, l2, w2⟩ := Go.Gb.open_ints (P := Try.prog) (t := 82) (e := 5) (n := 2) (k := .u8) (by kernel_rfl) (by kernel_rfl) (by kernel_rfl) (by kernel_rfl) (hval 2 82 v2 rfl rfl) h2
  exact C.below fun h hs hw => gabionlaw04_LineTorn.law a0 w0 a1 w1 a2 l2 w2 h 

theorem lineTorn_over : Rows.lineTornRow.holds Try.pinned (OpenSpec.ofChange Rows.lineTornSpec) :=
  OpenClaim.holds_of_wide 11 Try.f11 rfl rfl rfl rfl rfl rfl rfl ⟨rfl, rfl, rfl, rfl, rfl⟩ rfl rfl rfl rfl rfl (by kernel_rfl) Try.func11 (by kernel_rfl)
    (of_decide_eq_true (by kernel_rfl)) (by unfold Func.isWrapper; first | (rw [if_pos (by decide +kernel)]; kernel_rfl) | (rw [if_neg (by decide +kernel)]; exact ⟨rfl, rfl⟩))
    (fun os started H enc _ => lineTorn_lifted os started H enc)
end Go.Gb
namespace Go.Proofs.Ytbphidfhcijbhaa
theorem lineTorn_holds : Rows.LineTornSaid := Go.Gb.lineTorn_over
end Go.Proofs.Ytbphidfhcijbhaa
#print axioms Go.Proofs.Ytbphidfhcijbhaa.lineTorn_holds
