/- Own text for the seat: RRingPlays. -/
import Derived.Test.YtpmghonehgnjlaaGreatRows
import Derived.Test.YtpmghonehgnjlaaGreatA10
import Derived.Test.YtpmghonehgnjlaaGreatA11
import Derived.Test.YtpmghonehgnjlaaGreatB6
set_option linter.unusedVariables false
set_option linter.unusedSimpArgs false
set_option linter.unnecessarySimpa false
set_option linter.deprecated false
namespace Go.Gb
open Go.Proofs Go.Proofs.YtpmghonehgnjlaaGreat
open Go.ChangeShapes Go.WideShapes Go.ChangeAt Go.RowKit
open Go.ChangeMaps (open_string shut_string)

set_option maxRecDepth 100000 in
theorem ringPlays_lifted (os : Os) (started : os.Started) (H : Type) (enc : TypeId × Value → H) :
    ReturnsInHanded {} Tryz.checked os 6 .any (Rows.ringPlaysSpec.pre6 enc Tryz.prog Tryz.f6 Rows.ringPlaysRow.domain false) (Rows.ringPlaysSpec.post enc Tryz.prog Tryz.f6 false true false false) := by
  refine lift (C := Tryz.checked) (rt := 4) (by kernel_rfl) started (by kernel_rfl) Tryz.func6
    (ChangeSpec.witness6 (enc := enc) (C := Tryz.checked) false ⟨#[], #[.agg #[.int .i64 0, .int .i64 0, .int .i64 0, .int .i64 0], .slice none 0 0], []⟩ 8 (by kernel_rfl) (by kernel_rfl) (by kernel_rfl) (by kernel_rfl))
    (by kernel_rfl) (by kernel_rfl) rfl (by kernel_rfl) (by kernel_rfl) (fun ds hd => by match ds, hd with | [d0, d1], _ => rfl) ?_
  intro W base args ds ps hval hA hsz hfz
  have hval : ∀ (j : Nat) t v, (#[22, 46] : Array Nat)[j]? = some t → args[j]? = some v → Value.okWide Tryz.prog W .any base t v := hval
  replace hA : DataW.TrodAll enc Tryz.prog W 0 (fun _ => true) true [22, 46] args.toList ds ps := hA
  replace hsz : (DataW.weightsEach Tryz.prog [22, 46] ds).all (· ≤ reachBytes) = true := hsz
  obtain ⟨v0, vs0, d0, ds0, p0, q0, hargs, rfl, rfl, h0, r0⟩ := trodAll_cons hA
  obtain ⟨v1, vs1, d1, ds1, p1, q1, rfl, rfl, rfl, h1, r1⟩ := trodAll_cons r0
  obtain ⟨rfl, rfl, rfl⟩ := trodAll_nil r1
  obtain rfl : args = #[v0, v1] := by cases args; simp_all
  obtain ⟨a0, rfl, l0, w0⟩ := Go.Gb.open_ints (P := Tryz.prog) (t := 22) (e := 3) (n := 4) (k := .i64) (by kernel_rfl) (by kernel_rfl) (by kernel_rfl) (by kernel_rfl) (hval 0 22 v0 rfl rfl) h0
  exact C.below fun h hs hw => gabionlaw07_RingPlays.law a0 l0 w0 v1 h (open_cell (d := 8) hw (by kernel_rfl) (hval 1 46 v1 rfl rfl) h1)

theorem ringPlays_over : Rows.ringPlaysRow.holds Tryz.pinned (OpenSpec.ofChange Rows.ringPlaysSpec) :=
  OpenClaim.holds_of_wide 6 Tryz.f6 rfl rfl rfl rfl rfl rfl rfl ⟨rfl, rfl, rfl, rfl, rfl⟩ rfl rfl rfl rfl rfl (by kernel_rfl) Tryz.func6 (by kernel_rfl)
    (of_decide_eq_true (by kernel_rfl)) (by unfold Func.isWrapper; first | (rw [if_pos (by decide +kernel)]; kernel_rfl) | (rw [if_neg (by decide +kernel)]; exact ⟨rfl, rfl⟩))
    (fun os started H enc _ => ringPlays_lifted os started H enc)
end Go.Gb
namespace Go.Proofs.YtpmghonehgnjlaaGreat
theorem ringPlays_holds : Rows.RingPlaysSaid := Go.Gb.ringPlays_over
end Go.Proofs.YtpmghonehgnjlaaGreat
#print axioms Go.Proofs.YtpmghonehgnjlaaGreat.ringPlays_holds
