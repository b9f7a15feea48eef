/- Own text for the seat: RLockRounds. -/
import Derived.Test.YtcccjpahikgibaaRows
import Derived.Test.YtcccjpahikgibaaA11
import Derived.Test.YtcccjpahikgibaaA12
import Derived.Test.YtcccjpahikgibaaB2
set_option linter.unusedVariables false
set_option linter.unusedSimpArgs false
set_option linter.unnecessarySimpa false
set_option linter.deprecated false
namespace Go.Gb
open Go.Proofs Go.Proofs.Ytcccjpahikgibaa
open Go.ChangeShapes Go.WideShapes Go.ChangeAt Go.RowKit
open Go.ChangeMaps (open_string shut_string)

theorem band_t {a b : Bool} (ha : a = true) (hb : b = true) : (a && b) = true := by rw [ha, hb]; rfl
theorem band_l {a b : Bool} (h : (a && b) = true) : a = true := by cases a with | true => rfl | false => exact h
theorem band_r {a b : Bool} (h : (a && b) = true) : b = true := by cases a with | true => exact h | false => cases h

set_option maxRecDepth 100000 in
theorem lockRounds_lifted (os : Os) (started : os.Started) (H : Type) (enc : TypeId × Value → H) :
    ReturnsInHanded {} Try.checked os 5 .any (Rows.lockRoundsSpec.pre6 enc Try.prog Try.f5 Rows.lockRoundsRow.domain false) (Rows.lockRoundsSpec.post enc Try.prog Try.f5 false true false false) := by
  refine lift (C := Try.checked) (rt := 4) (by kernel_rfl) started (by kernel_rfl) Try.func5
    (ChangeSpec.witness6 (enc := enc) (C := Try.checked) false ⟨#[], #[.slice none 0 0, .slice none 0 0], []⟩ 8 (by kernel_rfl) (by kernel_rfl) (by kernel_rfl) (by kernel_rfl))
    (by kernel_rfl) (by kernel_rfl) rfl (by kernel_rfl) (by kernel_rfl) (fun ds hd => by match ds, hd with | [d0, d1], _ => rfl) ?_
  intro W base args ds ps hval hA hsz hfz
  have hval : ∀ (j : Nat) t v, (#[49, 50] : Array Nat)[j]? = some t → args[j]? = some v → Value.okWide Try.prog W .any base t v := hval
  replace hA : DataW.TrodAll enc Try.prog W 0 (fun _ => true) true [49, 50] args.toList ds ps := hA
  replace hsz : (DataW.weightsEach Try.prog [49, 50] ds).all (· ≤ reachBytes) = true := hsz
  obtain ⟨v0, vs0, d0, ds0, p0, q0, hargs, rfl, rfl, h0, r0⟩ := trodAll_cons hA
  obtain ⟨v1, vs1, d1, ds1, p1, q1, rfl, rfl, rfl, h1, r1⟩ := trodAll_cons r0
  obtain ⟨rfl, rfl, rfl⟩ := trodAll_nil r1
  obtain rfl : args = #[v0, v1] := by cases args; simp_all
  exact C.below fun h hs hw => gabionlaw24_LockRounds.law v0 v1 h (open_cell (d := 8) hw (by kernel_rfl) (hval 0 49 v0 rfl rfl) h0) (open_cell (d := 8) hw (by kernel_rfl) (hval 1 50 v1 rfl rfl) h1)

theorem lockRounds_facts0 : (Rows.lockRoundsRow.wf (OpenSpec.ofChange Rows.lockRoundsSpec) && laidOutB Try.pinned.checked.prog) = true := by kernel_rfl
theorem lockRounds_facts1 : (mapsRowed Try.pinned.checked.prog && Try.f5.params.all (Try.pinned.checked.prog.readableRec ·) && namedTie Try.pinned.checked.prog Rows.lockRoundsRow.named Rows.lockRoundsSpec.vars && (Rows.lockRoundsRow.stops == []) && (Try.pinned.checked.prog.stops == []) && (Rows.lockRoundsRow.knobs == []) && (Try.pinned.checked.prog.stopKnobs == []) && (Rows.lockRoundsRow.inPlace == Try.pinned.checked.prog.inPlace 5)) = true := by kernel_rfl
theorem lockRounds_facts2 : ((Rows.lockRoundsRow.unfollowed == Try.pinned.checked.prog.unfollowed 5) && (Rows.lockRoundsRow.recurses == Try.pinned.checked.prog.recurses 5)) = true := by kernel_rfl
theorem lockRounds_facts3 : ((Rows.lockRoundsRow.named == Try.pinned.checked.prog.varsNamed 5) && (Rows.lockRoundsRow.maps == (Try.f5.params.toList ++ Rows.lockRoundsSpec.plain.varTypes Try.pinned.checked.prog).any (Try.pinned.checked.prog.mapsRec ·)) && (Rows.lockRoundsRow.ifaces == (Try.f5.params.toList ++ Rows.lockRoundsSpec.plain.varTypes Try.pinned.checked.prog).any (Try.pinned.checked.prog.ifacesRec ·)) && (Rows.lockRoundsRow.mapsOut == Try.pinned.checked.prog.mapsAmong Try.f5.resultTypes.toList) && (Rows.lockRoundsRow.loops == (Try.f5.params.toList ++ Rows.lockRoundsSpec.plain.varTypes Try.pinned.checked.prog).any (Try.pinned.checked.prog.loopsFrom ·)) && (Rows.lockRoundsRow.wideKeys == (Try.f5.params.toList ++ Rows.lockRoundsSpec.plain.varTypes Try.pinned.checked.prog ++ Try.f5.resultTypes.toList).any (Try.pinned.checked.prog.wideKeysFrom ·))) = true := by kernel_rfl
theorem lockRounds_facts4 : (Rows.lockRoundsSpec.vars.all (Try.pinned.checked.prog.varReadable ·) && Try.f5.resultTypes.all (fun t => Try.pinned.checked.prog.readableRec t && decide (t < Try.pinned.checked.prog.types.size)) && (Rows.lockRoundsRow.ifacesOut == Try.f5.resultTypes.toList.any (Try.pinned.checked.prog.ifacesRec ·)) && (Rows.lockRoundsRow.loopsOut == Try.f5.resultTypes.toList.any (Try.pinned.checked.prog.loopsFrom ·)) && (Rows.lockRoundsRow.plainKeys == Try.pinned.checked.prog.plainKeys) && Rows.lockRoundsRow.shortTexts.isNone) = true := by kernel_rfl
theorem lockRounds_facts5 : (Try.pinned.checked.prog.stopsHeard && Try.pinned.checked.prog.mayEnter && (Rows.lockRoundsRow.lifted == Try.pinned.checked.prog.liftsFinal) && (Try.pinned.checked.prog.make == some Rows.lockRoundsRow.make) && (Rows.lockRoundsRow.kinds == (if Rows.lockRoundsRow.domain.isEmpty then [] else Try.f5.params.toList.map fun t => match Try.pinned.checked.prog.underlying t with | some (.int k) => some k | _ => none)) && (Rows.lockRoundsRow.pinned == Rows.lockRoundsRow.pinnedBy) && (Rows.lockRoundsRow.veiled == (Try.f5.params.toList ++ Rows.lockRoundsSpec.plain.varTypes Try.pinned.checked.prog ++ Try.f5.resultTypes.toList).any (Try.pinned.checked.prog.veiledRec ·)) && Rows.lockRoundsRow.veiledFits Try.pinned.checked.prog Try.f5.params.toList (Try.f5.params.toList ++ Rows.lockRoundsSpec.plain.varTypes Try.pinned.checked.prog ++ Try.f5.resultTypes.toList)) = true := by kernel_rfl
set_option maxRecDepth 100000 in
theorem lockRounds_closed : joinedFacts Try.pinned.checked.prog 5 Try.f5 Rows.lockRoundsSpec Rows.lockRoundsRow = true := (band_t (band_t (band_t (band_t (band_t (band_t (band_t (band_t (band_t (band_t (band_t (band_t (band_t (band_t (band_t (band_t (band_t (band_t (band_t (band_t (band_t (band_t (band_t (band_t (band_t (band_t (band_t (band_t (band_t (band_t (band_t (band_l lockRounds_facts0) (band_r lockRounds_facts0)) (band_l (band_l (band_l (band_l (band_l (band_l (band_l lockRounds_facts1)))))))) (band_r (band_l (band_l (band_l (band_l (band_l (band_l lockRounds_facts1)))))))) (band_r (band_l (band_l (band_l (band_l (band_l lockRounds_facts1))))))) (band_r (band_l (band_l (band_l (band_l lockRounds_facts1)))))) (band_r (band_l (band_l (band_l lockRounds_facts1))))) (band_r (band_l (band_l lockRounds_facts1)))) (band_r (band_l lockRounds_facts1))) (band_r lockRounds_facts1)) (band_l lockRounds_facts2)) (band_r lockRounds_facts2)) (band_l (band_l (band_l (band_l (band_l lockRounds_facts3)))))) (band_r (band_l (band_l (band_l (band_l lockRounds_facts3)))))) (band_r (band_l (band_l (band_l lockRounds_facts3))))) (band_r (band_l (band_l lockRounds_facts3)))) (band_r (band_l lockRounds_facts3))) (band_r lockRounds_facts3)) (band_l (band_l (band_l (band_l (band_l lockRounds_facts4)))))) (band_r (band_l (band_l (band_l (band_l lockRounds_facts4)))))) (band_r (band_l (band_l (band_l lockRounds_facts4))))) (band_r (band_l (band_l lockRounds_facts4)))) (band_r (band_l lockRounds_facts4))) (band_r lockRounds_facts4)) (band_l (band_l (band_l (band_l (band_l (band_l (band_l lockRounds_facts5)))))))) (band_r (band_l (band_l (band_l (band_l (band_l (band_l lockRounds_facts5)))))))) (band_r (band_l (band_l (band_l (band_l (band_l lockRounds_facts5))))))) (band_r (band_l (band_l (band_l (band_l lockRounds_facts5)))))) (band_r (band_l (band_l (band_l lockRounds_facts5))))) (band_r (band_l (band_l lockRounds_facts5)))) (band_r (band_l lockRounds_facts5))) (band_r lockRounds_facts5))

theorem lockRounds_over : Rows.lockRoundsRow.holds Try.pinned (OpenSpec.ofChange Rows.lockRoundsSpec) :=
  OpenClaim.holds_of_wide 5 Try.f5 rfl rfl rfl rfl rfl rfl rfl ⟨rfl, rfl, rfl, rfl, rfl⟩ rfl rfl rfl rfl rfl (by kernel_rfl) Try.func5 lockRounds_closed
    (of_decide_eq_true (by kernel_rfl)) (by unfold Func.isWrapper; first | (rw [if_pos (by decide +kernel)]; kernel_rfl) | (rw [if_neg (by decide +kernel)]; exact ⟨rfl, rfl⟩))
    (fun os started H enc _ => lockRounds_lifted os started H enc)
end Go.Gb
namespace Go.Proofs.Ytcccjpahikgibaa
theorem lockRounds_holds : Rows.LockRoundsSaid := Go.Gb.lockRounds_over
end Go.Proofs.Ytcccjpahikgibaa
#print axioms Go.Proofs.Ytcccjpahikgibaa.lockRounds_holds
