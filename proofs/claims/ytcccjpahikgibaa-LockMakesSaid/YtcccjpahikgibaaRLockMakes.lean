/- Own text for the seat: RLockMakes. -/
import Derived.Test.YtcccjpahikgibaaRows
import Derived.Test.YtcccjpahikgibaaA11
import Derived.Test.YtcccjpahikgibaaA12
import Derived.Test.YtcccjpahikgibaaB2
set_option linter.unusedVariables false
set_option linter.unusedSimpArgs false
set_option linter.unnecessarySimpa false
set_option linter.deprecated false
namespace Go.Gb
open Go.Proofs Go.Proofs.Ytcccjpahikgibaa
open Go.ChangeShapes Go.WideShapes Go.ChangeAt Go.RowKit
open Go.ChangeMaps (open_string shut_string)

theorem band_t {a b : Bool} (ha : a = true) (hb : b = true) : (a && b) = true := by rw [ha, hb]; rfl
theorem band_l {a b : Bool} (h : (a && b) = true) : a = true := by cases a with | true => rfl | false => exact h
theorem band_r {a b : Bool} (h : (a && b) = true) : b = true := by cases a with | true => exact h | false => cases h

set_option maxRecDepth 100000 in
theorem lockMakes_lifted (os : Os) (started : os.Started) (H : Type) (enc : TypeId × Value → H) :
    ReturnsInHanded {} Try.checked os 4 .any (Rows.lockMakesSpec.pre6 enc Try.prog Try.f4 Rows.lockMakesRow.domain false) (Rows.lockMakesSpec.post enc Try.prog Try.f4 false true false false) := by
  refine lift (C := Try.checked) (rt := 4) (by kernel_rfl) started (by kernel_rfl) Try.func4
    (ChangeSpec.witness6 (enc := enc) (C := Try.checked) false ⟨#[], #[.int .i64 0, .int .i64 0], []⟩ 8 (by kernel_rfl) (by kernel_rfl) (by kernel_rfl) (by kernel_rfl))
    (by kernel_rfl) (by kernel_rfl) rfl (by kernel_rfl) (by kernel_rfl) (fun ds hd => by match ds, hd with | [d0, d1], _ => rfl) ?_
  intro W base args ds ps hval hA hsz hfz
  have hval : ∀ (j : Nat) t v, (#[3, 3] : Array Nat)[j]? = some t → args[j]? = some v → Value.okWide Try.prog W .any base t v := hval
  replace hA : DataW.TrodAll enc Try.prog W 0 (fun _ => true) true [3, 3] args.toList ds ps := hA
  replace hsz : (DataW.weightsEach Try.prog [3, 3] ds).all (· ≤ reachBytes) = true := hsz
  obtain ⟨v0, vs0, d0, ds0, p0, q0, hargs, rfl, rfl, h0, r0⟩ := trodAll_cons hA
  obtain ⟨v1, vs1, d1, ds1, p1, q1, rfl, rfl, rfl, h1, r1⟩ := trodAll_cons r0
  obtain ⟨rfl, rfl, rfl⟩ := trodAll_nil r1
  obtain rfl : args = #[v0, v1] := by cases args; simp_all
  obtain ⟨a0, rfl, -, -, w0⟩ := open_int (P := Try.prog) (t := 3) (k := .i64) (by kernel_rfl) (hval 0 3 v0 rfl rfl) h0
  have w0 := wf_lo w0
  obtain ⟨a1, rfl, -, -, w1⟩ := open_int (P := Try.prog) (t := 3) (k := .i64) (by kernel_rfl) (hval 1 3 v1 rfl rfl) h1
  have w1 := wf_lo w1
  exact C.below fun h hs hw => gabionlaw24_LockMakes.law a0 w0 a1 w1 h 

theorem lockMakes_facts0 : (Rows.lockMakesRow.wf (OpenSpec.ofChange Rows.lockMakesSpec) && laidOutB Try.pinned.checked.prog) = true := by kernel_rfl
theorem lockMakes_facts1 : (mapsRowed Try.pinned.checked.prog && Try.f4.params.all (Try.pinned.checked.prog.readableRec ·) && namedTie Try.pinned.checked.prog Rows.lockMakesRow.named Rows.lockMakesSpec.vars && (Rows.lockMakesRow.stops == []) && (Try.pinned.checked.prog.stops == []) && (Rows.lockMakesRow.knobs == []) && (Try.pinned.checked.prog.stopKnobs == []) && (Rows.lockMakesRow.inPlace == Try.pinned.checked.prog.inPlace 4)) = true := by kernel_rfl
theorem lockMakes_facts2 : ((Rows.lockMakesRow.unfollowed == Try.pinned.checked.prog.unfollowed 4) && (Rows.lockMakesRow.recurses == Try.pinned.checked.prog.recurses 4)) = true := by kernel_rfl
theorem lockMakes_facts3 : ((Rows.lockMakesRow.named == Try.pinned.checked.prog.varsNamed 4) && (Rows.lockMakesRow.maps == (Try.f4.params.toList ++ Rows.lockMakesSpec.plain.varTypes Try.pinned.checked.prog).any (Try.pinned.checked.prog.mapsRec ·)) && (Rows.lockMakesRow.ifaces == (Try.f4.params.toList ++ Rows.lockMakesSpec.plain.varTypes Try.pinned.checked.prog).any (Try.pinned.checked.prog.ifacesRec ·)) && (Rows.lockMakesRow.mapsOut == Try.pinned.checked.prog.mapsAmong Try.f4.resultTypes.toList) && (Rows.lockMakesRow.loops == (Try.f4.params.toList ++ Rows.lockMakesSpec.plain.varTypes Try.pinned.checked.prog).any (Try.pinned.checked.prog.loopsFrom ·)) && (Rows.lockMakesRow.wideKeys == (Try.f4.params.toList ++ Rows.lockMakesSpec.plain.varTypes Try.pinned.checked.prog ++ Try.f4.resultTypes.toList).any (Try.pinned.checked.prog.wideKeysFrom ·))) = true := by kernel_rfl
theorem lockMakes_facts4 : (Rows.lockMakesSpec.vars.all (Try.pinned.checked.prog.varReadable ·) && Try.f4.resultTypes.all (fun t => Try.pinned.checked.prog.readableRec t && decide (t < Try.pinned.checked.prog.types.size)) && (Rows.lockMakesRow.ifacesOut == Try.f4.resultTypes.toList.any (Try.pinned.checked.prog.ifacesRec ·)) && (Rows.lockMakesRow.loopsOut == Try.f4.resultTypes.toList.any (Try.pinned.checked.prog.loopsFrom ·)) && (Rows.lockMakesRow.plainKeys == Try.pinned.checked.prog.plainKeys) && Rows.lockMakesRow.shortTexts.isNone) = true := by kernel_rfl
theorem lockMakes_facts5 : (Try.pinned.checked.prog.stopsHeard && Try.pinned.checked.prog.mayEnter && (Rows.lockMakesRow.lifted == Try.pinned.checked.prog.liftsFinal) && (Try.pinned.checked.prog.make == some Rows.lockMakesRow.make) && (Rows.lockMakesRow.kinds == (if Rows.lockMakesRow.domain.isEmpty then [] else Try.f4.params.toList.map fun t => match Try.pinned.checked.prog.underlying t with | some (.int k) => some k | _ => none)) && (Rows.lockMakesRow.pinned == Rows.lockMakesRow.pinnedBy) && (Rows.lockMakesRow.veiled == (Try.f4.params.toList ++ Rows.lockMakesSpec.plain.varTypes Try.pinned.checked.prog ++ Try.f4.resultTypes.toList).any (Try.pinned.checked.prog.veiledRec ·)) && Rows.lockMakesRow.veiledFits Try.pinned.checked.prog Try.f4.params.toList (Try.f4.params.toList ++ Rows.lockMakesSpec.plain.varTypes Try.pinned.checked.prog ++ Try.f4.resultTypes.toList)) = true := by kernel_rfl
set_option maxRecDepth 100000 in
theorem lockMakes_closed : joinedFacts Try.pinned.checked.prog 4 Try.f4 Rows.lockMakesSpec Rows.lockMakesRow = true := (band_t (band_t (band_t (band_t (band_t (band_t (band_t (band_t (band_t (band_t (band_t (band_t (band_t (band_t (band_t (band_t (band_t (band_t (band_t (band_t (band_t (band_t (band_t (band_t (band_t (band_t (band_t (band_t (band_t (band_t (band_t (band_l lockMakes_facts0) (band_r lockMakes_facts0)) (band_l (band_l (band_l (band_l (band_l (band_l (band_l lockMakes_facts1)))))))) (band_r (band_l (band_l (band_l (band_l (band_l (band_l lockMakes_facts1)))))))) (band_r (band_l (band_l (band_l (band_l (band_l lockMakes_facts1))))))) (band_r (band_l (band_l (band_l (band_l lockMakes_facts1)))))) (band_r (band_l (band_l (band_l lockMakes_facts1))))) (band_r (band_l (band_l lockMakes_facts1)))) (band_r (band_l lockMakes_facts1))) (band_r lockMakes_facts1)) (band_l lockMakes_facts2)) (band_r lockMakes_facts2)) (band_l (band_l (band_l (band_l (band_l lockMakes_facts3)))))) (band_r (band_l (band_l (band_l (band_l lockMakes_facts3)))))) (band_r (band_l (band_l (band_l lockMakes_facts3))))) (band_r (band_l (band_l lockMakes_facts3)))) (band_r (band_l lockMakes_facts3))) (band_r lockMakes_facts3)) (band_l (band_l (band_l (band_l (band_l lockMakes_facts4)))))) (band_r (band_l (band_l (band_l (band_l lockMakes_facts4)))))) (band_r (band_l (band_l (band_l lockMakes_facts4))))) (band_r (band_l (band_l lockMakes_facts4)))) (band_r (band_l lockMakes_facts4))) (band_r lockMakes_facts4)) (band_l (band_l (band_l (band_l (band_l (band_l (band_l lockMakes_facts5)))))))) (band_r (band_l (band_l (band_l (band_l (band_l (band_l lockMakes_facts5)))))))) (band_r (band_l (band_l (band_l (band_l (band_l lockMakes_facts5))))))) (band_r (band_l (band_l (band_l (band_l lockMakes_facts5)))))) (band_r (band_l (band_l (band_l lockMakes_facts5))))) (band_r (band_l (band_l lockMakes_facts5)))) (band_r (band_l lockMakes_facts5))) (band_r lockMakes_facts5))

theorem lockMakes_over : Rows.lockMakesRow.holds Try.pinned (OpenSpec.ofChange Rows.lockMakesSpec) :=
  OpenClaim.holds_of_wide 4 Try.f4 rfl rfl rfl rfl rfl rfl rfl ⟨rfl, rfl, rfl, rfl, rfl⟩ rfl rfl rfl rfl rfl (by kernel_rfl) Try.func4 lockMakes_closed
    (of_decide_eq_true (by kernel_rfl)) (by unfold Func.isWrapper; first | (rw [if_pos (by decide +kernel)]; kernel_rfl) | (rw [if_neg (by decide +kernel)]; exact ⟨rfl, rfl⟩))
    (fun os started H enc _ => lockMakes_lifted os started H enc)
end Go.Gb
namespace Go.Proofs.Ytcccjpahikgibaa
theorem lockMakes_holds : Rows.LockMakesSaid := Go.Gb.lockMakes_over
end Go.Proofs.Ytcccjpahikgibaa
#print axioms Go.Proofs.Ytcccjpahikgibaa.lockMakes_holds
