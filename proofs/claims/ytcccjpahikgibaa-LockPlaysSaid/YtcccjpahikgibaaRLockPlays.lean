/- Own text for the seat: RLockPlays. -/
import Derived.Test.YtcccjpahikgibaaRows
import Derived.Test.YtcccjpahikgibaaA11
import Derived.Test.YtcccjpahikgibaaA12
import Derived.Test.YtcccjpahikgibaaB2
set_option linter.unusedVariables false
set_option linter.unusedSimpArgs false
set_option linter.unnecessarySimpa false
set_option linter.deprecated false
namespace Go.Gb
open Go.Proofs Go.Proofs.Ytcccjpahikgibaa
open Go.ChangeShapes Go.WideShapes Go.ChangeAt Go.RowKit
open Go.ChangeMaps (open_string shut_string)

theorem band_t {a b : Bool} (ha : a = true) (hb : b = true) : (a && b) = true := by rw [ha, hb]; rfl
theorem band_l {a b : Bool} (h : (a && b) = true) : a = true := by cases a with | true => rfl | false => exact h
theorem band_r {a b : Bool} (h : (a && b) = true) : b = true := by cases a with | true => exact h | false => cases h

set_option maxRecDepth 100000 in
theorem lockPlays_lifted (os : Os) (started : os.Started) (H : Type) (enc : TypeId × Value → H) :
    ReturnsInHanded {} Try.checked os 3 .any (Rows.lockPlaysSpec.pre6 enc Try.prog Try.f3 Rows.lockPlaysRow.domain false) (Rows.lockPlaysSpec.post enc Try.prog Try.f3 false true false false) := by
  refine lift (C := Try.checked) (rt := 4) (by kernel_rfl) started (by kernel_rfl) Try.func3
    (ChangeSpec.witness6 (enc := enc) (C := Try.checked) false ⟨#[], #[.int .i64 0, .slice none 0 0], []⟩ 8 (by kernel_rfl) (by kernel_rfl) (by kernel_rfl) (by kernel_rfl))
    (by kernel_rfl) (by kernel_rfl) rfl (by kernel_rfl) (by kernel_rfl) (fun ds hd => by match ds, hd with | [d0, d1], _ => rfl) ?_
  intro W base args ds ps hval hA hsz hfz
  have hval : ∀ (j : Nat) t v, (#[3, 22] : Array Nat)[j]? = some t → args[j]? = some v → Value.okWide Try.prog W .any base t v := hval
  replace hA : DataW.TrodAll enc Try.prog W 0 (fun _ => true) true [3, 22] args.toList ds ps := hA
  replace hsz : (DataW.weightsEach Try.prog [3, 22] ds).all (· ≤ reachBytes) = true := hsz
  obtain ⟨v0, vs0, d0, ds0, p0, q0, hargs, rfl, rfl, h0, r0⟩ := trodAll_cons hA
  obtain ⟨v1, vs1, d1, ds1, p1, q1, rfl, rfl, rfl, h1, r1⟩ := trodAll_cons r0
  obtain ⟨rfl, rfl, rfl⟩ := trodAll_nil r1
  obtain rfl : args = #[v0, v1] := by cases args; simp_all
  obtain ⟨a0, rfl, -, -, w0⟩ := open_int (P := Try.prog) (t := 3) (k := .i64) (by kernel_rfl) (hval 0 3 v0 rfl rfl) h0
  have w0 := wf_lo w0
  exact C.below fun h hs hw => gabionlaw24_LockPlays.law a0 w0 v1 h (open_cell (d := 8) hw (by kernel_rfl) (hval 1 22 v1 rfl rfl) h1)

theorem lockPlays_facts0 : (Rows.lockPlaysRow.wf (OpenSpec.ofChange Rows.lockPlaysSpec) && laidOutB Try.pinned.checked.prog) = true := by kernel_rfl
theorem lockPlays_facts1 : (mapsRowed Try.pinned.checked.prog && Try.f3.params.all (Try.pinned.checked.prog.readableRec ·) && namedTie Try.pinned.checked.prog Rows.lockPlaysRow.named Rows.lockPlaysSpec.vars && (Rows.lockPlaysRow.stops == []) && (Try.pinned.checked.prog.stops == []) && (Rows.lockPlaysRow.knobs == []) && (Try.pinned.checked.prog.stopKnobs == []) && (Rows.lockPlaysRow.inPlace == Try.pinned.checked.prog.inPlace 3)) = true := by kernel_rfl
theorem lockPlays_facts2 : ((Rows.lockPlaysRow.unfollowed == Try.pinned.checked.prog.unfollowed 3) && (Rows.lockPlaysRow.recurses == Try.pinned.checked.prog.recurses 3)) = true := by kernel_rfl
theorem lockPlays_facts3 : ((Rows.lockPlaysRow.named == Try.pinned.checked.prog.varsNamed 3) && (Rows.lockPlaysRow.maps == (Try.f3.params.toList ++ Rows.lockPlaysSpec.plain.varTypes Try.pinned.checked.prog).any (Try.pinned.checked.prog.mapsRec ·)) && (Rows.lockPlaysRow.ifaces == (Try.f3.params.toList ++ Rows.lockPlaysSpec.plain.varTypes Try.pinned.checked.prog).any (Try.pinned.checked.prog.ifacesRec ·)) && (Rows.lockPlaysRow.mapsOut == Try.pinned.checked.prog.mapsAmong Try.f3.resultTypes.toList) && (Rows.lockPlaysRow.loops == (Try.f3.params.toList ++ Rows.lockPlaysSpec.plain.varTypes Try.pinned.checked.prog).any (Try.pinned.checked.prog.loopsFrom ·)) && (Rows.lockPlaysRow.wideKeys == (Try.f3.params.toList ++ Rows.lockPlaysSpec.plain.varTypes Try.pinned.checked.prog ++ Try.f3.resultTypes.toList).any (Try.pinned.checked.prog.wideKeysFrom ·))) = true := by kernel_rfl
theorem lockPlays_facts4 : (Rows.lockPlaysSpec.vars.all (Try.pinned.checked.prog.varReadable ·) && Try.f3.resultTypes.all (fun t => Try.pinned.checked.prog.readableRec t && decide (t < Try.pinned.checked.prog.types.size)) && (Rows.lockPlaysRow.ifacesOut == Try.f3.resultTypes.toList.any (Try.pinned.checked.prog.ifacesRec ·)) && (Rows.lockPlaysRow.loopsOut == Try.f3.resultTypes.toList.any (Try.pinned.checked.prog.loopsFrom ·)) && (Rows.lockPlaysRow.plainKeys == Try.pinned.checked.prog.plainKeys) && Rows.lockPlaysRow.shortTexts.isNone) = true := by kernel_rfl
theorem lockPlays_facts5 : (Try.pinned.checked.prog.stopsHeard && Try.pinned.checked.prog.mayEnter && (Rows.lockPlaysRow.lifted == Try.pinned.checked.prog.liftsFinal) && (Try.pinned.checked.prog.make == some Rows.lockPlaysRow.make) && (Rows.lockPlaysRow.kinds == (if Rows.lockPlaysRow.domain.isEmpty then [] else Try.f3.params.toList.map fun t => match Try.pinned.checked.prog.underlying t with | some (.int k) => some k | _ => none)) && (Rows.lockPlaysRow.pinned == Rows.lockPlaysRow.pinnedBy) && (Rows.lockPlaysRow.veiled == (Try.f3.params.toList ++ Rows.lockPlaysSpec.plain.varTypes Try.pinned.checked.prog ++ Try.f3.resultTypes.toList).any (Try.pinned.checked.prog.veiledRec ·)) && Rows.lockPlaysRow.veiledFits Try.pinned.checked.prog Try.f3.params.toList (Try.f3.params.toList ++ Rows.lockPlaysSpec.plain.varTypes Try.pinned.checked.prog ++ Try.f3.resultTypes.toList)) = true := by kernel_rfl
set_option maxRecDepth 100000 in
theorem lockPlays_closed : joinedFacts Try.pinned.checked.prog 3 Try.f3 Rows.lockPlaysSpec Rows.lockPlaysRow = true := (band_t (band_t (band_t (band_t (band_t (band_t (band_t (band_t (band_t (band_t (band_t (band_t (band_t (band_t (band_t (band_t (band_t (band_t (band_t (band_t (band_t (band_t (band_t (band_t (band_t (band_t (band_t (band_t (band_t (band_t (band_t (band_l lockPlays_facts0) (band_r lockPlays_facts0)) (band_l (band_l (band_l (band_l (band_l (band_l (band_l lockPlays_facts1)))))))) (band_r (band_l (band_l (band_l (band_l (band_l (band_l lockPlays_facts1)))))))) (band_r (band_l (band_l (band_l (band_l (band_l lockPlays_facts1))))))) (band_r (band_l (band_l (band_l (band_l lockPlays_facts1)))))) (band_r (band_l (band_l (band_l lockPlays_facts1))))) (band_r (band_l (band_l lockPlays_facts1)))) (band_r (band_l lockPlays_facts1))) (band_r lockPlays_facts1)) (band_l lockPlays_facts2)) (band_r lockPlays_facts2)) (band_l (band_l (band_l (band_l (band_l lockPlays_facts3)))))) (band_r (band_l (band_l (band_l (band_l lockPlays_facts3)))))) (band_r (band_l (band_l (band_l lockPlays_facts3))))) (band_r (band_l (band_l lockPlays_facts3)))) (band_r (band_l lockPlays_facts3))) (band_r lockPlays_facts3)) (band_l (band_l (band_l (band_l (band_l lockPlays_facts4)))))) (band_r (band_l (band_l (band_l (band_l lockPlays_facts4)))))) (band_r (band_l (band_l (band_l lockPlays_facts4))))) (band_r (band_l (band_l lockPlays_facts4)))) (band_r (band_l lockPlays_facts4))) (band_r lockPlays_facts4)) (band_l (band_l (band_l (band_l (band_l (band_l (band_l lockPlays_facts5)))))))) (band_r (band_l (band_l (band_l (band_l (band_l (band_l lockPlays_facts5)))))))) (band_r (band_l (band_l (band_l (band_l (band_l lockPlays_facts5))))))) (band_r (band_l (band_l (band_l (band_l lockPlays_facts5)))))) (band_r (band_l (band_l (band_l lockPlays_facts5))))) (band_r (band_l (band_l lockPlays_facts5)))) (band_r (band_l lockPlays_facts5))) (band_r lockPlays_facts5))

theorem lockPlays_over : Rows.lockPlaysRow.holds Try.pinned (OpenSpec.ofChange Rows.lockPlaysSpec) :=
  OpenClaim.holds_of_wide 3 Try.f3 rfl rfl rfl rfl rfl rfl rfl ⟨rfl, rfl, rfl, rfl, rfl⟩ rfl rfl rfl rfl rfl (by kernel_rfl) Try.func3 lockPlays_closed
    (of_decide_eq_true (by kernel_rfl)) (by unfold Func.isWrapper; first | (rw [if_pos (by decide +kernel)]; kernel_rfl) | (rw [if_neg (by decide +kernel)]; exact ⟨rfl, rfl⟩))
    (fun os started H enc _ => lockPlays_lifted os started H enc)
end Go.Gb
namespace Go.Proofs.Ytcccjpahikgibaa
theorem lockPlays_holds : Rows.LockPlaysSaid := Go.Gb.lockPlays_over
end Go.Proofs.Ytcccjpahikgibaa
#print axioms Go.Proofs.Ytcccjpahikgibaa.lockPlays_holds
