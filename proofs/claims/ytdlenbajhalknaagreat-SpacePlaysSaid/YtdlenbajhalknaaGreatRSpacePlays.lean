/- Own text for the seat: RSpacePlays. -/
import Derived.Test.YtdlenbajhalknaaGreatRows
import Derived.Test.YtdlenbajhalknaaGreatA10
import Derived.Test.YtdlenbajhalknaaGreatA11
import Derived.Test.YtdlenbajhalknaaGreatB7
set_option linter.unusedVariables false
set_option linter.unusedSimpArgs false
set_option linter.unnecessarySimpa false
set_option linter.deprecated false
namespace Go.Gb
open Go.Proofs Go.Proofs.YtdlenbajhalknaaGreat
open Go.ChangeShapes Go.WideShapes Go.ChangeAt Go.RowKit
open Go.ChangeMaps (open_string shut_string)

theorem band_t {a b : Bool} (ha : a = true) (hb : b = true) : (a && b) = true := by rw [ha, hb]; rfl
theorem band_l {a b : Bool} (h : (a && b) = true) : a = true := by cases a with | true => rfl | false => exact h
theorem band_r {a b : Bool} (h : (a && b) = true) : b = true := by cases a with | true => exact h | false => cases h

set_option maxRecDepth 100000 in
theorem spacePlays_lifted (os : Os) (started : os.Started) (H : Type) (enc : TypeId × Value → H) :
    ReturnsInHanded {} Tryz.checked os 6 .any (Rows.spacePlaysSpec.pre6 enc Tryz.prog Tryz.f6 Rows.spacePlaysRow.domain false) (Rows.spacePlaysSpec.post enc Tryz.prog Tryz.f6 false true false false) := by
  refine lift (C := Tryz.checked) (rt := 4) (by kernel_rfl) started (by kernel_rfl) Tryz.func6
    (ChangeSpec.witness6 (enc := enc) (C := Tryz.checked) false ⟨#[], #[.int .u64 0, .slice none 0 0], []⟩ 8 (by kernel_rfl) (by kernel_rfl) (by kernel_rfl) (by kernel_rfl))
    (by kernel_rfl) (by kernel_rfl) rfl (by kernel_rfl) (by kernel_rfl) (fun ds hd => by match ds, hd with | [d0, d1], _ => rfl) ?_
  intro W base args ds ps hval hA hsz hfz
  have hval : ∀ (j : Nat) t v, (#[28, 53] : Array Nat)[j]? = some t → args[j]? = some v → Value.okWide Tryz.prog W .any base t v := hval
  replace hA : DataW.TrodAll enc Tryz.prog W 0 (fun _ => true) true [28, 53] args.toList ds ps := hA
  replace hsz : (DataW.weightsEach Tryz.prog [28, 53] ds).all (· ≤ reachBytes) = true := hsz
  obtain ⟨v0, vs0, d0, ds0, p0, q0, hargs, rfl, rfl, h0, r0⟩ := trodAll_cons hA
  obtain ⟨v1, vs1, d1, ds1, p1, q1, rfl, rfl, rfl, h1, r1⟩ := trodAll_cons r0
  obtain ⟨rfl, rfl, rfl⟩ := trodAll_nil r1
  obtain rfl : args = #[v0, v1] := by cases args; simp_all
  obtain ⟨a0, rfl, -, -, w0⟩ := open_int (P := Tryz.prog) (t := 28) (k := .u64) (by kernel_rfl) (hval 0 28 v0 rfl rfl) h0
  have w0 := wf_lo w0
  exact C.below fun h hs hw => K6.law a0 w0 v1 h (open_cell (d := 8) hw (by kernel_rfl) (hval 1 53 v1 rfl rfl) h1)

theorem spacePlays_facts0 : (Rows.spacePlaysRow.wf (OpenSpec.ofChange Rows.spacePlaysSpec) && laidOutB Tryz.pinned.checked.prog) = true := by kernel_rfl
theorem spacePlays_facts1 : (mapsRowed Tryz.pinned.checked.prog && Tryz.f6.params.all (Tryz.pinned.checked.prog.readableRec ·) && namedTie Tryz.pinned.checked.prog Rows.spacePlaysRow.named Rows.spacePlaysSpec.vars && (Rows.spacePlaysRow.stops == []) && (Tryz.pinned.checked.prog.stops == []) && (Rows.spacePlaysRow.knobs == []) && (Tryz.pinned.checked.prog.stopKnobs == []) && (Rows.spacePlaysRow.inPlace == Tryz.pinned.checked.prog.inPlace 6)) = true := by kernel_rfl
theorem spacePlays_facts2 : ((Rows.spacePlaysRow.unfollowed == Tryz.pinned.checked.prog.unfollowed 6) && (Rows.spacePlaysRow.recurses == Tryz.pinned.checked.prog.recurses 6)) = true := by kernel_rfl
theorem spacePlays_facts3 : ((Rows.spacePlaysRow.named == Tryz.pinned.checked.prog.varsNamed 6) && (Rows.spacePlaysRow.maps == (Tryz.f6.params.toList ++ Rows.spacePlaysSpec.plain.varTypes Tryz.pinned.checked.prog).any (Tryz.pinned.checked.prog.mapsRec ·)) && (Rows.spacePlaysRow.ifaces == (Tryz.f6.params.toList ++ Rows.spacePlaysSpec.plain.varTypes Tryz.pinned.checked.prog).any (Tryz.pinned.checked.prog.ifacesRec ·)) && (Rows.spacePlaysRow.mapsOut == Tryz.pinned.checked.prog.mapsAmong Tryz.f6.resultTypes.toList) && (Rows.spacePlaysRow.loops == (Tryz.f6.params.toList ++ Rows.spacePlaysSpec.plain.varTypes Tryz.pinned.checked.prog).any (Tryz.pinned.checked.prog.loopsFrom ·)) && (Rows.spacePlaysRow.wideKeys == (Tryz.f6.params.toList ++ Rows.spacePlaysSpec.plain.varTypes Tryz.pinned.checked.prog ++ Tryz.f6.resultTypes.toList).any (Tryz.pinned.checked.prog.wideKeysFrom ·))) = true := by kernel_rfl
theorem spacePlays_facts4 : (Rows.spacePlaysSpec.vars.all (Tryz.pinned.checked.prog.varReadable ·) && Tryz.f6.resultTypes.all (fun t => Tryz.pinned.checked.prog.readableRec t && decide (t < Tryz.pinned.checked.prog.types.size)) && (Rows.spacePlaysRow.ifacesOut == Tryz.f6.resultTypes.toList.any (Tryz.pinned.checked.prog.ifacesRec ·)) && (Rows.spacePlaysRow.loopsOut == Tryz.f6.resultTypes.toList.any (Tryz.pinned.checked.prog.loopsFrom ·)) && (Rows.spacePlaysRow.plainKeys == Tryz.pinned.checked.prog.plainKeys) && Rows.spacePlaysRow.shortTexts.isNone) = true := by kernel_rfl
theorem spacePlays_facts5 : (Tryz.pinned.checked.prog.stopsHeard && Tryz.pinned.checked.prog.mayEnter && (Rows.spacePlaysRow.lifted == Tryz.pinned.checked.prog.liftsFinal) && (Tryz.pinned.checked.prog.make == some Rows.spacePlaysRow.make) && (Rows.spacePlaysRow.kinds == (if Rows.spacePlaysRow.domain.isEmpty then [] else Tryz.f6.params.toList.map fun t => match Tryz.pinned.checked.prog.underlying t with | some (.int k) => some k | _ => none)) && (Rows.spacePlaysRow.pinned == Rows.spacePlaysRow.pinnedBy) && (Rows.spacePlaysRow.veiled == (Tryz.f6.params.toList ++ Rows.spacePlaysSpec.plain.varTypes Tryz.pinned.checked.prog ++ Tryz.f6.resultTypes.toList).any (Tryz.pinned.checked.prog.veiledRec ·)) && Rows.spacePlaysRow.veiledFits Tryz.pinned.checked.prog Tryz.f6.params.toList (Tryz.f6.params.toList ++ Rows.spacePlaysSpec.plain.varTypes Tryz.pinned.checked.prog ++ Tryz.f6.resultTypes.toList)) = true := by kernel_rfl
set_option maxRecDepth 100000 in
theorem spacePlays_closed : joinedFacts Tryz.pinned.checked.prog 6 Tryz.f6 Rows.spacePlaysSpec Rows.spacePlaysRow = true := (band_t (band_t (band_t (band_t (band_t (band_t (band_t (band_t (band_t (band_t (band_t (band_t (band_t (band_t (band_t (band_t (band_t (band_t (band_t (band_t (band_t (band_t (band_t (band_t (band_t (band_t (band_t (band_t (band_t (band_t (band_t (band_l spacePlays_facts0) (band_r spacePlays_facts0)) (band_l (band_l (band_l (band_l (band_l (band_l (band_l spacePlays_facts1)))))))) (band_r (band_l (band_l (band_l (band_l (band_l (band_l spacePlays_facts1)))))))) (band_r (band_l (band_l (band_l (band_l (band_l spacePlays_facts1))))))) (band_r (band_l (band_l (band_l (band_l spacePlays_facts1)))))) (band_r (band_l (band_l (band_l spacePlays_facts1))))) (band_r (band_l (band_l spacePlays_facts1)))) (band_r (band_l spacePlays_facts1))) (band_r spacePlays_facts1)) (band_l spacePlays_facts2)) (band_r spacePlays_facts2)) (band_l (band_l (band_l (band_l (band_l spacePlays_facts3)))))) (band_r (band_l (band_l (band_l (band_l spacePlays_facts3)))))) (band_r (band_l (band_l (band_l spacePlays_facts3))))) (band_r (band_l (band_l spacePlays_facts3)))) (band_r (band_l spacePlays_facts3))) (band_r spacePlays_facts3)) (band_l (band_l (band_l (band_l (band_l spacePlays_facts4)))))) (band_r (band_l (band_l (band_l (band_l spacePlays_facts4)))))) (band_r (band_l (band_l (band_l spacePlays_facts4))))) (band_r (band_l (band_l spacePlays_facts4)))) (band_r (band_l spacePlays_facts4))) (band_r spacePlays_facts4)) (band_l (band_l (band_l (band_l (band_l (band_l (band_l spacePlays_facts5)))))))) (band_r (band_l (band_l (band_l (band_l (band_l (band_l spacePlays_facts5)))))))) (band_r (band_l (band_l (band_l (band_l (band_l spacePlays_facts5))))))) (band_r (band_l (band_l (band_l (band_l spacePlays_facts5)))))) (band_r (band_l (band_l (band_l spacePlays_facts5))))) (band_r (band_l (band_l spacePlays_facts5)))) (band_r (band_l spacePlays_facts5))) (band_r spacePlays_facts5))

theorem spacePlays_over : Rows.spacePlaysRow.holds Tryz.pinned (OpenSpec.ofChange Rows.spacePlaysSpec) :=
  OpenClaim.holds_of_wide 6 Tryz.f6 rfl rfl rfl rfl rfl rfl rfl ⟨rfl, rfl, rfl, rfl, rfl⟩ rfl rfl rfl rfl rfl (by kernel_rfl) Tryz.func6 spacePlays_closed
    (of_decide_eq_true (by kernel_rfl)) (by unfold Func.isWrapper; first | (rw [if_pos (by decide +kernel)]; kernel_rfl) | (rw [if_neg (by decide +kernel)]; exact ⟨rfl, rfl⟩))
    (fun os started H enc _ => spacePlays_lifted os started H enc)
end Go.Gb
namespace Go.Proofs.YtdlenbajhalknaaGreat
theorem spacePlays_holds : Rows.SpacePlaysSaid := Go.Gb.spacePlays_over
end Go.Proofs.YtdlenbajhalknaaGreat
#print axioms Go.Proofs.YtdlenbajhalknaaGreat.spacePlays_holds
