/- Own text for the seat: RHotMakes. -/
import Derived.Test.YtjdleeamgmkbkaaGreatRows
import Derived.Test.YtjdleeamgmkbkaaGreatA10
import Derived.Test.YtjdleeamgmkbkaaGreatA11
import Derived.Test.YtjdleeamgmkbkaaGreatB7
set_option linter.unusedVariables false
set_option linter.unusedSimpArgs false
set_option linter.unnecessarySimpa false
set_option linter.deprecated false
namespace Go.Gb
open Go.Proofs Go.Proofs.YtjdleeamgmkbkaaGreat
open Go.ChangeShapes Go.WideShapes Go.ChangeAt Go.RowKit
open Go.ChangeMaps (open_string shut_string)

theorem band_t {a b : Bool} (ha : a = true) (hb : b = true) : (a && b) = true := by rw [ha, hb]; rfl
theorem band_l {a b : Bool} (h : (a && b) = true) : a = true := by cases a with | true => rfl | false => exact h
theorem band_r {a b : Bool} (h : (a && b) = true) : b = true := by cases a with | true => exact h | false => cases h

set_option maxRecDepth 100000 in
theorem hotMakes_lifted (os : Os) (started : os.Started) (H : Type) (enc : TypeId × Value → H) :
    ReturnsInHanded {} Tryz.checked os 10 .any (Rows.hotMakesSpec.pre6 enc Tryz.prog Tryz.f10 Rows.hotMakesRow.domain false) (Rows.hotMakesSpec.post enc Tryz.prog Tryz.f10 false true false false) := by
  refine lift (C := Tryz.checked) (rt := 4) (by kernel_rfl) started (by kernel_rfl) Tryz.func10
    (ChangeSpec.witness6 (enc := enc) (C := Tryz.checked) false ⟨#[], #[.agg #[.int .i64 0, .int .i64 0, .int .i64 0, .int .i64 0, .int .i64 0, .int .u64 0], .int .i64 0, .int .i64 0], []⟩ 8 (by kernel_rfl) (by kernel_rfl) (by kernel_rfl) (by kernel_rfl))
    (by kernel_rfl) (by kernel_rfl) rfl (by kernel_rfl) (by kernel_rfl) (fun ds hd => by match ds, hd with | [d0, d1, d2], _ => rfl) ?_
  intro W base args ds ps hval hA hsz hfz
  have hval : ∀ (j : Nat) t v, (#[103, 3, 3] : Array Nat)[j]? = some t → args[j]? = some v → Value.okWide Tryz.prog W .any base t v := hval
  replace hA : DataW.TrodAll enc Tryz.prog W 0 (fun _ => true) true [103, 3, 3] args.toList ds ps := hA
  replace hsz : (DataW.weightsEach Tryz.prog [103, 3, 3] ds).all (· ≤ reachBytes) = true := hsz
  obtain ⟨v0, vs0, d0, ds0, p0, q0, hargs, rfl, rfl, h0, r0⟩ := trodAll_cons hA
  obtain ⟨v1, vs1, d1, ds1, p1, q1, rfl, rfl, rfl, h1, r1⟩ := trodAll_cons r0
  obtain ⟨v2, vs2, d2, ds2, p2, q2, rfl, rfl, rfl, h2, r2⟩ := trodAll_cons r1
  obtain ⟨rfl, rfl, rfl⟩ := trodAll_nil r2
  obtain rfl : args = #[v0, v1, v2] := by cases args; simp_all
  obtain ⟨c0, rfl⟩ := open_aggv (P := Tryz.prog) (t := 103) (by kernel_rfl) (hval 0 103 v0 rfl rfl)
  obtain ⟨a1, rfl, -, -, w1⟩ := open_int (P := Tryz.prog) (t := 3) (k := .i64) (by kernel_rfl) (hval 1 3 v1 rfl rfl) h1
  have w1 := wf_lo w1
  obtain ⟨a2, rfl, -, -, w2⟩ := open_int (P := Tryz.prog) (t := 3) (k := .i64) (by kernel_rfl) (hval 2 3 v2 rfl rfl) h2
  have w2 := wf_lo w2
  exact C.below fun h hs hw => K10.law c0 a1 w1 a2 w2 h (okc_agg (d := 8) hw h0)

theorem hotMakes_facts0 : (Rows.hotMakesRow.wf (OpenSpec.ofChange Rows.hotMakesSpec) && laidOutB Tryz.pinned.checked.prog) = true := by kernel_rfl
theorem hotMakes_facts1 : (mapsRowed Tryz.pinned.checked.prog && Tryz.f10.params.all (Tryz.pinned.checked.prog.readableRec ·) && namedTie Tryz.pinned.checked.prog Rows.hotMakesRow.named Rows.hotMakesSpec.vars && (Rows.hotMakesRow.stops == []) && (Tryz.pinned.checked.prog.stops == []) && (Rows.hotMakesRow.knobs == []) && (Tryz.pinned.checked.prog.stopKnobs == []) && (Rows.hotMakesRow.inPlace == Tryz.pinned.checked.prog.inPlace 10)) = true := by kernel_rfl
theorem hotMakes_facts2 : ((Rows.hotMakesRow.unfollowed == Tryz.pinned.checked.prog.unfollowed 10) && (Rows.hotMakesRow.recurses == Tryz.pinned.checked.prog.recurses 10)) = true := by kernel_rfl
theorem hotMakes_facts3 : ((Rows.hotMakesRow.named == Tryz.pinned.checked.prog.varsNamed 10) && (Rows.hotMakesRow.maps == (Tryz.f10.params.toList ++ Rows.hotMakesSpec.plain.varTypes Tryz.pinned.checked.prog).any (Tryz.pinned.checked.prog.mapsRec ·)) && (Rows.hotMakesRow.ifaces == (Tryz.f10.params.toList ++ Rows.hotMakesSpec.plain.varTypes Tryz.pinned.checked.prog).any (Tryz.pinned.checked.prog.ifacesRec ·)) && (Rows.hotMakesRow.mapsOut == Tryz.pinned.checked.prog.mapsAmong Tryz.f10.resultTypes.toList) && (Rows.hotMakesRow.loops == (Tryz.f10.params.toList ++ Rows.hotMakesSpec.plain.varTypes Tryz.pinned.checked.prog).any (Tryz.pinned.checked.prog.loopsFrom ·)) && (Rows.hotMakesRow.wideKeys == (Tryz.f10.params.toList ++ Rows.hotMakesSpec.plain.varTypes Tryz.pinned.checked.prog ++ Tryz.f10.resultTypes.toList).any (Tryz.pinned.checked.prog.wideKeysFrom ·))) = true := by kernel_rfl
theorem hotMakes_facts4 : (Rows.hotMakesSpec.vars.all (Tryz.pinned.checked.prog.varReadable ·) && Tryz.f10.resultTypes.all (fun t => Tryz.pinned.checked.prog.readableRec t && decide (t < Tryz.pinned.checked.prog.types.size)) && (Rows.hotMakesRow.ifacesOut == Tryz.f10.resultTypes.toList.any (Tryz.pinned.checked.prog.ifacesRec ·)) && (Rows.hotMakesRow.loopsOut == Tryz.f10.resultTypes.toList.any (Tryz.pinned.checked.prog.loopsFrom ·)) && (Rows.hotMakesRow.plainKeys == Tryz.pinned.checked.prog.plainKeys) && Rows.hotMakesRow.shortTexts.isNone) = true := by kernel_rfl
theorem hotMakes_facts5 : (Tryz.pinned.checked.prog.stopsHeard && Tryz.pinned.checked.prog.mayEnter && (Rows.hotMakesRow.lifted == Tryz.pinned.checked.prog.liftsFinal) && (Tryz.pinned.checked.prog.make == some Rows.hotMakesRow.make) && (Rows.hotMakesRow.kinds == (if Rows.hotMakesRow.domain.isEmpty then [] else Tryz.f10.params.toList.map fun t => match Tryz.pinned.checked.prog.underlying t with | some (.int k) => some k | _ => none)) && (Rows.hotMakesRow.pinned == Rows.hotMakesRow.pinnedBy) && (Rows.hotMakesRow.veiled == (Tryz.f10.params.toList ++ Rows.hotMakesSpec.plain.varTypes Tryz.pinned.checked.prog ++ Tryz.f10.resultTypes.toList).any (Tryz.pinned.checked.prog.veiledRec ·)) && Rows.hotMakesRow.veiledFits Tryz.pinned.checked.prog Tryz.f10.params.toList (Tryz.f10.params.toList ++ Rows.hotMakesSpec.plain.varTypes Tryz.pinned.checked.prog ++ Tryz.f10.resultTypes.toList)) = true := by kernel_rfl
set_option maxRecDepth 100000 in
theorem hotMakes_closed : joinedFacts Tryz.pinned.checked.prog 10 Tryz.f10 Rows.hotMakesSpec Rows.hotMakesRow = true := (band_t (band_t (band_t (band_t (band_t (band_t (band_t (band_t (band_t (band_t (band_t (band_t (band_t (band_t (band_t (band_t (band_t (band_t (band_t (band_t (band_t (band_t (band_t (band_t (band_t (band_t (band_t (band_t (band_t (band_t (band_t (band_l hotMakes_facts0) (band_r hotMakes_facts0)) (band_l (band_l (band_l (band_l (band_l (band_l (band_l hotMakes_facts1)))))))) (band_r (band_l (band_l (band_l (band_l (band_l (band_l hotMakes_facts1)))))))) (band_r (band_l (band_l (band_l (band_l (band_l hotMakes_facts1))))))) (band_r (band_l (band_l (band_l (band_l hotMakes_facts1)))))) (band_r (band_l (band_l (band_l hotMakes_facts1))))) (band_r (band_l (band_l hotMakes_facts1)))) (band_r (band_l hotMakes_facts1))) (band_r hotMakes_facts1)) (band_l hotMakes_facts2)) (band_r hotMakes_facts2)) (band_l (band_l (band_l (band_l (band_l hotMakes_facts3)))))) (band_r (band_l (band_l (band_l (band_l hotMakes_facts3)))))) (band_r (band_l (band_l (band_l hotMakes_facts3))))) (band_r (band_l (band_l hotMakes_facts3)))) (band_r (band_l hotMakes_facts3))) (band_r hotMakes_facts3)) (band_l (band_l (band_l (band_l (band_l hotMakes_facts4)))))) (band_r (band_l (band_l (band_l (band_l hotMakes_facts4)))))) (band_r (band_l (band_l (band_l hotMakes_facts4))))) (band_r (band_l (band_l hotMakes_facts4)))) (band_r (band_l hotMakes_facts4))) (band_r hotMakes_facts4)) (band_l (band_l (band_l (band_l (band_l (band_l (band_l hotMakes_facts5)))))))) (band_r (band_l (band_l (band_l (band_l (band_l (band_l hotMakes_facts5)))))))) (band_r (band_l (band_l (band_l (band_l (band_l hotMakes_facts5))))))) (band_r (band_l (band_l (band_l (band_l hotMakes_facts5)))))) (band_r (band_l (band_l (band_l hotMakes_facts5))))) (band_r (band_l (band_l hotMakes_facts5)))) (band_r (band_l hotMakes_facts5))) (band_r hotMakes_facts5))

theorem hotMakes_over : Rows.hotMakesRow.holds Tryz.pinned (OpenSpec.ofChange Rows.hotMakesSpec) :=
  OpenClaim.holds_of_wide 10 Tryz.f10 rfl rfl rfl rfl rfl rfl rfl ⟨rfl, rfl, rfl, rfl, rfl⟩ rfl rfl rfl rfl rfl (by kernel_rfl) Tryz.func10 hotMakes_closed
    (of_decide_eq_true (by kernel_rfl)) (by unfold Func.isWrapper; first | (rw [if_pos (by decide +kernel)]; kernel_rfl) | (rw [if_neg (by decide +kernel)]; exact ⟨rfl, rfl⟩))
    (fun os started H enc _ => hotMakes_lifted os started H enc)
end Go.Gb
namespace Go.Proofs.YtjdleeamgmkbkaaGreat
theorem hotMakes_holds : Rows.HotMakesSaid := Go.Gb.hotMakes_over
end Go.Proofs.YtjdleeamgmkbkaaGreat
#print axioms Go.Proofs.YtjdleeamgmkbkaaGreat.hotMakes_holds
