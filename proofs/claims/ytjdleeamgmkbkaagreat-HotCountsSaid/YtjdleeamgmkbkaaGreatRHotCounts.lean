/- Own text for the seat: RHotCounts. -/
import Derived.Test.YtjdleeamgmkbkaaGreatRows
import Derived.Test.YtjdleeamgmkbkaaGreatA10
import Derived.Test.YtjdleeamgmkbkaaGreatA11
import Derived.Test.YtjdleeamgmkbkaaGreatB7
set_option linter.unusedVariables false
set_option linter.unusedSimpArgs false
set_option linter.unnecessarySimpa false
set_option linter.deprecated false
namespace Go.Gb
open Go.Proofs Go.Proofs.YtjdleeamgmkbkaaGreat
open Go.ChangeShapes Go.WideShapes Go.ChangeAt Go.RowKit
open Go.ChangeMaps (open_string shut_string)

theorem band_t {a b : Bool} (ha : a = true) (hb : b = true) : (a && b) = true := by rw [ha, hb]; rfl
theorem band_l {a b : Bool} (h : (a && b) = true) : a = true := by cases a with | true => rfl | false => exact h
theorem band_r {a b : Bool} (h : (a && b) = true) : b = true := by cases a with | true => exact h | false => cases h

set_option maxRecDepth 100000 in
theorem hotCounts_lifted (os : Os) (started : os.Started) (H : Type) (enc : TypeId × Value → H) :
    ReturnsInHanded {} Tryz.checked os 8 .any (Rows.hotCountsSpec.pre6 enc Tryz.prog Tryz.f8 Rows.hotCountsRow.domain false) (Rows.hotCountsSpec.post enc Tryz.prog Tryz.f8 false true false false) := by
  refine lift (C := Tryz.checked) (rt := 4) (by kernel_rfl) started (by kernel_rfl) Tryz.func8
    (ChangeSpec.witness6 (enc := enc) (C := Tryz.checked) false ⟨#[], #[.int .u8 0, .int .u8 0, .int .u16 0], []⟩ 8 (by kernel_rfl) (by kernel_rfl) (by kernel_rfl) (by kernel_rfl))
    (by kernel_rfl) (by kernel_rfl) rfl (by kernel_rfl) (by kernel_rfl) (fun ds hd => by match ds, hd with | [d0, d1, d2], _ => rfl) ?_
  intro W base args ds ps hval hA hsz hfz
  have hval : ∀ (j : Nat) t v, (#[5, 5, 58] : Array Nat)[j]? = some t → args[j]? = some v → Value.okWide Tryz.prog W .any base t v := hval
  replace hA : DataW.TrodAll enc Tryz.prog W 0 (fun _ => true) true [5, 5, 58] args.toList ds ps := hA
  replace hsz : (DataW.weightsEach Tryz.prog [5, 5, 58] ds).all (· ≤ reachBytes) = true := hsz
  obtain ⟨v0, vs0, d0, ds0, p0, q0, hargs, rfl, rfl, h0, r0⟩ := trodAll_cons hA
  obtain ⟨v1, vs1, d1, ds1, p1, q1, rfl, rfl, rfl, h1, r1⟩ := trodAll_cons r0
  obtain ⟨v2, vs2, d2, ds2, p2, q2, rfl, rfl, rfl, h2, r2⟩ := trodAll_cons r1
  obtain ⟨rfl, rfl, rfl⟩ := trodAll_nil r2
  obtain rfl : args = #[v0, v1, v2] := by cases args; simp_all
  obtain ⟨a0, rfl, -, -, w0⟩ := open_int (P := Tryz.prog) (t := 5) (k := .u8) (by kernel_rfl) (hval 0 5 v0 rfl rfl) h0
  have w0 := wf_lo w0
  obtain ⟨a1, rfl, -, -, w1⟩ := open_int (P := Tryz.prog) (t := 5) (k := .u8) (by kernel_rfl) (hval 1 5 v1 rfl rfl) h1
  have w1 := wf_lo w1
  obtain ⟨a2, rfl, -, -, w2⟩ := open_int (P := Tryz.prog) (t := 58) (k := .u16) (by kernel_rfl) (hval 2 58 v2 rfl rfl) h2
  have w2 := wf_lo w2
  exact C.below fun h hs hw => K8.law a0 w0 a1 w1 a2 w2 h 

theorem hotCounts_facts0 : (Rows.hotCountsRow.wf (OpenSpec.ofChange Rows.hotCountsSpec) && laidOutB Tryz.pinned.checked.prog) = true := by kernel_rfl
theorem hotCounts_facts1 : (mapsRowed Tryz.pinned.checked.prog && Tryz.f8.params.all (Tryz.pinned.checked.prog.readableRec ·) && namedTie Tryz.pinned.checked.prog Rows.hotCountsRow.named Rows.hotCountsSpec.vars && (Rows.hotCountsRow.stops == []) && (Tryz.pinned.checked.prog.stops == []) && (Rows.hotCountsRow.knobs == []) && (Tryz.pinned.checked.prog.stopKnobs == []) && (Rows.hotCountsRow.inPlace == Tryz.pinned.checked.prog.inPlace 8)) = true := by kernel_rfl
theorem hotCounts_facts2 : ((Rows.hotCountsRow.unfollowed == Tryz.pinned.checked.prog.unfollowed 8) && (Rows.hotCountsRow.recurses == Tryz.pinned.checked.prog.recurses 8)) = true := by kernel_rfl
theorem hotCounts_facts3 : ((Rows.hotCountsRow.named == Tryz.pinned.checked.prog.varsNamed 8) && (Rows.hotCountsRow.maps == (Tryz.f8.params.toList ++ Rows.hotCountsSpec.plain.varTypes Tryz.pinned.checked.prog).any (Tryz.pinned.checked.prog.mapsRec ·)) && (Rows.hotCountsRow.ifaces == (Tryz.f8.params.toList ++ Rows.hotCountsSpec.plain.varTypes Tryz.pinned.checked.prog).any (Tryz.pinned.checked.prog.ifacesRec ·)) && (Rows.hotCountsRow.mapsOut == Tryz.pinned.checked.prog.mapsAmong Tryz.f8.resultTypes.toList) && (Rows.hotCountsRow.loops == (Tryz.f8.params.toList ++ Rows.hotCountsSpec.plain.varTypes Tryz.pinned.checked.prog).any (Tryz.pinned.checked.prog.loopsFrom ·)) && (Rows.hotCountsRow.wideKeys == (Tryz.f8.params.toList ++ Rows.hotCountsSpec.plain.varTypes Tryz.pinned.checked.prog ++ Tryz.f8.resultTypes.toList).any (Tryz.pinned.checked.prog.wideKeysFrom ·))) = true := by kernel_rfl
theorem hotCounts_facts4 : (Rows.hotCountsSpec.vars.all (Tryz.pinned.checked.prog.varReadable ·) && Tryz.f8.resultTypes.all (fun t => Tryz.pinned.checked.prog.readableRec t && decide (t < Tryz.pinned.checked.prog.types.size)) && (Rows.hotCountsRow.ifacesOut == Tryz.f8.resultTypes.toList.any (Tryz.pinned.checked.prog.ifacesRec ·)) && (Rows.hotCountsRow.loopsOut == Tryz.f8.resultTypes.toList.any (Tryz.pinned.checked.prog.loopsFrom ·)) && (Rows.hotCountsRow.plainKeys == Tryz.pinned.checked.prog.plainKeys) && Rows.hotCountsRow.shortTexts.isNone) = true := by kernel_rfl
theorem hotCounts_facts5 : (Tryz.pinned.checked.prog.stopsHeard && Tryz.pinned.checked.prog.mayEnter && (Rows.hotCountsRow.lifted == Tryz.pinned.checked.prog.liftsFinal) && (Tryz.pinned.checked.prog.make == some Rows.hotCountsRow.make) && (Rows.hotCountsRow.kinds == (if Rows.hotCountsRow.domain.isEmpty then [] else Tryz.f8.params.toList.map fun t => match Tryz.pinned.checked.prog.underlying t with | some (.int k) => some k | _ => none)) && (Rows.hotCountsRow.pinned == Rows.hotCountsRow.pinnedBy) && (Rows.hotCountsRow.veiled == (Tryz.f8.params.toList ++ Rows.hotCountsSpec.plain.varTypes Tryz.pinned.checked.prog ++ Tryz.f8.resultTypes.toList).any (Tryz.pinned.checked.prog.veiledRec ·)) && Rows.hotCountsRow.veiledFits Tryz.pinned.checked.prog Tryz.f8.params.toList (Tryz.f8.params.toList ++ Rows.hotCountsSpec.plain.varTypes Tryz.pinned.checked.prog ++ Tryz.f8.resultTypes.toList)) = true := by kernel_rfl
set_option maxRecDepth 100000 in
theorem hotCounts_closed : joinedFacts Tryz.pinned.checked.prog 8 Tryz.f8 Rows.hotCountsSpec Rows.hotCountsRow = true := (band_t (band_t (band_t (band_t (band_t (band_t (band_t (band_t (band_t (band_t (band_t (band_t (band_t (band_t (band_t (band_t (band_t (band_t (band_t (band_t (band_t (band_t (band_t (band_t (band_t (band_t (band_t (band_t (band_t (band_t (band_t (band_l hotCounts_facts0) (band_r hotCounts_facts0)) (band_l (band_l (band_l (band_l (band_l (band_l (band_l hotCounts_facts1)))))))) (band_r (band_l (band_l (band_l (band_l (band_l (band_l hotCounts_facts1)))))))) (band_r (band_l (band_l (band_l (band_l (band_l hotCounts_facts1))))))) (band_r (band_l (band_l (band_l (band_l hotCounts_facts1)))))) (band_r (band_l (band_l (band_l hotCounts_facts1))))) (band_r (band_l (band_l hotCounts_facts1)))) (band_r (band_l hotCounts_facts1))) (band_r hotCounts_facts1)) (band_l hotCounts_facts2)) (band_r hotCounts_facts2)) (band_l (band_l (band_l (band_l (band_l hotCounts_facts3)))))) (band_r (band_l (band_l (band_l (band_l hotCounts_facts3)))))) (band_r (band_l (band_l (band_l hotCounts_facts3))))) (band_r (band_l (band_l hotCounts_facts3)))) (band_r (band_l hotCounts_facts3))) (band_r hotCounts_facts3)) (band_l (band_l (band_l (band_l (band_l hotCounts_facts4)))))) (band_r (band_l (band_l (band_l (band_l hotCounts_facts4)))))) (band_r (band_l (band_l (band_l hotCounts_facts4))))) (band_r (band_l (band_l hotCounts_facts4)))) (band_r (band_l hotCounts_facts4))) (band_r hotCounts_facts4)) (band_l (band_l (band_l (band_l (band_l (band_l (band_l hotCounts_facts5)))))))) (band_r (band_l (band_l (band_l (band_l (band_l (band_l hotCounts_facts5)))))))) (band_r (band_l (band_l (band_l (band_l (band_l hotCounts_facts5))))))) (band_r (band_l (band_l (band_l (band_l hotCounts_facts5)))))) (band_r (band_l (band_l (band_l hotCounts_facts5))))) (band_r (band_l (band_l hotCounts_facts5)))) (band_r (band_l hotCounts_facts5))) (band_r hotCounts_facts5))

theorem hotCounts_over : Rows.hotCountsRow.holds Tryz.pinned (OpenSpec.ofChange Rows.hotCountsSpec) :=
  OpenClaim.holds_of_wide 8 Tryz.f8 rfl rfl rfl rfl rfl rfl rfl ⟨rfl, rfl, rfl, rfl, rfl⟩ rfl rfl rfl rfl rfl (by kernel_rfl) Tryz.func8 hotCounts_closed
    (of_decide_eq_true (by kernel_rfl)) (by unfold Func.isWrapper; first | (rw [if_pos (by decide +kernel)]; kernel_rfl) | (rw [if_neg (by decide +kernel)]; exact ⟨rfl, rfl⟩))
    (fun os started H enc _ => hotCounts_lifted os started H enc)
end Go.Gb
namespace Go.Proofs.YtjdleeamgmkbkaaGreat
theorem hotCounts_holds : Rows.HotCountsSaid := Go.Gb.hotCounts_over
end Go.Proofs.YtjdleeamgmkbkaaGreat
#print axioms Go.Proofs.YtjdleeamgmkbkaaGreat.hotCounts_holds
