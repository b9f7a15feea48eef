/- Own text for the seat: RHotKeeps. -/
import Derived.Test.YtjdleeamgmkbkaaGreatRows
import Derived.Test.YtjdleeamgmkbkaaGreatA10
import Derived.Test.YtjdleeamgmkbkaaGreatA11
import Derived.Test.YtjdleeamgmkbkaaGreatB7
set_option linter.unusedVariables false
set_option linter.unusedSimpArgs false
set_option linter.unnecessarySimpa false
set_option linter.deprecated false
namespace Go.Gb
open Go.Proofs Go.Proofs.YtjdleeamgmkbkaaGreat
open Go.ChangeShapes Go.WideShapes Go.ChangeAt Go.RowKit
open Go.ChangeMaps (open_string shut_string)

theorem band_t {a b : Bool} (ha : a = true) (hb : b = true) : (a && b) = true := by rw [ha, hb]; rfl
theorem band_l {a b : Bool} (h : (a && b) = true) : a = true := by cases a with | true => rfl | false => exact h
theorem band_r {a b : Bool} (h : (a && b) = true) : b = true := by cases a with | true => exact h | false => cases h

set_option maxRecDepth 100000 in
theorem hotKeeps_lifted (os : Os) (started : os.Started) (H : Type) (enc : TypeId × Value → H) :
    ReturnsInHanded {} Tryz.checked os 12 .any (Rows.hotKeepsSpec.pre6 enc Tryz.prog Tryz.f12 Rows.hotKeepsRow.domain false) (Rows.hotKeepsSpec.post enc Tryz.prog Tryz.f12 false true false false) := by
  refine lift (C := Tryz.checked) (rt := 4) (by kernel_rfl) started (by kernel_rfl) Tryz.func12
    (ChangeSpec.witness6 (enc := enc) (C := Tryz.checked) false ⟨#[], #[.agg #[.int .i64 0, .int .i64 0, .int .i64 0, .int .i64 0, .int .i64 0, .int .u64 0], .slice none 0 0], []⟩ 8 (by kernel_rfl) (by kernel_rfl) (by kernel_rfl) (by kernel_rfl))
    (by kernel_rfl) (by kernel_rfl) rfl (by kernel_rfl) (by kernel_rfl) (fun ds hd => by match ds, hd with | [d0, d1], _ => rfl) ?_
  intro W base args ds ps hval hA hsz hfz
  have hval : ∀ (j : Nat) t v, (#[103, 104] : Array Nat)[j]? = some t → args[j]? = some v → Value.okWide Tryz.prog W .any base t v := hval
  replace hA : DataW.TrodAll enc Tryz.prog W 0 (fun _ => true) true [103, 104] args.toList ds ps := hA
  replace hsz : (DataW.weightsEach Tryz.prog [103, 104] ds).all (· ≤ reachBytes) = true := hsz
  obtain ⟨v0, vs0, d0, ds0, p0, q0, hargs, rfl, rfl, h0, r0⟩ := trodAll_cons hA
  obtain ⟨v1, vs1, d1, ds1, p1, q1, rfl, rfl, rfl, h1, r1⟩ := trodAll_cons r0
  obtain ⟨rfl, rfl, rfl⟩ := trodAll_nil r1
  obtain rfl : args = #[v0, v1] := by cases args; simp_all
  obtain ⟨c0, rfl⟩ := open_aggv (P := Tryz.prog) (t := 103) (by kernel_rfl) (hval 0 103 v0 rfl rfl)
  exact C.below fun h hs hw => K12.law c0 v1 h (okc_agg (d := 8) hw h0) (open_cell (d := 8) hw (by kernel_rfl) (hval 1 104 v1 rfl rfl) h1)

theorem hotKeeps_facts0 : (Rows.hotKeepsRow.wf (OpenSpec.ofChange Rows.hotKeepsSpec) && laidOutB Tryz.pinned.checked.prog) = true := by kernel_rfl
theorem hotKeeps_facts1 : (mapsRowed Tryz.pinned.checked.prog && Tryz.f12.params.all (Tryz.pinned.checked.prog.readableRec ·) && namedTie Tryz.pinned.checked.prog Rows.hotKeepsRow.named Rows.hotKeepsSpec.vars && (Rows.hotKeepsRow.stops == []) && (Tryz.pinned.checked.prog.stops == []) && (Rows.hotKeepsRow.knobs == []) && (Tryz.pinned.checked.prog.stopKnobs == []) && (Rows.hotKeepsRow.inPlace == Tryz.pinned.checked.prog.inPlace 12)) = true := by kernel_rfl
theorem hotKeeps_facts2 : ((Rows.hotKeepsRow.unfollowed == Tryz.pinned.checked.prog.unfollowed 12) && (Rows.hotKeepsRow.recurses == Tryz.pinned.checked.prog.recurses 12)) = true := by kernel_rfl
theorem hotKeeps_facts3 : ((Rows.hotKeepsRow.named == Tryz.pinned.checked.prog.varsNamed 12) && (Rows.hotKeepsRow.maps == (Tryz.f12.params.toList ++ Rows.hotKeepsSpec.plain.varTypes Tryz.pinned.checked.prog).any (Tryz.pinned.checked.prog.mapsRec ·)) && (Rows.hotKeepsRow.ifaces == (Tryz.f12.params.toList ++ Rows.hotKeepsSpec.plain.varTypes Tryz.pinned.checked.prog).any (Tryz.pinned.checked.prog.ifacesRec ·)) && (Rows.hotKeepsRow.mapsOut == Tryz.pinned.checked.prog.mapsAmong Tryz.f12.resultTypes.toList) && (Rows.hotKeepsRow.loops == (Tryz.f12.params.toList ++ Rows.hotKeepsSpec.plain.varTypes Tryz.pinned.checked.prog).any (Tryz.pinned.checked.prog.loopsFrom ·)) && (Rows.hotKeepsRow.wideKeys == (Tryz.f12.params.toList ++ Rows.hotKeepsSpec.plain.varTypes Tryz.pinned.checked.prog ++ Tryz.f12.resultTypes.toList).any (Tryz.pinned.checked.prog.wideKeysFrom ·))) = true := by kernel_rfl
theorem hotKeeps_facts4 : (Rows.hotKeepsSpec.vars.all (Tryz.pinned.checked.prog.varReadable ·) && Tryz.f12.resultTypes.all (fun t => Tryz.pinned.checked.prog.readableRec t && decide (t < Tryz.pinned.checked.prog.types.size)) && (Rows.hotKeepsRow.ifacesOut == Tryz.f12.resultTypes.toList.any (Tryz.pinned.checked.prog.ifacesRec ·)) && (Rows.hotKeepsRow.loopsOut == Tryz.f12.resultTypes.toList.any (Tryz.pinned.checked.prog.loopsFrom ·)) && (Rows.hotKeepsRow.plainKeys == Tryz.pinned.checked.prog.plainKeys) && Rows.hotKeepsRow.shortTexts.isNone) = true := by kernel_rfl
theorem hotKeeps_facts5 : (Tryz.pinned.checked.prog.stopsHeard && Tryz.pinned.checked.prog.mayEnter && (Rows.hotKeepsRow.lifted == Tryz.pinned.checked.prog.liftsFinal) && (Tryz.pinned.checked.prog.make == some Rows.hotKeepsRow.make) && (Rows.hotKeepsRow.kinds == (if Rows.hotKeepsRow.domain.isEmpty then [] else Tryz.f12.params.toList.map fun t => match Tryz.pinned.checked.prog.underlying t with | some (.int k) => some k | _ => none)) && (Rows.hotKeepsRow.pinned == Rows.hotKeepsRow.pinnedBy) && (Rows.hotKeepsRow.veiled == (Tryz.f12.params.toList ++ Rows.hotKeepsSpec.plain.varTypes Tryz.pinned.checked.prog ++ Tryz.f12.resultTypes.toList).any (Tryz.pinned.checked.prog.veiledRec ·)) && Rows.hotKeepsRow.veiledFits Tryz.pinned.checked.prog Tryz.f12.params.toList (Tryz.f12.params.toList ++ Rows.hotKeepsSpec.plain.varTypes Tryz.pinned.checked.prog ++ Tryz.f12.resultTypes.toList)) = true := by kernel_rfl
set_option maxRecDepth 100000 in
theorem hotKeeps_closed : joinedFacts Tryz.pinned.checked.prog 12 Tryz.f12 Rows.hotKeepsSpec Rows.hotKeepsRow = true := (band_t (band_t (band_t (band_t (band_t (band_t (band_t (band_t (band_t (band_t (band_t (band_t (band_t (band_t (band_t (band_t (band_t (band_t (band_t (band_t (band_t (band_t (band_t (band_t (band_t (band_t (band_t (band_t (band_t (band_t (band_t (band_l hotKeeps_facts0) (band_r hotKeeps_facts0)) (band_l (band_l (band_l (band_l (band_l (band_l (band_l hotKeeps_facts1)))))))) (band_r (band_l (band_l (band_l (band_l (band_l (band_l hotKeeps_facts1)))))))) (band_r (band_l (band_l (band_l (band_l (band_l hotKeeps_facts1))))))) (band_r (band_l (band_l (band_l (band_l hotKeeps_facts1)))))) (band_r (band_l (band_l (band_l hotKeeps_facts1))))) (band_r (band_l (band_l hotKeeps_facts1)))) (band_r (band_l hotKeeps_facts1))) (band_r hotKeeps_facts1)) (band_l hotKeeps_facts2)) (band_r hotKeeps_facts2)) (band_l (band_l (band_l (band_l (band_l hotKeeps_facts3)))))) (band_r (band_l (band_l (band_l (band_l hotKeeps_facts3)))))) (band_r (band_l (band_l (band_l hotKeeps_facts3))))) (band_r (band_l (band_l hotKeeps_facts3)))) (band_r (band_l hotKeeps_facts3))) (band_r hotKeeps_facts3)) (band_l (band_l (band_l (band_l (band_l hotKeeps_facts4)))))) (band_r (band_l (band_l (band_l (band_l hotKeeps_facts4)))))) (band_r (band_l (band_l (band_l hotKeeps_facts4))))) (band_r (band_l (band_l hotKeeps_facts4)))) (band_r (band_l hotKeeps_facts4))) (band_r hotKeeps_facts4)) (band_l (band_l (band_l (band_l (band_l (band_l (band_l hotKeeps_facts5)))))))) (band_r (band_l (band_l (band_l (band_l (band_l (band_l hotKeeps_facts5)))))))) (band_r (band_l (band_l (band_l (band_l (band_l hotKeeps_facts5))))))) (band_r (band_l (band_l (band_l (band_l hotKeeps_facts5)))))) (band_r (band_l (band_l (band_l hotKeeps_facts5))))) (band_r (band_l (band_l hotKeeps_facts5)))) (band_r (band_l hotKeeps_facts5))) (band_r hotKeeps_facts5))

theorem hotKeeps_over : Rows.hotKeepsRow.holds Tryz.pinned (OpenSpec.ofChange Rows.hotKeepsSpec) :=
  OpenClaim.holds_of_wide 12 Tryz.f12 rfl rfl rfl rfl rfl rfl rfl ⟨rfl, rfl, rfl, rfl, rfl⟩ rfl rfl rfl rfl rfl (by kernel_rfl) Tryz.func12 hotKeeps_closed
    (of_decide_eq_true (by kernel_rfl)) (by unfold Func.isWrapper; first | (rw [if_pos (by decide +kernel)]; kernel_rfl) | (rw [if_neg (by decide +kernel)]; exact ⟨rfl, rfl⟩))
    (fun os started H enc _ => hotKeeps_lifted os started H enc)
end Go.Gb
namespace Go.Proofs.YtjdleeamgmkbkaaGreat
theorem hotKeeps_holds : Rows.HotKeepsSaid := Go.Gb.hotKeeps_over
end Go.Proofs.YtjdleeamgmkbkaaGreat
#print axioms Go.Proofs.YtjdleeamgmkbkaaGreat.hotKeeps_holds
