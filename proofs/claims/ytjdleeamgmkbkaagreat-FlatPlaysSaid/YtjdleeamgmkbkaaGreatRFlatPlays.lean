/- Own text for the seat: RFlatPlays. -/
import Derived.Test.YtjdleeamgmkbkaaGreatRows
import Derived.Test.YtjdleeamgmkbkaaGreatA10
import Derived.Test.YtjdleeamgmkbkaaGreatA11
import Derived.Test.YtjdleeamgmkbkaaGreatB7
set_option linter.unusedVariables false
set_option linter.unusedSimpArgs false
set_option linter.unnecessarySimpa false
set_option linter.deprecated false
namespace Go.Gb
open Go.Proofs Go.Proofs.YtjdleeamgmkbkaaGreat
open Go.ChangeShapes Go.WideShapes Go.ChangeAt Go.RowKit
open Go.ChangeMaps (open_string shut_string)

theorem band_t {a b : Bool} (ha : a = true) (hb : b = true) : (a && b) = true := by rw [ha, hb]; rfl
theorem band_l {a b : Bool} (h : (a && b) = true) : a = true := by cases a with | true => rfl | false => exact h
theorem band_r {a b : Bool} (h : (a && b) = true) : b = true := by cases a with | true => exact h | false => cases h

set_option maxRecDepth 100000 in
theorem flatPlays_lifted (os : Os) (started : os.Started) (H : Type) (enc : TypeId × Value → H) :
    ReturnsInHanded {} Tryz.checked os 7 .any (Rows.flatPlaysSpec.pre6 enc Tryz.prog Tryz.f7 Rows.flatPlaysRow.domain false) (Rows.flatPlaysSpec.post enc Tryz.prog Tryz.f7 false true false false) := by
  refine lift (C := Tryz.checked) (rt := 4) (by kernel_rfl) started (by kernel_rfl) Tryz.func7
    (ChangeSpec.witness6 (enc := enc) (C := Tryz.checked) false ⟨#[], #[.agg #[.int .i64 0, .int .i64 0, .int .i64 0, .int .i64 0, .int .u64 0], .slice none 0 0], []⟩ 8 (by kernel_rfl) (by kernel_rfl) (by kernel_rfl) (by kernel_rfl))
    (by kernel_rfl) (by kernel_rfl) rfl (by kernel_rfl) (by kernel_rfl) (fun ds hd => by match ds, hd with | [d0, d1], _ => rfl) ?_
  intro W base args ds ps hval hA hsz hfz
  have hval : ∀ (j : Nat) t v, (#[24, 25] : Array Nat)[j]? = some t → args[j]? = some v → Value.okWide Tryz.prog W .any base t v := hval
  replace hA : DataW.TrodAll enc Tryz.prog W 0 (fun _ => true) true [24, 25] args.toList ds ps := hA
  replace hsz : (DataW.weightsEach Tryz.prog [24, 25] ds).all (· ≤ reachBytes) = true := hsz
  obtain ⟨v0, vs0, d0, ds0, p0, q0, hargs, rfl, rfl, h0, r0⟩ := trodAll_cons hA
  obtain ⟨v1, vs1, d1, ds1, p1, q1, rfl, rfl, rfl, h1, r1⟩ := trodAll_cons r0
  obtain ⟨rfl, rfl, rfl⟩ := trodAll_nil r1
  obtain rfl : args = #[v0, v1] := by cases args; simp_all
  obtain ⟨c0, rfl⟩ := open_aggv (P := Tryz.prog) (t := 24) (by kernel_rfl) (hval 0 24 v0 rfl rfl)
  exact C.below fun h hs hw => K7.law c0 v1 h (okc_agg (d := 8) hw h0) (open_cell (d := 8) hw (by kernel_rfl) (hval 1 25 v1 rfl rfl) h1)

theorem flatPlays_facts0 : (Rows.flatPlaysRow.wf (OpenSpec.ofChange Rows.flatPlaysSpec) && laidOutB Tryz.pinned.checked.prog) = true := by kernel_rfl
theorem flatPlays_facts1 : (mapsRowed Tryz.pinned.checked.prog && Tryz.f7.params.all (Tryz.pinned.checked.prog.readableRec ·) && namedTie Tryz.pinned.checked.prog Rows.flatPlaysRow.named Rows.flatPlaysSpec.vars && (Rows.flatPlaysRow.stops == []) && (Tryz.pinned.checked.prog.stops == []) && (Rows.flatPlaysRow.knobs == []) && (Tryz.pinned.checked.prog.stopKnobs == []) && (Rows.flatPlaysRow.inPlace == Tryz.pinned.checked.prog.inPlace 7)) = true := by kernel_rfl
theorem flatPlays_facts2 : ((Rows.flatPlaysRow.unfollowed == Tryz.pinned.checked.prog.unfollowed 7) && (Rows.flatPlaysRow.recurses == Tryz.pinned.checked.prog.recurses 7)) = true := by kernel_rfl
theorem flatPlays_facts3 : ((Rows.flatPlaysRow.named == Tryz.pinned.checked.prog.varsNamed 7) && (Rows.flatPlaysRow.maps == (Tryz.f7.params.toList ++ Rows.flatPlaysSpec.plain.varTypes Tryz.pinned.checked.prog).any (Tryz.pinned.checked.prog.mapsRec ·)) && (Rows.flatPlaysRow.ifaces == (Tryz.f7.params.toList ++ Rows.flatPlaysSpec.plain.varTypes Tryz.pinned.checked.prog).any (Tryz.pinned.checked.prog.ifacesRec ·)) && (Rows.flatPlaysRow.mapsOut == Tryz.pinned.checked.prog.mapsAmong Tryz.f7.resultTypes.toList) && (Rows.flatPlaysRow.loops == (Tryz.f7.params.toList ++ Rows.flatPlaysSpec.plain.varTypes Tryz.pinned.checked.prog).any (Tryz.pinned.checked.prog.loopsFrom ·)) && (Rows.flatPlaysRow.wideKeys == (Tryz.f7.params.toList ++ Rows.flatPlaysSpec.plain.varTypes Tryz.pinned.checked.prog ++ Tryz.f7.resultTypes.toList).any (Tryz.pinned.checked.prog.wideKeysFrom ·))) = true := by kernel_rfl
theorem flatPlays_facts4 : (Rows.flatPlaysSpec.vars.all (Tryz.pinned.checked.prog.varReadable ·) && Tryz.f7.resultTypes.all (fun t => Tryz.pinned.checked.prog.readableRec t && decide (t < Tryz.pinned.checked.prog.types.size)) && (Rows.flatPlaysRow.ifacesOut == Tryz.f7.resultTypes.toList.any (Tryz.pinned.checked.prog.ifacesRec ·)) && (Rows.flatPlaysRow.loopsOut == Tryz.f7.resultTypes.toList.any (Tryz.pinned.checked.prog.loopsFrom ·)) && (Rows.flatPlaysRow.plainKeys == Tryz.pinned.checked.prog.plainKeys) && Rows.flatPlaysRow.shortTexts.isNone) = true := by kernel_rfl
theorem flatPlays_facts5 : (Tryz.pinned.checked.prog.stopsHeard && Tryz.pinned.checked.prog.mayEnter && (Rows.flatPlaysRow.lifted == Tryz.pinned.checked.prog.liftsFinal) && (Tryz.pinned.checked.prog.make == some Rows.flatPlaysRow.make) && (Rows.flatPlaysRow.kinds == (if Rows.flatPlaysRow.domain.isEmpty then [] else Tryz.f7.params.toList.map fun t => match Tryz.pinned.checked.prog.underlying t with | some (.int k) => some k | _ => none)) && (Rows.flatPlaysRow.pinned == Rows.flatPlaysRow.pinnedBy) && (Rows.flatPlaysRow.veiled == (Tryz.f7.params.toList ++ Rows.flatPlaysSpec.plain.varTypes Tryz.pinned.checked.prog ++ Tryz.f7.resultTypes.toList).any (Tryz.pinned.checked.prog.veiledRec ·)) && Rows.flatPlaysRow.veiledFits Tryz.pinned.checked.prog Tryz.f7.params.toList (Tryz.f7.params.toList ++ Rows.flatPlaysSpec.plain.varTypes Tryz.pinned.checked.prog ++ Tryz.f7.resultTypes.toList)) = true := by kernel_rfl
set_option maxRecDepth 100000 in
theorem flatPlays_closed : joinedFacts Tryz.pinned.checked.prog 7 Tryz.f7 Rows.flatPlaysSpec Rows.flatPlaysRow = true := (band_t (band_t (band_t (band_t (band_t (band_t (band_t (band_t (band_t (band_t (band_t (band_t (band_t (band_t (band_t (band_t (band_t (band_t (band_t (band_t (band_t (band_t (band_t (band_t (band_t (band_t (band_t (band_t (band_t (band_t (band_t (band_l flatPlays_facts0) (band_r flatPlays_facts0)) (band_l (band_l (band_l (band_l (band_l (band_l (band_l flatPlays_facts1)))))))) (band_r (band_l (band_l (band_l (band_l (band_l (band_l flatPlays_facts1)))))))) (band_r (band_l (band_l (band_l (band_l (band_l flatPlays_facts1))))))) (band_r (band_l (band_l (band_l (band_l flatPlays_facts1)))))) (band_r (band_l (band_l (band_l flatPlays_facts1))))) (band_r (band_l (band_l flatPlays_facts1)))) (band_r (band_l flatPlays_facts1))) (band_r flatPlays_facts1)) (band_l flatPlays_facts2)) (band_r flatPlays_facts2)) (band_l (band_l (band_l (band_l (band_l flatPlays_facts3)))))) (band_r (band_l (band_l (band_l (band_l flatPlays_facts3)))))) (band_r (band_l (band_l (band_l flatPlays_facts3))))) (band_r (band_l (band_l flatPlays_facts3)))) (band_r (band_l flatPlays_facts3))) (band_r flatPlays_facts3)) (band_l (band_l (band_l (band_l (band_l flatPlays_facts4)))))) (band_r (band_l (band_l (band_l (band_l flatPlays_facts4)))))) (band_r (band_l (band_l (band_l flatPlays_facts4))))) (band_r (band_l (band_l flatPlays_facts4)))) (band_r (band_l flatPlays_facts4))) (band_r flatPlays_facts4)) (band_l (band_l (band_l (band_l (band_l (band_l (band_l flatPlays_facts5)))))))) (band_r (band_l (band_l (band_l (band_l (band_l (band_l flatPlays_facts5)))))))) (band_r (band_l (band_l (band_l (band_l (band_l flatPlays_facts5))))))) (band_r (band_l (band_l (band_l (band_l flatPlays_facts5)))))) (band_r (band_l (band_l (band_l flatPlays_facts5))))) (band_r (band_l (band_l flatPlays_facts5)))) (band_r (band_l flatPlays_facts5))) (band_r flatPlays_facts5))

theorem flatPlays_over : Rows.flatPlaysRow.holds Tryz.pinned (OpenSpec.ofChange Rows.flatPlaysSpec) :=
  OpenClaim.holds_of_wide 7 Tryz.f7 rfl rfl rfl rfl rfl rfl rfl ⟨rfl, rfl, rfl, rfl, rfl⟩ rfl rfl rfl rfl rfl (by kernel_rfl) Tryz.func7 flatPlays_closed
    (of_decide_eq_true (by kernel_rfl)) (by unfold Func.isWrapper; first | (rw [if_pos (by decide +kernel)]; kernel_rfl) | (rw [if_neg (by decide +kernel)]; exact ⟨rfl, rfl⟩))
    (fun os started H enc _ => flatPlays_lifted os started H enc)
end Go.Gb
namespace Go.Proofs.YtjdleeamgmkbkaaGreat
theorem flatPlays_holds : Rows.FlatPlaysSaid := Go.Gb.flatPlays_over
end Go.Proofs.YtjdleeamgmkbkaaGreat
#print axioms Go.Proofs.YtjdleeamgmkbkaaGreat.flatPlays_holds
