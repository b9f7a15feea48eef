/- Own text for the seat: RFlatAlike. -/
import Derived.Test.YtjdleeamgmkbkaaGreatRows
import Derived.Test.YtjdleeamgmkbkaaGreatA10
import Derived.Test.YtjdleeamgmkbkaaGreatA11
import Derived.Test.YtjdleeamgmkbkaaGreatB6
set_option linter.unusedVariables false
set_option linter.unusedSimpArgs false
set_option linter.unnecessarySimpa false
set_option linter.deprecated false
namespace Go.Gb
open Go.Proofs Go.Proofs.YtjdleeamgmkbkaaGreat
open Go.ChangeShapes Go.WideShapes Go.ChangeAt Go.RowKit
open Go.ChangeMaps (open_string shut_string)

theorem band_t {a b : Bool} (ha : a = true) (hb : b = true) : (a && b) = true := by rw [ha, hb]; rfl
theorem band_l {a b : Bool} (h : (a && b) = true) : a = true := by cases a with | true => rfl | false => exact h
theorem band_r {a b : Bool} (h : (a && b) = true) : b = true := by cases a with | true => exact h | false => cases h

set_option maxRecDepth 100000 in
theorem flatAlike_lifted (os : Os) (started : os.Started) (H : Type) (enc : TypeId × Value → H) :
    ReturnsInHanded {} Tryz.checked os 3 .any (Rows.flatAlikeSpec.pre6 enc Tryz.prog Tryz.f3 Rows.flatAlikeRow.domain false) (Rows.flatAlikeSpec.post enc Tryz.prog Tryz.f3 false true false false) := by
  refine lift (C := Tryz.checked) (rt := 4) (by kernel_rfl) started (by kernel_rfl) Tryz.func3
    (ChangeSpec.witness6 (enc := enc) (C := Tryz.checked) false ⟨#[], #[.agg #[.int .i64 0, .int .i64 0, .int .i64 0, .int .i64 0, .int .u64 0], .agg #[.int .i64 0, .int .i64 0, .int .i64 0, .int .i64 0, .int .u64 0], .slice none 0 0], []⟩ 8 (by kernel_rfl) (by kernel_rfl) (by kernel_rfl) (by kernel_rfl))
    (by kernel_rfl) (by kernel_rfl) rfl (by kernel_rfl) (by kernel_rfl) (fun ds hd => by match ds, hd with | [d0, d1, d2], _ => rfl) ?_
  intro W base args ds ps hval hA hsz hfz
  have hval : ∀ (j : Nat) t v, (#[24, 24, 25] : Array Nat)[j]? = some t → args[j]? = some v → Value.okWide Tryz.prog W .any base t v := hval
  replace hA : DataW.TrodAll enc Tryz.prog W 0 (fun _ => true) true [24, 24, 25] args.toList ds ps := hA
  replace hsz : (DataW.weightsEach Tryz.prog [24, 24, 25] ds).all (· ≤ reachBytes) = true := hsz
  obtain ⟨v0, vs0, d0, ds0, p0, q0, hargs, rfl, rfl, h0, r0⟩ := trodAll_cons hA
  obtain ⟨v1, vs1, d1, ds1, p1, q1, rfl, rfl, rfl, h1, r1⟩ := trodAll_cons r0
  obtain ⟨v2, vs2, d2, ds2, p2, q2, rfl, rfl, rfl, h2, r2⟩ := trodAll_cons r1
  obtain ⟨rfl, rfl, rfl⟩ := trodAll_nil r2
  obtain rfl : args = #[v0, v1, v2] := by cases args; simp_all
  obtain ⟨c0, rfl⟩ := open_aggv (P := Tryz.prog) (t := 24) (by kernel_rfl) (hval 0 24 v0 rfl rfl)
  obtain ⟨c1, rfl⟩ := open_aggv (P := Tryz.prog) (t := 24) (by kernel_rfl) (hval 1 24 v1 rfl rfl)
  exact C.below fun h hs hw => gabionlaw09_FlatAlike.law c0 c1 v2 h (okc_agg (d := 8) hw h0) (okc_agg (d := 8) hw h1) (open_cell (d := 8) hw (by kernel_rfl) (hval 2 25 v2 rfl rfl) h2)

theorem flatAlike_facts0 : (Rows.flatAlikeRow.wf (OpenSpec.ofChange Rows.flatAlikeSpec) && laidOutB Tryz.pinned.checked.prog) = true := by kernel_rfl
theorem flatAlike_facts1 : (mapsRowed Tryz.pinned.checked.prog && Tryz.f3.params.all (Tryz.pinned.checked.prog.readableRec ·) && namedTie Tryz.pinned.checked.prog Rows.flatAlikeRow.named Rows.flatAlikeSpec.vars && (Rows.flatAlikeRow.stops == []) && (Tryz.pinned.checked.prog.stops == []) && (Rows.flatAlikeRow.knobs == []) && (Tryz.pinned.checked.prog.stopKnobs == []) && (Rows.flatAlikeRow.inPlace == Tryz.pinned.checked.prog.inPlace 3)) = true := by kernel_rfl
theorem flatAlike_facts2 : ((Rows.flatAlikeRow.unfollowed == Tryz.pinned.checked.prog.unfollowed 3) && (Rows.flatAlikeRow.recurses == Tryz.pinned.checked.prog.recurses 3)) = true := by kernel_rfl
theorem flatAlike_facts3 : ((Rows.flatAlikeRow.named == Tryz.pinned.checked.prog.varsNamed 3) && (Rows.flatAlikeRow.maps == (Tryz.f3.params.toList ++ Rows.flatAlikeSpec.plain.varTypes Tryz.pinned.checked.prog).any (Tryz.pinned.checked.prog.mapsRec ·)) && (Rows.flatAlikeRow.ifaces == (Tryz.f3.params.toList ++ Rows.flatAlikeSpec.plain.varTypes Tryz.pinned.checked.prog).any (Tryz.pinned.checked.prog.ifacesRec ·)) && (Rows.flatAlikeRow.mapsOut == Tryz.pinned.checked.prog.mapsAmong Tryz.f3.resultTypes.toList) && (Rows.flatAlikeRow.loops == (Tryz.f3.params.toList ++ Rows.flatAlikeSpec.plain.varTypes Tryz.pinned.checked.prog).any (Tryz.pinned.checked.prog.loopsFrom ·)) && (Rows.flatAlikeRow.wideKeys == (Tryz.f3.params.toList ++ Rows.flatAlikeSpec.plain.varTypes Tryz.pinned.checked.prog ++ Tryz.f3.resultTypes.toList).any (Tryz.pinned.checked.prog.wideKeysFrom ·))) = true := by kernel_rfl
theorem flatAlike_facts4 : (Rows.flatAlikeSpec.vars.all (Tryz.pinned.checked.prog.varReadable ·) && Tryz.f3.resultTypes.all (fun t => Tryz.pinned.checked.prog.readableRec t && decide (t < Tryz.pinned.checked.prog.types.size)) && (Rows.flatAlikeRow.ifacesOut == Tryz.f3.resultTypes.toList.any (Tryz.pinned.checked.prog.ifacesRec ·)) && (Rows.flatAlikeRow.loopsOut == Tryz.f3.resultTypes.toList.any (Tryz.pinned.checked.prog.loopsFrom ·)) && (Rows.flatAlikeRow.plainKeys == Tryz.pinned.checked.prog.plainKeys) && Rows.flatAlikeRow.shortTexts.isNone) = true := by kernel_rfl
theorem flatAlike_facts5 : (Tryz.pinned.checked.prog.stopsHeard && Tryz.pinned.checked.prog.mayEnter && (Rows.flatAlikeRow.lifted == Tryz.pinned.checked.prog.liftsFinal) && (Tryz.pinned.checked.prog.make == some Rows.flatAlikeRow.make) && (Rows.flatAlikeRow.kinds == (if Rows.flatAlikeRow.domain.isEmpty then [] else Tryz.f3.params.toList.map fun t => match Tryz.pinned.checked.prog.underlying t with | some (.int k) => some k | _ => none)) && (Rows.flatAlikeRow.pinned == Rows.flatAlikeRow.pinnedBy) && (Rows.flatAlikeRow.veiled == (Tryz.f3.params.toList ++ Rows.flatAlikeSpec.plain.varTypes Tryz.pinned.checked.prog ++ Tryz.f3.resultTypes.toList).any (Tryz.pinned.checked.prog.veiledRec ·)) && Rows.flatAlikeRow.veiledFits Tryz.pinned.checked.prog Tryz.f3.params.toList (Tryz.f3.params.toList ++ Rows.flatAlikeSpec.plain.varTypes Tryz.pinned.checked.prog ++ Tryz.f3.resultTypes.toList)) = true := by kernel_rfl
set_option maxRecDepth 100000 in
theorem flatAlike_closed : joinedFacts Tryz.pinned.checked.prog 3 Tryz.f3 Rows.flatAlikeSpec Rows.flatAlikeRow = true := (band_t (band_t (band_t (band_t (band_t (band_t (band_t (band_t (band_t (band_t (band_t (band_t (band_t (band_t (band_t (band_t (band_t (band_t (band_t (band_t (band_t (band_t (band_t (band_t (band_t (band_t (band_t (band_t (band_t (band_t (band_t (band_l flatAlike_facts0) (band_r flatAlike_facts0)) (band_l (band_l (band_l (band_l (band_l (band_l (band_l flatAlike_facts1)))))))) (band_r (band_l (band_l (band_l (band_l (band_l (band_l flatAlike_facts1)))))))) (band_r (band_l (band_l (band_l (band_l (band_l flatAlike_facts1))))))) (band_r (band_l (band_l (band_l (band_l flatAlike_facts1)))))) (band_r (band_l (band_l (band_l flatAlike_facts1))))) (band_r (band_l (band_l flatAlike_facts1)))) (band_r (band_l flatAlike_facts1))) (band_r flatAlike_facts1)) (band_l flatAlike_facts2)) (band_r flatAlike_facts2)) (band_l (band_l (band_l (band_l (band_l flatAlike_facts3)))))) (band_r (band_l (band_l (band_l (band_l flatAlike_facts3)))))) (band_r (band_l (band_l (band_l flatAlike_facts3))))) (band_r (band_l (band_l flatAlike_facts3)))) (band_r (band_l flatAlike_facts3))) (band_r flatAlike_facts3)) (band_l (band_l (band_l (band_l (band_l flatAlike_facts4)))))) (band_r (band_l (band_l (band_l (band_l flatAlike_facts4)))))) (band_r (band_l (band_l (band_l flatAlike_facts4))))) (band_r (band_l (band_l flatAlike_facts4)))) (band_r (band_l flatAlike_facts4))) (band_r flatAlike_facts4)) (band_l (band_l (band_l (band_l (band_l (band_l (band_l flatAlike_facts5)))))))) (band_r (band_l (band_l (band_l (band_l (band_l (band_l flatAlike_facts5)))))))) (band_r (band_l (band_l (band_l (band_l (band_l flatAlike_facts5))))))) (band_r (band_l (band_l (band_l (band_l flatAlike_facts5)))))) (band_r (band_l (band_l (band_l flatAlike_facts5))))) (band_r (band_l (band_l flatAlike_facts5)))) (band_r (band_l flatAlike_facts5))) (band_r flatAlike_facts5))

theorem flatAlike_over : Rows.flatAlikeRow.holds Tryz.pinned (OpenSpec.ofChange Rows.flatAlikeSpec) :=
  OpenClaim.holds_of_wide 3 Tryz.f3 rfl rfl rfl rfl rfl rfl rfl ⟨rfl, rfl, rfl, rfl, rfl⟩ rfl rfl rfl rfl rfl (by kernel_rfl) Tryz.func3 flatAlike_closed
    (of_decide_eq_true (by kernel_rfl)) (by unfold Func.isWrapper; first | (rw [if_pos (by decide +kernel)]; kernel_rfl) | (rw [if_neg (by decide +kernel)]; exact ⟨rfl, rfl⟩))
    (fun os started H enc _ => flatAlike_lifted os started H enc)
end Go.Gb
namespace Go.Proofs.YtjdleeamgmkbkaaGreat
theorem flatAlike_holds : Rows.FlatAlikeSaid := Go.Gb.flatAlike_over
end Go.Proofs.YtjdleeamgmkbkaaGreat
#print axioms Go.Proofs.YtjdleeamgmkbkaaGreat.flatAlike_holds
