/- Own text for the seat: RSpaceReads. -/
import Derived.Test.YtdlenbajhalknaaGreatRows
import Derived.Test.YtdlenbajhalknaaGreatA10
import Derived.Test.YtdlenbajhalknaaGreatA11
import Derived.Test.YtdlenbajhalknaaGreatB7
set_option linter.unusedVariables false
set_option linter.unusedSimpArgs false
set_option linter.unnecessarySimpa false
set_option linter.deprecated false
namespace Go.Gb
open Go.Proofs Go.Proofs.YtdlenbajhalknaaGreat
open Go.ChangeShapes Go.WideShapes Go.ChangeAt Go.RowKit
open Go.ChangeMaps (open_string shut_string)

theorem band_t {a b : Bool} (ha : a = true) (hb : b = true) : (a && b) = true := by rw [ha, hb]; rfl
theorem band_l {a b : Bool} (h : (a && b) = true) : a = true := by cases a with | true => rfl | false => exact h
theorem band_r {a b : Bool} (h : (a && b) = true) : b = true := by cases a with | true => exact h | false => cases h

set_option maxRecDepth 100000 in
theorem spaceReads_lifted (os : Os) (started : os.Started) (H : Type) (enc : TypeId × Value → H) :
    ReturnsInHanded {} Tryz.checked os 4 .any (Rows.spaceReadsSpec.pre6 enc Tryz.prog Tryz.f4 Rows.spaceReadsRow.domain false) (Rows.spaceReadsSpec.post enc Tryz.prog Tryz.f4 false true false false) := by
  refine lift (C := Tryz.checked) (rt := 4) (by kernel_rfl) started (by kernel_rfl) Tryz.func4
    (ChangeSpec.witness6 (enc := enc) (C := Tryz.checked) false ⟨#[], #[.string ⟨#[]⟩, .int .i64 0, .int .i64 0], []⟩ 8 (by kernel_rfl) (by kernel_rfl) (by kernel_rfl) (by kernel_rfl))
    (by kernel_rfl) (by kernel_rfl) rfl (by kernel_rfl) (by kernel_rfl) (fun ds hd => by match ds, hd with | [d0, d1, d2], _ => rfl) ?_
  intro W base args ds ps hval hA hsz hfz
  have hval : ∀ (j : Nat) t v, (#[9, 3, 3] : Array Nat)[j]? = some t → args[j]? = some v → Value.okWide Tryz.prog W .any base t v := hval
  replace hA : DataW.TrodAll enc Tryz.prog W 0 (fun _ => true) true [9, 3, 3] args.toList ds ps := hA
  replace hsz : (DataW.weightsEach Tryz.prog [9, 3, 3] ds).all (· ≤ reachBytes) = true := hsz
  obtain ⟨v0, vs0, d0, ds0, p0, q0, hargs, rfl, rfl, h0, r0⟩ := trodAll_cons hA
  obtain ⟨v1, vs1, d1, ds1, p1, q1, rfl, rfl, rfl, h1, r1⟩ := trodAll_cons r0
  obtain ⟨v2, vs2, d2, ds2, p2, q2, rfl, rfl, rfl, h2, r2⟩ := trodAll_cons r1
  obtain ⟨rfl, rfl, rfl⟩ := trodAll_nil r2
  obtain rfl : args = #[v0, v1, v2] := by cases args; simp_all
  obtain ⟨a0, rfl, rfl, -, -⟩ := open_string (P := Tryz.prog) (t := 9) (by kernel_rfl) (hval 0 9 v0 rfl rfl) h0
  have w0 : a0.size ≤ 140737488351232 := by
    have z := sized_string hsz (j := 0) (t := 9) rfl rfl
    rw [Array.length_toList] at z
    exact z
  obtain ⟨a1, rfl, -, -, w1⟩ := open_int (P := Tryz.prog) (t := 3) (k := .i64) (by kernel_rfl) (hval 1 3 v1 rfl rfl) h1
  have w1 := wf_lo w1
  obtain ⟨a2, rfl, -, -, w2⟩ := open_int (P := Tryz.prog) (t := 3) (k := .i64) (by kernel_rfl) (hval 2 3 v2 rfl rfl) h2
  have w2 := wf_lo w2
  exact C.below fun h hs hw => K4.law a0 w0 a1 w1 a2 w2 h 

theorem spaceReads_facts0 : (Rows.spaceReadsRow.wf (OpenSpec.ofChange Rows.spaceReadsSpec) && laidOutB Tryz.pinned.checked.prog) = true := by kernel_rfl
theorem spaceReads_facts1 : (mapsRowed Tryz.pinned.checked.prog && Tryz.f4.params.all (Tryz.pinned.checked.prog.readableRec ·) && namedTie Tryz.pinned.checked.prog Rows.spaceReadsRow.named Rows.spaceReadsSpec.vars && (Rows.spaceReadsRow.stops == []) && (Tryz.pinned.checked.prog.stops == []) && (Rows.spaceReadsRow.knobs == []) && (Tryz.pinned.checked.prog.stopKnobs == []) && (Rows.spaceReadsRow.inPlace == Tryz.pinned.checked.prog.inPlace 4)) = true := by kernel_rfl
theorem spaceReads_facts2 : ((Rows.spaceReadsRow.unfollowed == Tryz.pinned.checked.prog.unfollowed 4) && (Rows.spaceReadsRow.recurses == Tryz.pinned.checked.prog.recurses 4)) = true := by kernel_rfl
theorem spaceReads_facts3 : ((Rows.spaceReadsRow.named == Tryz.pinned.checked.prog.varsNamed 4) && (Rows.spaceReadsRow.maps == (Tryz.f4.params.toList ++ Rows.spaceReadsSpec.plain.varTypes Tryz.pinned.checked.prog).any (Tryz.pinned.checked.prog.mapsRec ·)) && (Rows.spaceReadsRow.ifaces == (Tryz.f4.params.toList ++ Rows.spaceReadsSpec.plain.varTypes Tryz.pinned.checked.prog).any (Tryz.pinned.checked.prog.ifacesRec ·)) && (Rows.spaceReadsRow.mapsOut == Tryz.pinned.checked.prog.mapsAmong Tryz.f4.resultTypes.toList) && (Rows.spaceReadsRow.loops == (Tryz.f4.params.toList ++ Rows.spaceReadsSpec.plain.varTypes Tryz.pinned.checked.prog).any (Tryz.pinned.checked.prog.loopsFrom ·)) && (Rows.spaceReadsRow.wideKeys == (Tryz.f4.params.toList ++ Rows.spaceReadsSpec.plain.varTypes Tryz.pinned.checked.prog ++ Tryz.f4.resultTypes.toList).any (Tryz.pinned.checked.prog.wideKeysFrom ·))) = true := by kernel_rfl
theorem spaceReads_facts4 : (Rows.spaceReadsSpec.vars.all (Tryz.pinned.checked.prog.varReadable ·) && Tryz.f4.resultTypes.all (fun t => Tryz.pinned.checked.prog.readableRec t && decide (t < Tryz.pinned.checked.prog.types.size)) && (Rows.spaceReadsRow.ifacesOut == Tryz.f4.resultTypes.toList.any (Tryz.pinned.checked.prog.ifacesRec ·)) && (Rows.spaceReadsRow.loopsOut == Tryz.f4.resultTypes.toList.any (Tryz.pinned.checked.prog.loopsFrom ·)) && (Rows.spaceReadsRow.plainKeys == Tryz.pinned.checked.prog.plainKeys) && Rows.spaceReadsRow.shortTexts.isNone) = true := by kernel_rfl
theorem spaceReads_facts5 : (Tryz.pinned.checked.prog.stopsHeard && Tryz.pinned.checked.prog.mayEnter && (Rows.spaceReadsRow.lifted == Tryz.pinned.checked.prog.liftsFinal) && (Tryz.pinned.checked.prog.make == some Rows.spaceReadsRow.make) && (Rows.spaceReadsRow.kinds == (if Rows.spaceReadsRow.domain.isEmpty then [] else Tryz.f4.params.toList.map fun t => match Tryz.pinned.checked.prog.underlying t with | some (.int k) => some k | _ => none)) && (Rows.spaceReadsRow.pinned == Rows.spaceReadsRow.pinnedBy) && (Rows.spaceReadsRow.veiled == (Tryz.f4.params.toList ++ Rows.spaceReadsSpec.plain.varTypes Tryz.pinned.checked.prog ++ Tryz.f4.resultTypes.toList).any (Tryz.pinned.checked.prog.veiledRec ·)) && Rows.spaceReadsRow.veiledFits Tryz.pinned.checked.prog Tryz.f4.params.toList (Tryz.f4.params.toList ++ Rows.spaceReadsSpec.plain.varTypes Tryz.pinned.checked.prog ++ Tryz.f4.resultTypes.toList)) = true := by kernel_rfl
set_option maxRecDepth 100000 in
theorem spaceReads_closed : joinedFacts Tryz.pinned.checked.prog 4 Tryz.f4 Rows.spaceReadsSpec Rows.spaceReadsRow = true := (band_t (band_t (band_t (band_t (band_t (band_t (band_t (band_t (band_t (band_t (band_t (band_t (band_t (band_t (band_t (band_t (band_t (band_t (band_t (band_t (band_t (band_t (band_t (band_t (band_t (band_t (band_t (band_t (band_t (band_t (band_t (band_l spaceReads_facts0) (band_r spaceReads_facts0)) (band_l (band_l (band_l (band_l (band_l (band_l (band_l spaceReads_facts1)))))))) (band_r (band_l (band_l (band_l (band_l (band_l (band_l spaceReads_facts1)))))))) (band_r (band_l (band_l (band_l (band_l (band_l spaceReads_facts1))))))) (band_r (band_l (band_l (band_l (band_l spaceReads_facts1)))))) (band_r (band_l (band_l (band_l spaceReads_facts1))))) (band_r (band_l (band_l spaceReads_facts1)))) (band_r (band_l spaceReads_facts1))) (band_r spaceReads_facts1)) (band_l spaceReads_facts2)) (band_r spaceReads_facts2)) (band_l (band_l (band_l (band_l (band_l spaceReads_facts3)))))) (band_r (band_l (band_l (band_l (band_l spaceReads_facts3)))))) (band_r (band_l (band_l (band_l spaceReads_facts3))))) (band_r (band_l (band_l spaceReads_facts3)))) (band_r (band_l spaceReads_facts3))) (band_r spaceReads_facts3)) (band_l (band_l (band_l (band_l (band_l spaceReads_facts4)))))) (band_r (band_l (band_l (band_l (band_l spaceReads_facts4)))))) (band_r (band_l (band_l (band_l spaceReads_facts4))))) (band_r (band_l (band_l spaceReads_facts4)))) (band_r (band_l spaceReads_facts4))) (band_r spaceReads_facts4)) (band_l (band_l (band_l (band_l (band_l (band_l (band_l spaceReads_facts5)))))))) (band_r (band_l (band_l (band_l (band_l (band_l (band_l spaceReads_facts5)))))))) (band_r (band_l (band_l (band_l (band_l (band_l spaceReads_facts5))))))) (band_r (band_l (band_l (band_l (band_l spaceReads_facts5)))))) (band_r (band_l (band_l (band_l spaceReads_facts5))))) (band_r (band_l (band_l spaceReads_facts5)))) (band_r (band_l spaceReads_facts5))) (band_r spaceReads_facts5))

theorem spaceReads_over : Rows.spaceReadsRow.holds Tryz.pinned (OpenSpec.ofChange Rows.spaceReadsSpec) :=
  OpenClaim.holds_of_wide 4 Tryz.f4 rfl rfl rfl rfl rfl rfl rfl ⟨rfl, rfl, rfl, rfl, rfl⟩ rfl rfl rfl rfl rfl (by kernel_rfl) Tryz.func4 spaceReads_closed
    (of_decide_eq_true (by kernel_rfl)) (by unfold Func.isWrapper; first | (rw [if_pos (by decide +kernel)]; kernel_rfl) | (rw [if_neg (by decide +kernel)]; exact ⟨rfl, rfl⟩))
    (fun os started H enc _ => spaceReads_lifted os started H enc)
end Go.Gb
namespace Go.Proofs.YtdlenbajhalknaaGreat
theorem spaceReads_holds : Rows.SpaceReadsSaid := Go.Gb.spaceReads_over
end Go.Proofs.YtdlenbajhalknaaGreat
#print axioms Go.Proofs.YtdlenbajhalknaaGreat.spaceReads_holds
