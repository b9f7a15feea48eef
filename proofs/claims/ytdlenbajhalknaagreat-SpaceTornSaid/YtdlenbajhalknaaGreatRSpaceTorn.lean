/- Own text for the seat: RSpaceTorn. -/
import Derived.Test.YtdlenbajhalknaaGreatRows
import Derived.Test.YtdlenbajhalknaaGreatA10
import Derived.Test.YtdlenbajhalknaaGreatA11
import Derived.Test.YtdlenbajhalknaaGreatB7
set_option linter.unusedVariables false
set_option linter.unusedSimpArgs false
set_option linter.unnecessarySimpa false
set_option linter.deprecated false
namespace Go.Gb
open Go.Proofs Go.Proofs.YtdlenbajhalknaaGreat
open Go.ChangeShapes Go.WideShapes Go.ChangeAt Go.RowKit
open Go.ChangeMaps (open_string shut_string)

theorem band_t {a b : Bool} (ha : a = true) (hb : b = true) : (a && b) = true := by rw [ha, hb]; rfl
theorem band_l {a b : Bool} (h : (a && b) = true) : a = true := by cases a with | true => rfl | false => exact h
theorem band_r {a b : Bool} (h : (a && b) = true) : b = true := by cases a with | true => exact h | false => cases h

set_option maxRecDepth 100000 in
theorem spaceTorn_lifted (os : Os) (started : os.Started) (H : Type) (enc : TypeId × Value → H) :
    ReturnsInHanded {} Tryz.checked os 5 .any (Rows.spaceTornSpec.pre6 enc Tryz.prog Tryz.f5 Rows.spaceTornRow.domain false) (Rows.spaceTornSpec.post enc Tryz.prog Tryz.f5 false true false false) := by
  refine lift (C := Tryz.checked) (rt := 4) (by kernel_rfl) started (by kernel_rfl) Tryz.func5
    (ChangeSpec.witness6 (enc := enc) (C := Tryz.checked) false ⟨#[], #[.agg #[.string ⟨#[]⟩, .string ⟨#[]⟩], .agg #[.int .u16 0, .int .u16 0, .int .u16 0], .int .u64 0], []⟩ 8 (by kernel_rfl) (by kernel_rfl) (by kernel_rfl) (by kernel_rfl))
    (by kernel_rfl) (by kernel_rfl) rfl (by kernel_rfl) (by kernel_rfl) (fun ds hd => by match ds, hd with | [d0, d1, d2], _ => rfl) ?_
  intro W base args ds ps hval hA hsz hfz
  have hval : ∀ (j : Nat) t v, (#[44, 45, 28] : Array Nat)[j]? = some t → args[j]? = some v → Value.okWide Tryz.prog W .any base t v := hval
  replace hA : DataW.TrodAll enc Tryz.prog W 0 (fun _ => true) true [44, 45, 28] args.toList ds ps := hA
  replace hsz : (DataW.weightsEach Tryz.prog [44, 45, 28] ds).all (· ≤ reachBytes) = true := hsz
  obtain ⟨v0, vs0, d0, ds0, p0, q0, hargs, rfl, rfl, h0, r0⟩ := trodAll_cons hA
  obtain ⟨v1, vs1, d1, ds1, p1, q1, rfl, rfl, rfl, h1, r1⟩ := trodAll_cons r0
  obtain ⟨v2, vs2, d2, ds2, p2, q2, rfl, rfl, rfl, h2, r2⟩ := trodAll_cons r1
  obtain ⟨rfl, rfl, rfl⟩ := trodAll_nil r2
  obtain rfl : args = #[v0, v1, v2] := by cases args; simp_all
  obtain ⟨a0, rfl, l0, w0⟩ := Go.Gb.open_strs (P := Tryz.prog) (t := 44) (e := 9) (n := 2) (by kernel_rfl) (by kernel_rfl) (by kernel_rfl) (by kernel_rfl) (hval 0 44 v0 rfl rfl) h0 hsz (j := 0) rfl rfl
  obtain ⟨a1, rfl, l1, w1⟩ := Go.Gb.open_ints (P := Tryz.prog) (t := 45) (e := 22) (n := 3) (k := .u16) (by kernel_rfl) (by kernel_rfl) (by kernel_rfl) (by kernel_rfl) (hval 1 45 v1 rfl rfl) h1
  obtain ⟨a2, rfl, -, -, w2⟩ := open_int (P := Tryz.prog) (t := 28) (k := .u64) (by kernel_rfl) (hval 2 28 v2 rfl rfl) h2
  have w2 := wf_lo w2
  exact C.below fun h hs hw => K5.law a0 l0 w0 a1 l1 w1 a2 w2 h 

theorem spaceTorn_facts0 : (Rows.spaceTornRow.wf (OpenSpec.ofChange Rows.spaceTornSpec) && laidOutB Tryz.pinned.checked.prog) = true := by kernel_rfl
theorem spaceTorn_facts1 : (mapsRowed Tryz.pinned.checked.prog && Tryz.f5.params.all (Tryz.pinned.checked.prog.readableRec ·) && namedTie Tryz.pinned.checked.prog Rows.spaceTornRow.named Rows.spaceTornSpec.vars && (Rows.spaceTornRow.stops == []) && (Tryz.pinned.checked.prog.stops == []) && (Rows.spaceTornRow.knobs == []) && (Tryz.pinned.checked.prog.stopKnobs == []) && (Rows.spaceTornRow.inPlace == Tryz.pinned.checked.prog.inPlace 5)) = true := by kernel_rfl
theorem spaceTorn_facts2 : ((Rows.spaceTornRow.unfollowed == Tryz.pinned.checked.prog.unfollowed 5) && (Rows.spaceTornRow.recurses == Tryz.pinned.checked.prog.recurses 5)) = true := by kernel_rfl
theorem spaceTorn_facts3 : ((Rows.spaceTornRow.named == Tryz.pinned.checked.prog.varsNamed 5) && (Rows.spaceTornRow.maps == (Tryz.f5.params.toList ++ Rows.spaceTornSpec.plain.varTypes Tryz.pinned.checked.prog).any (Tryz.pinned.checked.prog.mapsRec ·)) && (Rows.spaceTornRow.ifaces == (Tryz.f5.params.toList ++ Rows.spaceTornSpec.plain.varTypes Tryz.pinned.checked.prog).any (Tryz.pinned.checked.prog.ifacesRec ·)) && (Rows.spaceTornRow.mapsOut == Tryz.pinned.checked.prog.mapsAmong Tryz.f5.resultTypes.toList) && (Rows.spaceTornRow.loops == (Tryz.f5.params.toList ++ Rows.spaceTornSpec.plain.varTypes Tryz.pinned.checked.prog).any (Tryz.pinned.checked.prog.loopsFrom ·)) && (Rows.spaceTornRow.wideKeys == (Tryz.f5.params.toList ++ Rows.spaceTornSpec.plain.varTypes Tryz.pinned.checked.prog ++ Tryz.f5.resultTypes.toList).any (Tryz.pinned.checked.prog.wideKeysFrom ·))) = true := by kernel_rfl
theorem spaceTorn_facts4 : (Rows.spaceTornSpec.vars.all (Tryz.pinned.checked.prog.varReadable ·) && Tryz.f5.resultTypes.all (fun t => Tryz.pinned.checked.prog.readableRec t && decide (t < Tryz.pinned.checked.prog.types.size)) && (Rows.spaceTornRow.ifacesOut == Tryz.f5.resultTypes.toList.any (Tryz.pinned.checked.prog.ifacesRec ·)) && (Rows.spaceTornRow.loopsOut == Tryz.f5.resultTypes.toList.any (Tryz.pinned.checked.prog.loopsFrom ·)) && (Rows.spaceTornRow.plainKeys == Tryz.pinned.checked.prog.plainKeys) && Rows.spaceTornRow.shortTexts.isNone) = true := by kernel_rfl
theorem spaceTorn_facts5 : (Tryz.pinned.checked.prog.stopsHeard && Tryz.pinned.checked.prog.mayEnter && (Rows.spaceTornRow.lifted == Tryz.pinned.checked.prog.liftsFinal) && (Tryz.pinned.checked.prog.make == some Rows.spaceTornRow.make) && (Rows.spaceTornRow.kinds == (if Rows.spaceTornRow.domain.isEmpty then [] else Tryz.f5.params.toList.map fun t => match Tryz.pinned.checked.prog.underlying t with | some (.int k) => some k | _ => none)) && (Rows.spaceTornRow.pinned == Rows.spaceTornRow.pinnedBy) && (Rows.spaceTornRow.veiled == (Tryz.f5.params.toList ++ Rows.spaceTornSpec.plain.varTypes Tryz.pinned.checked.prog ++ Tryz.f5.resultTypes.toList).any (Tryz.pinned.checked.prog.veiledRec ·)) && Rows.spaceTornRow.veiledFits Tryz.pinned.checked.prog Tryz.f5.params.toList (Tryz.f5.params.toList ++ Rows.spaceTornSpec.plain.varTypes Tryz.pinned.checked.prog ++ Tryz.f5.resultTypes.toList)) = true := by kernel_rfl
set_option maxRecDepth 100000 in
theorem spaceTorn_closed : joinedFacts Tryz.pinned.checked.prog 5 Tryz.f5 Rows.spaceTornSpec Rows.spaceTornRow = true := (band_t (band_t (band_t (band_t (band_t (band_t (band_t (band_t (band_t (band_t (band_t (band_t (band_t (band_t (band_t (band_t (band_t (band_t (band_t (band_t (band_t (band_t (band_t (band_t (band_t (band_t (band_t (band_t (band_t (band_t (band_t (band_l spaceTorn_facts0) (band_r spaceTorn_facts0)) (band_l (band_l (band_l (band_l (band_l (band_l (band_l spaceTorn_facts1)))))))) (band_r (band_l (band_l (band_l (band_l (band_l (band_l spaceTorn_facts1)))))))) (band_r (band_l (band_l (band_l (band_l (band_l spaceTorn_facts1))))))) (band_r (band_l (band_l (band_l (band_l spaceTorn_facts1)))))) (band_r (band_l (band_l (band_l spaceTorn_facts1))))) (band_r (band_l (band_l spaceTorn_facts1)))) (band_r (band_l spaceTorn_facts1))) (band_r spaceTorn_facts1)) (band_l spaceTorn_facts2)) (band_r spaceTorn_facts2)) (band_l (band_l (band_l (band_l (band_l spaceTorn_facts3)))))) (band_r (band_l (band_l (band_l (band_l spaceTorn_facts3)))))) (band_r (band_l (band_l (band_l spaceTorn_facts3))))) (band_r (band_l (band_l spaceTorn_facts3)))) (band_r (band_l spaceTorn_facts3))) (band_r spaceTorn_facts3)) (band_l (band_l (band_l (band_l (band_l spaceTorn_facts4)))))) (band_r (band_l (band_l (band_l (band_l spaceTorn_facts4)))))) (band_r (band_l (band_l (band_l spaceTorn_facts4))))) (band_r (band_l (band_l spaceTorn_facts4)))) (band_r (band_l spaceTorn_facts4))) (band_r spaceTorn_facts4)) (band_l (band_l (band_l (band_l (band_l (band_l (band_l spaceTorn_facts5)))))))) (band_r (band_l (band_l (band_l (band_l (band_l (band_l spaceTorn_facts5)))))))) (band_r (band_l (band_l (band_l (band_l (band_l spaceTorn_facts5))))))) (band_r (band_l (band_l (band_l (band_l spaceTorn_facts5)))))) (band_r (band_l (band_l (band_l spaceTorn_facts5))))) (band_r (band_l (band_l spaceTorn_facts5)))) (band_r (band_l spaceTorn_facts5))) (band_r spaceTorn_facts5))

theorem spaceTorn_over : Rows.spaceTornRow.holds Tryz.pinned (OpenSpec.ofChange Rows.spaceTornSpec) :=
  OpenClaim.holds_of_wide 5 Tryz.f5 rfl rfl rfl rfl rfl rfl rfl ⟨rfl, rfl, rfl, rfl, rfl⟩ rfl rfl rfl rfl rfl (by kernel_rfl) Tryz.func5 spaceTorn_closed
    (of_decide_eq_true (by kernel_rfl)) (by unfold Func.isWrapper; first | (rw [if_pos (by decide +kernel)]; kernel_rfl) | (rw [if_neg (by decide +kernel)]; exact ⟨rfl, rfl⟩))
    (fun os started H enc _ => spaceTorn_lifted os started H enc)
end Go.Gb
namespace Go.Proofs.YtdlenbajhalknaaGreat
theorem spaceTorn_holds : Rows.SpaceTornSaid := Go.Gb.spaceTorn_over
end Go.Proofs.YtdlenbajhalknaaGreat
#print axioms Go.Proofs.YtdlenbajhalknaaGreat.spaceTorn_holds
