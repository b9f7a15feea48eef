/- Own text for the seat: RPathParses. -/
import Derived.Test.YtcccjpahikgibaaDoorRows
import Derived.Test.YtcccjpahikgibaaDoorCards
import Derived.Test.YtcccjpahikgibaaDoorTie
import Derived.Test.YtcccjpahikgibaaDoorA14
import Derived.Stop.Joined
import Derived.Test.YtcccjpahikgibaaDoorA12
import Derived.Test.YtcccjpahikgibaaDoorA13
import Derived.Test.YtcccjpahikgibaaDoorB4
set_option linter.unusedVariables false
set_option linter.unusedSimpArgs false
set_option linter.unnecessarySimpa false
set_option linter.deprecated false
namespace Go.Gb
open Go.Proofs Go.Proofs.YtcccjpahikgibaaDoor
open Go.ChangeShapes Go.WideShapes Go.ChangeAt Go.RowKit
open Go.ChangeMaps (open_string shut_string)

theorem band_t {a b : Bool} (ha : a = true) (hb : b = true) : (a && b) = true := by rw [ha, hb]; rfl
theorem band_l {a b : Bool} (h : (a && b) = true) : a = true := by cases a with | true => rfl | false => exact h
theorem band_r {a b : Bool} (h : (a && b) = true) : b = true := by cases a with | true => exact h | false => cases h

set_option maxRecDepth 100000 in
theorem pathParses_lifted (os : Os) (started : os.Started) (H : Type) (enc : TypeId × Value → H) :
    ReturnsInHanded {} Tryd.checked os 3 .any (fun w args => (Rows.pathParsesSpec.pre enc Tryd.prog Tryd.f3 Rows.pathParsesRow.domain false w args ∧ laidMetH Tryd.prog Rows.pathParsesRow.laid w) ∧ sizedMet enc Tryd.prog Tryd.f3 (OpenSpec.ofChange Rows.pathParsesSpec) false w args) (Rows.pathParsesSpec.post enc Tryd.prog Tryd.f3 false true false false) := by
  refine liftX (C := Tryd.checked) (X := fun w _ => laidMetH Tryd.prog Rows.pathParsesRow.laid w) (rt := 4) (fun _ _ _ hh h => h.of_heap hh) (by kernel_rfl) started (by kernel_rfl) Tryd.func3
    (ChangeSpec.witness_shaped (enc := enc) (C := Tryd.checked) (os := os) (X := fun w _ => laidMetH Tryd.prog Rows.pathParsesRow.laid w) false (World.laidAll Tryd.prog os Rows.pathParsesRow.laid) #[.string ⟨#[]⟩] 8 (World.laidAll_os _ _ _)
      (World.shaped_of_ZipB (by kernel_rfl) (by kernel_rfl)) (by kernel_rfl) (by kernel_rfl) (by kernel_rfl)
      (by rw [MakeChecks.laidMetH_plain _ _ _ (by kernel_rfl)]; exact laidMet_laidAll _ (by kernel_rfl) (by kernel_rfl)))
    (by kernel_rfl) (by kernel_rfl) rfl (by kernel_rfl) (by kernel_rfl) (fun ds hd => by match ds, hd with | [d0], _ => rfl) ?_
  intro W base args ds ps hval hA hsz hfz
  have hval : ∀ (j : Nat) t v, (#[9] : Array Nat)[j]? = some t → args[j]? = some v → Value.okWide Tryd.prog W .any base t v := hval
  replace hA : DataW.TrodAll enc Tryd.prog W 0 (fun _ => true) true [9] args.toList ds ps := hA
  replace hsz : (DataW.weightsEach Tryd.prog [9] ds).all (· ≤ reachBytes) = true := hsz
  obtain ⟨v0, vs0, d0, ds0, p0, q0, hargs, rfl, rfl, h0, r0⟩ := trodAll_cons hA
  obtain ⟨rfl, rfl, rfl⟩ := trodAll_nil r0
  obtain rfl : args = #[v0] := by cases args; simp_all
  obtain ⟨a0, rfl, rfl, -, -⟩ := open_string (P := Tryd.prog) (t := 9) (by kernel_rfl) (hval 0 9 v0 rfl rfl) h0
  have w0 : a0.size ≤ 140737488351232 := by
    have z := sized_string hsz (j := 0) (t := 9) rfl rfl
    rw [Array.length_toList] at z
    exact z
  exact C.below fun h hs hw => gabionlaw18_PathParses.law a0 w0 h 

theorem pathParses_facts0 : (Rows.pathParsesRow.wf (OpenSpec.ofChange Rows.pathParsesSpec) && laidOutB Tryd.pinned.checked.prog) = true := by kernel_rfl
theorem pathParses_facts1 : (mapsRowed Tryd.pinned.checked.prog && Tryd.f3.params.all (Tryd.pinned.checked.prog.readableRec ·) && namedTie Tryd.pinned.checked.prog Rows.pathParsesRow.named Rows.pathParsesSpec.vars && (Rows.pathParsesRow.stops == []) && (Tryd.pinned.checked.prog.stops == []) && (Rows.pathParsesRow.knobs == []) && (Tryd.pinned.checked.prog.stopKnobs == []) && (Rows.pathParsesRow.inPlace == Tryd.pinned.checked.prog.inPlace 3)) = true := by kernel_rfl
theorem pathParses_facts2 : ((Rows.pathParsesRow.unfollowed == Tryd.pinned.checked.prog.unfollowed 3) && (Rows.pathParsesRow.recurses == Tryd.pinned.checked.prog.recurses 3)) = true := by kernel_rfl
theorem pathParses_facts3 : ((Rows.pathParsesRow.named == Tryd.pinned.checked.prog.varsNamed 3) && (Rows.pathParsesRow.maps == (Tryd.f3.params.toList ++ Rows.pathParsesSpec.plain.varTypes Tryd.pinned.checked.prog).any (Tryd.pinned.checked.prog.mapsRec ·)) && (Rows.pathParsesRow.ifaces == (Tryd.f3.params.toList ++ Rows.pathParsesSpec.plain.varTypes Tryd.pinned.checked.prog).any (Tryd.pinned.checked.prog.ifacesRec ·)) && (Rows.pathParsesRow.mapsOut == Tryd.pinned.checked.prog.mapsAmong Tryd.f3.resultTypes.toList) && (Rows.pathParsesRow.loops == (Tryd.f3.params.toList ++ Rows.pathParsesSpec.plain.varTypes Tryd.pinned.checked.prog).any (Tryd.pinned.checked.prog.loopsFrom ·)) && (Rows.pathParsesRow.wideKeys == (Tryd.f3.params.toList ++ Rows.pathParsesSpec.plain.varTypes Tryd.pinned.checked.prog ++ Tryd.f3.resultTypes.toList).any (Tryd.pinned.checked.prog.wideKeysFrom ·))) = true := by kernel_rfl
theorem pathParses_facts4 : (Rows.pathParsesSpec.vars.all (Tryd.pinned.checked.prog.varReadable ·) && Tryd.f3.resultTypes.all (fun t => Tryd.pinned.checked.prog.readableRec t && decide (t < Tryd.pinned.checked.prog.types.size)) && (Rows.pathParsesRow.ifacesOut == Tryd.f3.resultTypes.toList.any (Tryd.pinned.checked.prog.ifacesRec ·)) && (Rows.pathParsesRow.loopsOut == Tryd.f3.resultTypes.toList.any (Tryd.pinned.checked.prog.loopsFrom ·)) && (Rows.pathParsesRow.plainKeys == Tryd.pinned.checked.prog.plainKeys) && Rows.pathParsesRow.shortTexts.isNone) = true := by kernel_rfl
theorem pathParses_facts5 : (Tryd.pinned.checked.prog.stopsHeard && Tryd.pinned.checked.prog.mayEnter && (Rows.pathParsesRow.lifted == Tryd.pinned.checked.prog.liftsFinal) && (Tryd.pinned.checked.prog.make == some Rows.pathParsesRow.make) && (Rows.pathParsesRow.kinds == (if Rows.pathParsesRow.domain.isEmpty then [] else Tryd.f3.params.toList.map fun t => match Tryd.pinned.checked.prog.underlying t with | some (.int k) => some k | _ => none)) && (Rows.pathParsesRow.pinned == Rows.pathParsesRow.pinnedBy) && (Rows.pathParsesRow.veiled == (Tryd.f3.params.toList ++ Rows.pathParsesSpec.plain.varTypes Tryd.pinned.checked.prog ++ Tryd.f3.resultTypes.toList).any (Tryd.pinned.checked.prog.veiledRec ·)) && Rows.pathParsesRow.veiledFits Tryd.pinned.checked.prog Tryd.f3.params.toList (Tryd.f3.params.toList ++ Rows.pathParsesSpec.plain.varTypes Tryd.pinned.checked.prog ++ Tryd.f3.resultTypes.toList)) = true := by kernel_rfl
set_option maxRecDepth 100000 in
theorem pathParses_closed : joinedFacts Tryd.pinned.checked.prog 3 Tryd.f3 Rows.pathParsesSpec Rows.pathParsesRow = true := (band_t (band_t (band_t (band_t (band_t (band_t (band_t (band_t (band_t (band_t (band_t (band_t (band_t (band_t (band_t (band_t (band_t (band_t (band_t (band_t (band_t (band_t (band_t (band_t (band_t (band_t (band_t (band_t (band_t (band_t (band_t (band_l pathParses_facts0) (band_r pathParses_facts0)) (band_l (band_l (band_l (band_l (band_l (band_l (band_l pathParses_facts1)))))))) (band_r (band_l (band_l (band_l (band_l (band_l (band_l pathParses_facts1)))))))) (band_r (band_l (band_l (band_l (band_l (band_l pathParses_facts1))))))) (band_r (band_l (band_l (band_l (band_l pathParses_facts1)))))) (band_r (band_l (band_l (band_l pathParses_facts1))))) (band_r (band_l (band_l pathParses_facts1)))) (band_r (band_l pathParses_facts1))) (band_r pathParses_facts1)) (band_l pathParses_facts2)) (band_r pathParses_facts2)) (band_l (band_l (band_l (band_l (band_l pathParses_facts3)))))) (band_r (band_l (band_l (band_l (band_l pathParses_facts3)))))) (band_r (band_l (band_l (band_l pathParses_facts3))))) (band_r (band_l (band_l pathParses_facts3)))) (band_r (band_l pathParses_facts3))) (band_r pathParses_facts3)) (band_l (band_l (band_l (band_l (band_l pathParses_facts4)))))) (band_r (band_l (band_l (band_l (band_l pathParses_facts4)))))) (band_r (band_l (band_l (band_l pathParses_facts4))))) (band_r (band_l (band_l pathParses_facts4)))) (band_r (band_l pathParses_facts4))) (band_r pathParses_facts4)) (band_l (band_l (band_l (band_l (band_l (band_l (band_l pathParses_facts5)))))))) (band_r (band_l (band_l (band_l (band_l (band_l (band_l pathParses_facts5)))))))) (band_r (band_l (band_l (band_l (band_l (band_l pathParses_facts5))))))) (band_r (band_l (band_l (band_l (band_l pathParses_facts5)))))) (band_r (band_l (band_l (band_l pathParses_facts5))))) (band_r (band_l (band_l pathParses_facts5)))) (band_r (band_l pathParses_facts5))) (band_r pathParses_facts5))

theorem pathParses_over : Rows.pathParsesRow.holds Tryd.pinned (OpenSpec.ofChange Rows.pathParsesSpec) :=
  OpenClaim.holds_of_wide 3 Tryd.f3 rfl rfl rfl rfl rfl rfl rfl ⟨rfl, rfl, rfl, rfl, rfl⟩ rfl rfl rfl rfl rfl (by kernel_rfl) Tryd.func3 pathParses_closed
    (of_decide_eq_true (by kernel_rfl)) (by unfold Func.isWrapper; first | (rw [if_pos (by decide +kernel)]; kernel_rfl) | (rw [if_neg (by decide +kernel)]; exact ⟨rfl, rfl⟩))
    (fun os started H enc _ => pathParses_lifted os started H enc)
end Go.Gb
namespace Go.Proofs.YtcccjpahikgibaaDoor
open Go
theorem pathParses_row_holds : Rows.PathParsesSaid := Go.Gb.pathParses_over
set_option maxRecDepth 100000 in
theorem pathParses_card_holds : Rows.PathParsesCardSaid :=
  Claim7.holds_tied_plain_at .later [] [.data, .pinned] true (true, "7d38452d88b03a32c579de485d8237651618c55d3a8606884839339dd8f6f06d") false pathParses_row_holds (fun _ h => by cases h) (by kernel_rfl) (fun _ h => by cases h) pathParses_row_tie rfl ⟨rfl, rfl⟩ (by kernel_rfl) rfl
    (fun f fn hf hfn => by
      obtain rfl : f = 3 := Option.some.inj ((show Tryd.prog.funcNamed "gabion/gabionlaw18.PathParses" = some 3 by kernel_rfl).symm.trans hf) |>.symm
      obtain rfl : fn = Tryd.f3 := (Option.some.inj (Tryd.func3.symm.trans hfn)).symm
      exact ⟨by kernel_rfl, fun j t ht => by
        have ht : (#[9] : Array Nat)[j]? = some t := ht
        have hm : t ∈ [9] := by simpa using Array.mem_of_getElem? ht
        have hall : ([9].all fun u => !Tryd.prog.wantsStandIn u) = true := by kernel_rfl
        exact (show Tryd.prog.wantsStandIn t = false by simpa using List.all_eq_true.1 hall t hm)⟩)
    (by kernel_rfl)
end Go.Proofs.YtcccjpahikgibaaDoor
#print axioms Go.Proofs.YtcccjpahikgibaaDoor.pathParses_card_holds
