/- Own text for the seat: RPathJoins. -/
import Derived.Test.YtcccjpahikgibaaDoorRows
import Derived.Test.YtcccjpahikgibaaDoorCards
import Derived.Test.YtcccjpahikgibaaDoorTie
import Derived.Test.YtcccjpahikgibaaDoorA14
import Derived.Stop.Joined
import Derived.Test.YtcccjpahikgibaaDoorA12
import Derived.Test.YtcccjpahikgibaaDoorA13
import Derived.Test.YtcccjpahikgibaaDoorB4
set_option linter.unusedVariables false
set_option linter.unusedSimpArgs false
set_option linter.unnecessarySimpa false
set_option linter.deprecated false
namespace Go.Gb
open Go.Proofs Go.Proofs.YtcccjpahikgibaaDoor
open Go.ChangeShapes Go.WideShapes Go.ChangeAt Go.RowKit
open Go.ChangeMaps (open_string shut_string)

theorem band_t {a b : Bool} (ha : a = true) (hb : b = true) : (a && b) = true := by rw [ha, hb]; rfl
theorem band_l {a b : Bool} (h : (a && b) = true) : a = true := by cases a with | true => rfl | false => exact h
theorem band_r {a b : Bool} (h : (a && b) = true) : b = true := by cases a with | true => exact h | false => cases h

set_option maxRecDepth 100000 in
theorem pathJoins_lifted (os : Os) (started : os.Started) (H : Type) (enc : TypeId × Value → H) :
    ReturnsInHanded {} Tryd.checked os 6 .any (fun w args => (Rows.pathJoinsSpec.pre enc Tryd.prog Tryd.f6 Rows.pathJoinsRow.domain false w args ∧ laidMetH Tryd.prog Rows.pathJoinsRow.laid w) ∧ sizedMet enc Tryd.prog Tryd.f6 (OpenSpec.ofChange Rows.pathJoinsSpec) false w args) (Rows.pathJoinsSpec.post enc Tryd.prog Tryd.f6 false true false false) := by
  refine liftX (C := Tryd.checked) (X := fun w _ => laidMetH Tryd.prog Rows.pathJoinsRow.laid w) (rt := 4) (fun _ _ _ hh h => h.of_heap hh) (by kernel_rfl) started (by kernel_rfl) Tryd.func6
    (ChangeSpec.witness_shaped (enc := enc) (C := Tryd.checked) (os := os) (X := fun w _ => laidMetH Tryd.prog Rows.pathJoinsRow.laid w) false (World.laidAll Tryd.prog os Rows.pathJoinsRow.laid) #[.string ⟨#[]⟩, .string ⟨#[]⟩] 8 (World.laidAll_os _ _ _)
      (World.shaped_of_ZipB (by kernel_rfl) (by kernel_rfl)) (by kernel_rfl) (by kernel_rfl) (by kernel_rfl)
      (by rw [MakeChecks.laidMetH_plain _ _ _ (by kernel_rfl)]; exact laidMet_laidAll _ (by kernel_rfl) (by kernel_rfl)))
    (by kernel_rfl) (by kernel_rfl) rfl (by kernel_rfl) (by kernel_rfl) (fun ds hd => by match ds, hd with | [d0, d1], _ => rfl) ?_
  intro W base args ds ps hval hA hsz hfz
  have hval : ∀ (j : Nat) t v, (#[9, 9] : Array Nat)[j]? = some t → args[j]? = some v → Value.okWide Tryd.prog W .any base t v := hval
  replace hA : DataW.TrodAll enc Tryd.prog W 0 (fun _ => true) true [9, 9] args.toList ds ps := hA
  replace hsz : (DataW.weightsEach Tryd.prog [9, 9] ds).all (· ≤ reachBytes) = true := hsz
  obtain ⟨v0, vs0, d0, ds0, p0, q0, hargs, rfl, rfl, h0, r0⟩ := trodAll_cons hA
  obtain ⟨v1, vs1, d1, ds1, p1, q1, rfl, rfl, rfl, h1, r1⟩ := trodAll_cons r0
  obtain ⟨rfl, rfl, rfl⟩ := trodAll_nil r1
  obtain rfl : args = #[v0, v1] := by cases args; simp_all
  obtain ⟨a0, rfl, rfl, -, -⟩ := open_string (P := Tryd.prog) (t := 9) (by kernel_rfl) (hval 0 9 v0 rfl rfl) h0
  have w0 : a0.size ≤ 140737488351232 := by
    have z := sized_string hsz (j := 0) (t := 9) rfl rfl
    rw [Array.length_toList] at z
    exact z
  obtain ⟨a1, rfl, rfl, -, -⟩ := open_string (P := Tryd.prog) (t := 9) (by kernel_rfl) (hval 1 9 v1 rfl rfl) h1
  have w1 : a1.size ≤ 140737488351232 := by
    have z := sized_string hsz (j := 1) (t := 9) rfl rfl
    rw [Array.length_toList] at z
    exact z
  exact C.below fun h hs hw => gabionlaw18_PathJoins.law a0 w0 a1 w1 h 

theorem pathJoins_facts0 : (Rows.pathJoinsRow.wf (OpenSpec.ofChange Rows.pathJoinsSpec) && laidOutB Tryd.pinned.checked.prog) = true := by kernel_rfl
theorem pathJoins_facts1 : (mapsRowed Tryd.pinned.checked.prog && Tryd.f6.params.all (Tryd.pinned.checked.prog.readableRec ·) && namedTie Tryd.pinned.checked.prog Rows.pathJoinsRow.named Rows.pathJoinsSpec.vars && (Rows.pathJoinsRow.stops == []) && (Tryd.pinned.checked.prog.stops == []) && (Rows.pathJoinsRow.knobs == []) && (Tryd.pinned.checked.prog.stopKnobs == []) && (Rows.pathJoinsRow.inPlace == Tryd.pinned.checked.prog.inPlace 6)) = true := by kernel_rfl
theorem pathJoins_facts2 : ((Rows.pathJoinsRow.unfollowed == Tryd.pinned.checked.prog.unfollowed 6) && (Rows.pathJoinsRow.recurses == Tryd.pinned.checked.prog.recurses 6)) = true := by kernel_rfl
theorem pathJoins_facts3 : ((Rows.pathJoinsRow.named == Tryd.pinned.checked.prog.varsNamed 6) && (Rows.pathJoinsRow.maps == (Tryd.f6.params.toList ++ Rows.pathJoinsSpec.plain.varTypes Tryd.pinned.checked.prog).any (Tryd.pinned.checked.prog.mapsRec ·)) && (Rows.pathJoinsRow.ifaces == (Tryd.f6.params.toList ++ Rows.pathJoinsSpec.plain.varTypes Tryd.pinned.checked.prog).any (Tryd.pinned.checked.prog.ifacesRec ·)) && (Rows.pathJoinsRow.mapsOut == Tryd.pinned.checked.prog.mapsAmong Tryd.f6.resultTypes.toList) && (Rows.pathJoinsRow.loops == (Tryd.f6.params.toList ++ Rows.pathJoinsSpec.plain.varTypes Tryd.pinned.checked.prog).any (Tryd.pinned.checked.prog.loopsFrom ·)) && (Rows.pathJoinsRow.wideKeys == (Tryd.f6.params.toList ++ Rows.pathJoinsSpec.plain.varTypes Tryd.pinned.checked.prog ++ Tryd.f6.resultTypes.toList).any (Tryd.pinned.checked.prog.wideKeysFrom ·))) = true := by kernel_rfl
theorem pathJoins_facts4 : (Rows.pathJoinsSpec.vars.all (Tryd.pinned.checked.prog.varReadable ·) && Tryd.f6.resultTypes.all (fun t => Tryd.pinned.checked.prog.readableRec t && decide (t < Tryd.pinned.checked.prog.types.size)) && (Rows.pathJoinsRow.ifacesOut == Tryd.f6.resultTypes.toList.any (Tryd.pinned.checked.prog.ifacesRec ·)) && (Rows.pathJoinsRow.loopsOut == Tryd.f6.resultTypes.toList.any (Tryd.pinned.checked.prog.loopsFrom ·)) && (Rows.pathJoinsRow.plainKeys == Tryd.pinned.checked.prog.plainKeys) && Rows.pathJoinsRow.shortTexts.isNone) = true := by kernel_rfl
theorem pathJoins_facts5 : (Tryd.pinned.checked.prog.stopsHeard && Tryd.pinned.checked.prog.mayEnter && (Rows.pathJoinsRow.lifted == Tryd.pinned.checked.prog.liftsFinal) && (Tryd.pinned.checked.prog.make == some Rows.pathJoinsRow.make) && (Rows.pathJoinsRow.kinds == (if Rows.pathJoinsRow.domain.isEmpty then [] else Tryd.f6.params.toList.map fun t => match Tryd.pinned.checked.prog.underlying t with | some (.int k) => some k | _ => none)) && (Rows.pathJoinsRow.pinned == Rows.pathJoinsRow.pinnedBy) && (Rows.pathJoinsRow.veiled == (Tryd.f6.params.toList ++ Rows.pathJoinsSpec.plain.varTypes Tryd.pinned.checked.prog ++ Tryd.f6.resultTypes.toList).any (Tryd.pinned.checked.prog.veiledRec ·)) && Rows.pathJoinsRow.veiledFits Tryd.pinned.checked.prog Tryd.f6.params.toList (Tryd.f6.params.toList ++ Rows.pathJoinsSpec.plain.varTypes Tryd.pinned.checked.prog ++ Tryd.f6.resultTypes.toList)) = true := by kernel_rfl
set_option maxRecDepth 100000 in
theorem pathJoins_closed : joinedFacts Tryd.pinned.checked.prog 6 Tryd.f6 Rows.pathJoinsSpec Rows.pathJoinsRow = true := (band_t (band_t (band_t (band_t (band_t (band_t (band_t (band_t (band_t (band_t (band_t (band_t (band_t (band_t (band_t (band_t (band_t (band_t (band_t (band_t (band_t (band_t (band_t (band_t (band_t (band_t (band_t (band_t (band_t (band_t (band_t (band_l pathJoins_facts0) (band_r pathJoins_facts0)) (band_l (band_l (band_l (band_l (band_l (band_l (band_l pathJoins_facts1)))))))) (band_r (band_l (band_l (band_l (band_l (band_l (band_l pathJoins_facts1)))))))) (band_r (band_l (band_l (band_l (band_l (band_l pathJoins_facts1))))))) (band_r (band_l (band_l (band_l (band_l pathJoins_facts1)))))) (band_r (band_l (band_l (band_l pathJoins_facts1))))) (band_r (band_l (band_l pathJoins_facts1)))) (band_r (band_l pathJoins_facts1))) (band_r pathJoins_facts1)) (band_l pathJoins_facts2)) (band_r pathJoins_facts2)) (band_l (band_l (band_l (band_l (band_l pathJoins_facts3)))))) (band_r (band_l (band_l (band_l (band_l pathJoins_facts3)))))) (band_r (band_l (band_l (band_l pathJoins_facts3))))) (band_r (band_l (band_l pathJoins_facts3)))) (band_r (band_l pathJoins_facts3))) (band_r pathJoins_facts3)) (band_l (band_l (band_l (band_l (band_l pathJoins_facts4)))))) (band_r (band_l (band_l (band_l (band_l pathJoins_facts4)))))) (band_r (band_l (band_l (band_l pathJoins_facts4))))) (band_r (band_l (band_l pathJoins_facts4)))) (band_r (band_l pathJoins_facts4))) (band_r pathJoins_facts4)) (band_l (band_l (band_l (band_l (band_l (band_l (band_l pathJoins_facts5)))))))) (band_r (band_l (band_l (band_l (band_l (band_l (band_l pathJoins_facts5)))))))) (band_r (band_l (band_l (band_l (band_l (band_l pathJoins_facts5))))))) (band_r (band_l (band_l (band_l (band_l pathJoins_facts5)))))) (band_r (band_l (band_l (band_l pathJoins_facts5))))) (band_r (band_l (band_l pathJoins_facts5)))) (band_r (band_l pathJoins_facts5))) (band_r pathJoins_facts5))

theorem pathJoins_over : Rows.pathJoinsRow.holds Tryd.pinned (OpenSpec.ofChange Rows.pathJoinsSpec) :=
  OpenClaim.holds_of_wide 6 Tryd.f6 rfl rfl rfl rfl rfl rfl rfl ⟨rfl, rfl, rfl, rfl, rfl⟩ rfl rfl rfl rfl rfl (by kernel_rfl) Tryd.func6 pathJoins_closed
    (of_decide_eq_true (by kernel_rfl)) (by unfold Func.isWrapper; first | (rw [if_pos (by decide +kernel)]; kernel_rfl) | (rw [if_neg (by decide +kernel)]; exact ⟨rfl, rfl⟩))
    (fun os started H enc _ => pathJoins_lifted os started H enc)
end Go.Gb
namespace Go.Proofs.YtcccjpahikgibaaDoor
open Go
theorem pathJoins_row_holds : Rows.PathJoinsSaid := Go.Gb.pathJoins_over
set_option maxRecDepth 100000 in
theorem pathJoins_card_holds : Rows.PathJoinsCardSaid :=
  Claim7.holds_tied_plain_at .later [] [.data, .pinned] true (true, "7d38452d88b03a32c579de485d8237651618c55d3a8606884839339dd8f6f06d") false pathJoins_row_holds (fun _ h => by cases h) (by kernel_rfl) (fun _ h => by cases h) pathJoins_row_tie rfl ⟨rfl, rfl⟩ (by kernel_rfl) rfl
    (fun f fn hf hfn => by
      obtain rfl : f = 6 := Option.some.inj ((show Tryd.prog.funcNamed "gabion/gabionlaw18.PathJoins" = some 6 by kernel_rfl).symm.trans hf) |>.symm
      obtain rfl : fn = Tryd.f6 := (Option.some.inj (Tryd.func6.symm.trans hfn)).symm
      exact ⟨by kernel_rfl, fun j t ht => by
        have ht : (#[9, 9] : Array Nat)[j]? = some t := ht
        have hm : t ∈ [9, 9] := by simpa using Array.mem_of_getElem? ht
        have hall : ([9, 9].all fun u => !Tryd.prog.wantsStandIn u) = true := by kernel_rfl
        exact (show Tryd.prog.wantsStandIn t = false by simpa using List.all_eq_true.1 hall t hm)⟩)
    (by kernel_rfl)
end Go.Proofs.YtcccjpahikgibaaDoor
#print axioms Go.Proofs.YtcccjpahikgibaaDoor.pathJoins_card_holds
