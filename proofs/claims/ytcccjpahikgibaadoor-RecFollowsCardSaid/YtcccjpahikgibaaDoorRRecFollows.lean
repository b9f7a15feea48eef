/- Own text for the seat: RRecFollows. -/
import Derived.Test.YtcccjpahikgibaaDoorRows
import Derived.Test.YtcccjpahikgibaaDoorCards
import Derived.Test.YtcccjpahikgibaaDoorTie
import Derived.Test.YtcccjpahikgibaaDoorA14
import Derived.Stop.Joined
import Derived.Test.YtcccjpahikgibaaDoorA12
import Derived.Test.YtcccjpahikgibaaDoorA13
import Derived.Test.YtcccjpahikgibaaDoorB7
set_option linter.unusedVariables false
set_option linter.unusedSimpArgs false
set_option linter.unnecessarySimpa false
set_option linter.deprecated false
namespace Go.Gb
open Go.Proofs Go.Proofs.YtcccjpahikgibaaDoor
open Go.ChangeShapes Go.WideShapes Go.ChangeAt Go.RowKit
open Go.ChangeMaps (open_string shut_string)

theorem band_t {a b : Bool} (ha : a = true) (hb : b = true) : (a && b) = true := by rw [ha, hb]; rfl
theorem band_l {a b : Bool} (h : (a && b) = true) : a = true := by cases a with | true => rfl | false => exact h
theorem band_r {a b : Bool} (h : (a && b) = true) : b = true := by cases a with | true => exact h | false => cases h

set_option maxRecDepth 100000 in
theorem recFollows_lifted (os : Os) (started : os.Started) (H : Type) (enc : TypeId × Value → H) :
    ReturnsInHanded {} Tryd.checked os 8 .any (fun w args => (Rows.recFollowsSpec.pre enc Tryd.prog Tryd.f8 Rows.recFollowsRow.domain false w args ∧ laidMetH Tryd.prog Rows.recFollowsRow.laid w) ∧ sizedMet enc Tryd.prog Tryd.f8 (OpenSpec.ofChange Rows.recFollowsSpec) false w args) (Rows.recFollowsSpec.post enc Tryd.prog Tryd.f8 false true false false) := by
  refine liftX (C := Tryd.checked) (X := fun w _ => laidMetH Tryd.prog Rows.recFollowsRow.laid w) (rt := 4) (fun _ _ _ hh h => h.of_heap hh) (by kernel_rfl) started (by kernel_rfl) Tryd.func8
    (ChangeSpec.witness_shaped (enc := enc) (C := Tryd.checked) (os := os) (X := fun w _ => laidMetH Tryd.prog Rows.recFollowsRow.laid w) false (World.laidAll Tryd.prog os Rows.recFollowsRow.laid) #[.agg #[.int .u32 0, .int .u32 0, .int .u32 0], .agg #[.int .u32 0, .int .u32 0, .int .u32 0]] 8 (World.laidAll_os _ _ _)
      (World.shaped_of_ZipB (by kernel_rfl) (by kernel_rfl)) (by kernel_rfl) (by kernel_rfl) (by kernel_rfl)
      (by rw [MakeChecks.laidMetH_plain _ _ _ (by kernel_rfl)]; exact laidMet_laidAll _ (by kernel_rfl) (by kernel_rfl)))
    (by kernel_rfl) (by kernel_rfl) rfl (by kernel_rfl) (by kernel_rfl) (fun ds hd => by match ds, hd with | [d0, d1], _ => rfl) ?_
  intro W base args ds ps hval hA hsz hfz
  have hval : ∀ (j : Nat) t v, (#[43, 43] : Array Nat)[j]? = some t → args[j]? = some v → Value.okWide Tryd.prog W .any base t v := hval
  replace hA : DataW.TrodAll enc Tryd.prog W 0 (fun _ => true) true [43, 43] args.toList ds ps := hA
  replace hsz : (DataW.weightsEach Tryd.prog [43, 43] ds).all (· ≤ reachBytes) = true := hsz
  obtain ⟨v0, vs0, d0, ds0, p0, q0, hargs, rfl, rfl, h0, r0⟩ := trodAll_cons hA
  obtain ⟨v1, vs1, d1, ds1, p1, q1, rfl, rfl, rfl, h1, r1⟩ := trodAll_cons r0
  obtain ⟨rfl, rfl, rfl⟩ := trodAll_nil r1
  obtain rfl : args = #[v0, v1] := by cases args; simp_all
  obtain ⟨a0, rfl, l0, w0⟩ := Go.Gb.open_ints (P := Tryd.prog) (t := 43) (e := 42) (n := 3) (k := .u32) (by kernel_rfl) (by kernel_rfl) (by kernel_rfl) (by kernel_rfl) (hval 0 43 v0 rfl rfl) h0
  obtain ⟨a1, rfl, l1, w1⟩ := Go.Gb.open_ints (P := Tryd.prog) (t := 43) (e := 42) (n := 3) (k := .u32) (by kernel_rfl) (by kernel_rfl) (by kernel_rfl) (by kernel_rfl) (hval 1 43 v1 rfl rfl) h1
  exact C.below fun h hs hw => gabionlaw12_RecFollows.law a0 l0 w0 a1 l1 w1 h 

theorem recFollows_facts0 : (Rows.recFollowsRow.wf (OpenSpec.ofChange Rows.recFollowsSpec) && laidOutB Tryd.pinned.checked.prog) = true := by kernel_rfl
theorem recFollows_facts1 : (mapsRowed Tryd.pinned.checked.prog && Tryd.f8.params.all (Tryd.pinned.checked.prog.readableRec ·) && namedTie Tryd.pinned.checked.prog Rows.recFollowsRow.named Rows.recFollowsSpec.vars && (Rows.recFollowsRow.stops == []) && (Tryd.pinned.checked.prog.stops == []) && (Rows.recFollowsRow.knobs == []) && (Tryd.pinned.checked.prog.stopKnobs == []) && (Rows.recFollowsRow.inPlace == Tryd.pinned.checked.prog.inPlace 8)) = true := by kernel_rfl
theorem recFollows_facts2 : ((Rows.recFollowsRow.unfollowed == Tryd.pinned.checked.prog.unfollowed 8) && (Rows.recFollowsRow.recurses == Tryd.pinned.checked.prog.recurses 8)) = true := by kernel_rfl
theorem recFollows_facts3 : ((Rows.recFollowsRow.named == Tryd.pinned.checked.prog.varsNamed 8) && (Rows.recFollowsRow.maps == (Tryd.f8.params.toList ++ Rows.recFollowsSpec.plain.varTypes Tryd.pinned.checked.prog).any (Tryd.pinned.checked.prog.mapsRec ·)) && (Rows.recFollowsRow.ifaces == (Tryd.f8.params.toList ++ Rows.recFollowsSpec.plain.varTypes Tryd.pinned.checked.prog).any (Tryd.pinned.checked.prog.ifacesRec ·)) && (Rows.recFollowsRow.mapsOut == Tryd.pinned.checked.prog.mapsAmong Tryd.f8.resultTypes.toList) && (Rows.recFollowsRow.loops == (Tryd.f8.params.toList ++ Rows.recFollowsSpec.plain.varTypes Tryd.pinned.checked.prog).any (Tryd.pinned.checked.prog.loopsFrom ·)) && (Rows.recFollowsRow.wideKeys == (Tryd.f8.params.toList ++ Rows.recFollowsSpec.plain.varTypes Tryd.pinned.checked.prog ++ Tryd.f8.resultTypes.toList).any (Tryd.pinned.checked.prog.wideKeysFrom ·))) = true := by kernel_rfl
theorem recFollows_facts4 : (Rows.recFollowsSpec.vars.all (Tryd.pinned.checked.prog.varReadable ·) && Tryd.f8.resultTypes.all (fun t => Tryd.pinned.checked.prog.readableRec t && decide (t < Tryd.pinned.checked.prog.types.size)) && (Rows.recFollowsRow.ifacesOut == Tryd.f8.resultTypes.toList.any (Tryd.pinned.checked.prog.ifacesRec ·)) && (Rows.recFollowsRow.loopsOut == Tryd.f8.resultTypes.toList.any (Tryd.pinned.checked.prog.loopsFrom ·)) && (Rows.recFollowsRow.plainKeys == Tryd.pinned.checked.prog.plainKeys) && Rows.recFollowsRow.shortTexts.isNone) = true := by kernel_rfl
theorem recFollows_facts5 : (Tryd.pinned.checked.prog.stopsHeard && Tryd.pinned.checked.prog.mayEnter && (Rows.recFollowsRow.lifted == Tryd.pinned.checked.prog.liftsFinal) && (Tryd.pinned.checked.prog.make == some Rows.recFollowsRow.make) && (Rows.recFollowsRow.kinds == (if Rows.recFollowsRow.domain.isEmpty then [] else Tryd.f8.params.toList.map fun t => match Tryd.pinned.checked.prog.underlying t with | some (.int k) => some k | _ => none)) && (Rows.recFollowsRow.pinned == Rows.recFollowsRow.pinnedBy) && (Rows.recFollowsRow.veiled == (Tryd.f8.params.toList ++ Rows.recFollowsSpec.plain.varTypes Tryd.pinned.checked.prog ++ Tryd.f8.resultTypes.toList).any (Tryd.pinned.checked.prog.veiledRec ·)) && Rows.recFollowsRow.veiledFits Tryd.pinned.checked.prog Tryd.f8.params.toList (Tryd.f8.params.toList ++ Rows.recFollowsSpec.plain.varTypes Tryd.pinned.checked.prog ++ Tryd.f8.resultTypes.toList)) = true := by kernel_rfl
set_option maxRecDepth 100000 in
theorem recFollows_closed : joinedFacts Tryd.pinned.checked.prog 8 Tryd.f8 Rows.recFollowsSpec Rows.recFollowsRow = true := (band_t (band_t (band_t (band_t (band_t (band_t (band_t (band_t (band_t (band_t (band_t (band_t (band_t (band_t (band_t (band_t (band_t (band_t (band_t (band_t (band_t (band_t (band_t (band_t (band_t (band_t (band_t (band_t (band_t (band_t (band_t (band_l recFollows_facts0) (band_r recFollows_facts0)) (band_l (band_l (band_l (band_l (band_l (band_l (band_l recFollows_facts1)))))))) (band_r (band_l (band_l (band_l (band_l (band_l (band_l recFollows_facts1)))))))) (band_r (band_l (band_l (band_l (band_l (band_l recFollows_facts1))))))) (band_r (band_l (band_l (band_l (band_l recFollows_facts1)))))) (band_r (band_l (band_l (band_l recFollows_facts1))))) (band_r (band_l (band_l recFollows_facts1)))) (band_r (band_l recFollows_facts1))) (band_r recFollows_facts1)) (band_l recFollows_facts2)) (band_r recFollows_facts2)) (band_l (band_l (band_l (band_l (band_l recFollows_facts3)))))) (band_r (band_l (band_l (band_l (band_l recFollows_facts3)))))) (band_r (band_l (band_l (band_l recFollows_facts3))))) (band_r (band_l (band_l recFollows_facts3)))) (band_r (band_l recFollows_facts3))) (band_r recFollows_facts3)) (band_l (band_l (band_l (band_l (band_l recFollows_facts4)))))) (band_r (band_l (band_l (band_l (band_l recFollows_facts4)))))) (band_r (band_l (band_l (band_l recFollows_facts4))))) (band_r (band_l (band_l recFollows_facts4)))) (band_r (band_l recFollows_facts4))) (band_r recFollows_facts4)) (band_l (band_l (band_l (band_l (band_l (band_l (band_l recFollows_facts5)))))))) (band_r (band_l (band_l (band_l (band_l (band_l (band_l recFollows_facts5)))))))) (band_r (band_l (band_l (band_l (band_l (band_l recFollows_facts5))))))) (band_r (band_l (band_l (band_l (band_l recFollows_facts5)))))) (band_r (band_l (band_l (band_l recFollows_facts5))))) (band_r (band_l (band_l recFollows_facts5)))) (band_r (band_l recFollows_facts5))) (band_r recFollows_facts5))

theorem recFollows_over : Rows.recFollowsRow.holds Tryd.pinned (OpenSpec.ofChange Rows.recFollowsSpec) :=
  OpenClaim.holds_of_wide 8 Tryd.f8 rfl rfl rfl rfl rfl rfl rfl ⟨rfl, rfl, rfl, rfl, rfl⟩ rfl rfl rfl rfl rfl (by kernel_rfl) Tryd.func8 recFollows_closed
    (of_decide_eq_true (by kernel_rfl)) (by unfold Func.isWrapper; first | (rw [if_pos (by decide +kernel)]; kernel_rfl) | (rw [if_neg (by decide +kernel)]; exact ⟨rfl, rfl⟩))
    (fun os started H enc _ => recFollows_lifted os started H enc)
end Go.Gb
namespace Go.Proofs.YtcccjpahikgibaaDoor
open Go
theorem recFollows_row_holds : Rows.RecFollowsSaid := Go.Gb.recFollows_over
set_option maxRecDepth 100000 in
theorem recFollows_card_holds : Rows.RecFollowsCardSaid :=
  Claim7.holds_tied_plain_at .later [] [.data, .pinned] true (true, "7d38452d88b03a32c579de485d8237651618c55d3a8606884839339dd8f6f06d") false recFollows_row_holds (fun _ h => by cases h) (by kernel_rfl) (fun _ h => by cases h) recFollows_row_tie rfl ⟨rfl, rfl⟩ (by kernel_rfl) rfl
    (fun f fn hf hfn => by
      obtain rfl : f = 8 := Option.some.inj ((show Tryd.prog.funcNamed "gabion/gabionlaw12.RecFollows" = some 8 by kernel_rfl).symm.trans hf) |>.symm
      obtain rfl : fn = Tryd.f8 := (Option.some.inj (Tryd.func8.symm.trans hfn)).symm
      exact ⟨by kernel_rfl, fun j t ht => by
        have ht : (#[43, 43] : Array Nat)[j]? = some t := ht
        have hm : t ∈ [43, 43] := by simpa using Array.mem_of_getElem? ht
        have hall : ([43, 43].all fun u => !Tryd.prog.wantsStandIn u) = true := by kernel_rfl
        exact (show Tryd.prog.wantsStandIn t = false by simpa using List.all_eq_true.1 hall t hm)⟩)
    (by kernel_rfl)
end Go.Proofs.YtcccjpahikgibaaDoor
#print axioms Go.Proofs.YtcccjpahikgibaaDoor.recFollows_card_holds
