/- Own text for the seat: RPathBack. -/
import Derived.Test.YtcccjpahikgibaaDoorRows
import Derived.Test.YtcccjpahikgibaaDoorCards
import Derived.Test.YtcccjpahikgibaaDoorTie
import Derived.Test.YtcccjpahikgibaaDoorA14
import Derived.Stop.Joined
import Derived.Test.YtcccjpahikgibaaDoorA12
import Derived.Test.YtcccjpahikgibaaDoorA13
import Derived.Test.YtcccjpahikgibaaDoorB4
set_option linter.unusedVariables false
set_option linter.unusedSimpArgs false
set_option linter.unnecessarySimpa false
set_option linter.deprecated false
namespace Go.Gb
open Go.Proofs Go.Proofs.YtcccjpahikgibaaDoor
open Go.ChangeShapes Go.WideShapes Go.ChangeAt Go.RowKit
open Go.ChangeMaps (open_string shut_string)

theorem band_t {a b : Bool} (ha : a = true) (hb : b = true) : (a && b) = true := by rw [ha, hb]; rfl
theorem band_l {a b : Bool} (h : (a && b) = true) : a = true := by cases a with | true => rfl | false => exact h
theorem band_r {a b : Bool} (h : (a && b) = true) : b = true := by cases a with | true => exact h | false => cases h

set_option maxRecDepth 100000 in
theorem pathBack_lifted (os : Os) (started : os.Started) (H : Type) (enc : TypeId × Value → H) :
    ReturnsInHanded {} Tryd.checked os 4 .any (fun w args => (Rows.pathBackSpec.pre enc Tryd.prog Tryd.f4 Rows.pathBackRow.domain false w args ∧ laidMetH Tryd.prog Rows.pathBackRow.laid w) ∧ sizedMet enc Tryd.prog Tryd.f4 (OpenSpec.ofChange Rows.pathBackSpec) false w args) (Rows.pathBackSpec.post enc Tryd.prog Tryd.f4 false true false false) := by
  refine liftX (C := Tryd.checked) (X := fun w _ => laidMetH Tryd.prog Rows.pathBackRow.laid w) (rt := 4) (fun _ _ _ hh h => h.of_heap hh) (by kernel_rfl) started (by kernel_rfl) Tryd.func4
    (ChangeSpec.witness_shaped (enc := enc) (C := Tryd.checked) (os := os) (X := fun w _ => laidMetH Tryd.prog Rows.pathBackRow.laid w) false (World.laidAll Tryd.prog os Rows.pathBackRow.laid) #[.string ⟨#[]⟩] 8 (World.laidAll_os _ _ _)
      (World.shaped_of_ZipB (by kernel_rfl) (by kernel_rfl)) (by kernel_rfl) (by kernel_rfl) (by kernel_rfl)
      (by rw [MakeChecks.laidMetH_plain _ _ _ (by kernel_rfl)]; exact laidMet_laidAll _ (by kernel_rfl) (by kernel_rfl)))
    (by kernel_rfl) (by kernel_rfl) rfl (by kernel_rfl) (by kernel_rfl) (fun ds hd => by match ds, hd with | [d0], _ => rfl) ?_
  intro W base args ds ps hval hA hsz hfz
  have hval : ∀ (j : Nat) t v, (#[9] : Array Nat)[j]? = some t → args[j]? = some v → Value.okWide Tryd.prog W .any base t v := hval
  replace hA : DataW.TrodAll enc Tryd.prog W 0 (fun _ => true) true [9] args.toList ds ps := hA
  replace hsz : (DataW.weightsEach Tryd.prog [9] ds).all (· ≤ reachBytes) = true := hsz
  obtain ⟨v0, vs0, d0, ds0, p0, q0, hargs, rfl, rfl, h0, r0⟩ := trodAll_cons hA
  obtain ⟨rfl, rfl, rfl⟩ := trodAll_nil r0
  obtain rfl : args = #[v0] := by cases args; simp_all
  obtain ⟨a0, rfl, rfl, -, -⟩ := open_string (P := Tryd.prog) (t := 9) (by kernel_rfl) (hval 0 9 v0 rfl rfl) h0
  have w0 : a0.size ≤ 140737488351232 := by
    have z := sized_string hsz (j := 0) (t := 9) rfl rfl
    rw [Array.length_toList] at z
    exact z
  exact C.below fun h hs hw => gabionlaw18_PathBack.law a0 w0 h 

theorem pathBack_facts0 : (Rows.pathBackRow.wf (OpenSpec.ofChange Rows.pathBackSpec) && laidOutB Tryd.pinned.checked.prog) = true := by kernel_rfl
theorem pathBack_facts1 : (mapsRowed Tryd.pinned.checked.prog && Tryd.f4.params.all (Tryd.pinned.checked.prog.readableRec ·) && namedTie Tryd.pinned.checked.prog Rows.pathBackRow.named Rows.pathBackSpec.vars && (Rows.pathBackRow.stops == []) && (Tryd.pinned.checked.prog.stops == []) && (Rows.pathBackRow.knobs == []) && (Tryd.pinned.checked.prog.stopKnobs == []) && (Rows.pathBackRow.inPlace == Tryd.pinned.checked.prog.inPlace 4)) = true := by kernel_rfl
theorem pathBack_facts2 : ((Rows.pathBackRow.unfollowed == Tryd.pinned.checked.prog.unfollowed 4) && (Rows.pathBackRow.recurses == Tryd.pinned.checked.prog.recurses 4)) = true := by kernel_rfl
theorem pathBack_facts3 : ((Rows.pathBackRow.named == Tryd.pinned.checked.prog.varsNamed 4) && (Rows.pathBackRow.maps == (Tryd.f4.params.toList ++ Rows.pathBackSpec.plain.varTypes Tryd.pinned.checked.prog).any (Tryd.pinned.checked.prog.mapsRec ·)) && (Rows.pathBackRow.ifaces == (Tryd.f4.params.toList ++ Rows.pathBackSpec.plain.varTypes Tryd.pinned.checked.prog).any (Tryd.pinned.checked.prog.ifacesRec ·)) && (Rows.pathBackRow.mapsOut == Tryd.pinned.checked.prog.mapsAmong Tryd.f4.resultTypes.toList) && (Rows.pathBackRow.loops == (Tryd.f4.params.toList ++ Rows.pathBackSpec.plain.varTypes Tryd.pinned.checked.prog).any (Tryd.pinned.checked.prog.loopsFrom ·)) && (Rows.pathBackRow.wideKeys == (Tryd.f4.params.toList ++ Rows.pathBackSpec.plain.varTypes Tryd.pinned.checked.prog ++ Tryd.f4.resultTypes.toList).any (Tryd.pinned.checked.prog.wideKeysFrom ·))) = true := by kernel_rfl
theorem pathBack_facts4 : (Rows.pathBackSpec.vars.all (Tryd.pinned.checked.prog.varReadable ·) && Tryd.f4.resultTypes.all (fun t => Tryd.pinned.checked.prog.readableRec t && decide (t < Tryd.pinned.checked.prog.types.size)) && (Rows.pathBackRow.ifacesOut == Tryd.f4.resultTypes.toList.any (Tryd.pinned.checked.prog.ifacesRec ·)) && (Rows.pathBackRow.loopsOut == Tryd.f4.resultTypes.toList.any (Tryd.pinned.checked.prog.loopsFrom ·)) && (Rows.pathBackRow.plainKeys == Tryd.pinned.checked.prog.plainKeys) && Rows.pathBackRow.shortTexts.isNone) = true := by kernel_rfl
theorem pathBack_facts5 : (Tryd.pinned.checked.prog.stopsHeard && Tryd.pinned.checked.prog.mayEnter && (Rows.pathBackRow.lifted == Tryd.pinned.checked.prog.liftsFinal) && (Tryd.pinned.checked.prog.make == some Rows.pathBackRow.make) && (Rows.pathBackRow.kinds == (if Rows.pathBackRow.domain.isEmpty then [] else Tryd.f4.params.toList.map fun t => match Tryd.pinned.checked.prog.underlying t with | some (.int k) => some k | _ => none)) && (Rows.pathBackRow.pinned == Rows.pathBackRow.pinnedBy) && (Rows.pathBackRow.veiled == (Tryd.f4.params.toList ++ Rows.pathBackSpec.plain.varTypes Tryd.pinned.checked.prog ++ Tryd.f4.resultTypes.toList).any (Tryd.pinned.checked.prog.veiledRec ·)) && Rows.pathBackRow.veiledFits Tryd.pinned.checked.prog Tryd.f4.params.toList (Tryd.f4.params.toList ++ Rows.pathBackSpec.plain.varTypes Tryd.pinned.checked.prog ++ Tryd.f4.resultTypes.toList)) = true := by kernel_rfl
set_option maxRecDepth 100000 in
theorem pathBack_closed : joinedFacts Tryd.pinned.checked.prog 4 Tryd.f4 Rows.pathBackSpec Rows.pathBackRow = true := (band_t (band_t (band_t (band_t (band_t (band_t (band_t (band_t (band_t (band_t (band_t (band_t (band_t (band_t (band_t (band_t (band_t (band_t (band_t (band_t (band_t (band_t (band_t (band_t (band_t (band_t (band_t (band_t (band_t (band_t (band_t (band_l pathBack_facts0) (band_r pathBack_facts0)) (band_l (band_l (band_l (band_l (band_l (band_l (band_l pathBack_facts1)))))))) (band_r (band_l (band_l (band_l (band_l (band_l (band_l pathBack_facts1)))))))) (band_r (band_l (band_l (band_l (band_l (band_l pathBack_facts1))))))) (band_r (band_l (band_l (band_l (band_l pathBack_facts1)))))) (band_r (band_l (band_l (band_l pathBack_facts1))))) (band_r (band_l (band_l pathBack_facts1)))) (band_r (band_l pathBack_facts1))) (band_r pathBack_facts1)) (band_l pathBack_facts2)) (band_r pathBack_facts2)) (band_l (band_l (band_l (band_l (band_l pathBack_facts3)))))) (band_r (band_l (band_l (band_l (band_l pathBack_facts3)))))) (band_r (band_l (band_l (band_l pathBack_facts3))))) (band_r (band_l (band_l pathBack_facts3)))) (band_r (band_l pathBack_facts3))) (band_r pathBack_facts3)) (band_l (band_l (band_l (band_l (band_l pathBack_facts4)))))) (band_r (band_l (band_l (band_l (band_l pathBack_facts4)))))) (band_r (band_l (band_l (band_l pathBack_facts4))))) (band_r (band_l (band_l pathBack_facts4)))) (band_r (band_l pathBack_facts4))) (band_r pathBack_facts4)) (band_l (band_l (band_l (band_l (band_l (band_l (band_l pathBack_facts5)))))))) (band_r (band_l (band_l (band_l (band_l (band_l (band_l pathBack_facts5)))))))) (band_r (band_l (band_l (band_l (band_l (band_l pathBack_facts5))))))) (band_r (band_l (band_l (band_l (band_l pathBack_facts5)))))) (band_r (band_l (band_l (band_l pathBack_facts5))))) (band_r (band_l (band_l pathBack_facts5)))) (band_r (band_l pathBack_facts5))) (band_r pathBack_facts5))

theorem pathBack_over : Rows.pathBackRow.holds Tryd.pinned (OpenSpec.ofChange Rows.pathBackSpec) :=
  OpenClaim.holds_of_wide 4 Tryd.f4 rfl rfl rfl rfl rfl rfl rfl ⟨rfl, rfl, rfl, rfl, rfl⟩ rfl rfl rfl rfl rfl (by kernel_rfl) Tryd.func4 pathBack_closed
    (of_decide_eq_true (by kernel_rfl)) (by unfold Func.isWrapper; first | (rw [if_pos (by decide +kernel)]; kernel_rfl) | (rw [if_neg (by decide +kernel)]; exact ⟨rfl, rfl⟩))
    (fun os started H enc _ => pathBack_lifted os started H enc)
end Go.Gb
namespace Go.Proofs.YtcccjpahikgibaaDoor
open Go
theorem pathBack_row_holds : Rows.PathBackSaid := Go.Gb.pathBack_over
set_option maxRecDepth 100000 in
theorem pathBack_card_holds : Rows.PathBackCardSaid :=
  Claim7.holds_tied_plain_at .later [] [.data, .pinned] true (true, "7d38452d88b03a32c579de485d8237651618c55d3a8606884839339dd8f6f06d") false pathBack_row_holds (fun _ h => by cases h) (by kernel_rfl) (fun _ h => by cases h) pathBack_row_tie rfl ⟨rfl, rfl⟩ (by kernel_rfl) rfl
    (fun f fn hf hfn => by
      obtain rfl : f = 4 := Option.some.inj ((show Tryd.prog.funcNamed "gabion/gabionlaw18.PathBack" = some 4 by kernel_rfl).symm.trans hf) |>.symm
      obtain rfl : fn = Tryd.f4 := (Option.some.inj (Tryd.func4.symm.trans hfn)).symm
      exact ⟨by kernel_rfl, fun j t ht => by
        have ht : (#[9] : Array Nat)[j]? = some t := ht
        have hm : t ∈ [9] := by simpa using Array.mem_of_getElem? ht
        have hall : ([9].all fun u => !Tryd.prog.wantsStandIn u) = true := by kernel_rfl
        exact (show Tryd.prog.wantsStandIn t = false by simpa using List.all_eq_true.1 hall t hm)⟩)
    (by kernel_rfl)
end Go.Proofs.YtcccjpahikgibaaDoor
#print axioms Go.Proofs.YtcccjpahikgibaaDoor.pathBack_card_holds
