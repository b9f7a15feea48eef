/- Own text for the seat: RRecBack. -/
import Derived.Test.YtcccjpahikgibaaDoorRows
import Derived.Test.YtcccjpahikgibaaDoorCards
import Derived.Test.YtcccjpahikgibaaDoorTie
import Derived.Test.YtcccjpahikgibaaDoorA14
import Derived.Stop.Joined
import Derived.Test.YtcccjpahikgibaaDoorA12
import Derived.Test.YtcccjpahikgibaaDoorA13
import Derived.Test.YtcccjpahikgibaaDoorB7
set_option linter.unusedVariables false
set_option linter.unusedSimpArgs false
set_option linter.unnecessarySimpa false
set_option linter.deprecated false
namespace Go.Gb
open Go.Proofs Go.Proofs.YtcccjpahikgibaaDoor
open Go.ChangeShapes Go.WideShapes Go.ChangeAt Go.RowKit
open Go.ChangeMaps (open_string shut_string)

theorem band_t {a b : Bool} (ha : a = true) (hb : b = true) : (a && b) = true := by rw [ha, hb]; rfl
theorem band_l {a b : Bool} (h : (a && b) = true) : a = true := by cases a with | true => rfl | false => exact h
theorem band_r {a b : Bool} (h : (a && b) = true) : b = true := by cases a with | true => exact h | false => cases h

set_option maxRecDepth 100000 in
theorem recBack_lifted (os : Os) (started : os.Started) (H : Type) (enc : TypeId × Value → H) :
    ReturnsInHanded {} Tryd.checked os 9 .any (fun w args => (Rows.recBackSpec.pre enc Tryd.prog Tryd.f9 Rows.recBackRow.domain false w args ∧ laidMetH Tryd.prog Rows.recBackRow.laid w) ∧ sizedMet enc Tryd.prog Tryd.f9 (OpenSpec.ofChange Rows.recBackSpec) false w args) (Rows.recBackSpec.post enc Tryd.prog Tryd.f9 false true false false) := by
  refine liftX (C := Tryd.checked) (X := fun w _ => laidMetH Tryd.prog Rows.recBackRow.laid w) (rt := 4) (fun _ _ _ hh h => h.of_heap hh) (by kernel_rfl) started (by kernel_rfl) Tryd.func9
    (ChangeSpec.witness_shaped (enc := enc) (C := Tryd.checked) (os := os) (X := fun w _ => laidMetH Tryd.prog Rows.recBackRow.laid w) false (World.laidAll Tryd.prog os Rows.recBackRow.laid) #[.agg #[.int .u32 0, .int .u32 0, .int .u32 0], .string ⟨#[]⟩, .agg #[.int .u8 0, .int .u8 0, .int .u8 0]] 8 (World.laidAll_os _ _ _)
      (World.shaped_of_ZipB (by kernel_rfl) (by kernel_rfl)) (by kernel_rfl) (by kernel_rfl) (by kernel_rfl)
      (by rw [MakeChecks.laidMetH_plain _ _ _ (by kernel_rfl)]; exact laidMet_laidAll _ (by kernel_rfl) (by kernel_rfl)))
    (by kernel_rfl) (by kernel_rfl) rfl (by kernel_rfl) (by kernel_rfl) (fun ds hd => by match ds, hd with | [d0, d1, d2], _ => rfl) ?_
  intro W base args ds ps hval hA hsz hfz
  have hval : ∀ (j : Nat) t v, (#[43, 9, 63] : Array Nat)[j]? = some t → args[j]? = some v → Value.okWide Tryd.prog W .any base t v := hval
  replace hA : DataW.TrodAll enc Tryd.prog W 0 (fun _ => true) true [43, 9, 63] args.toList ds ps := hA
  replace hsz : (DataW.weightsEach Tryd.prog [43, 9, 63] ds).all (· ≤ reachBytes) = true := hsz
  obtain ⟨v0, vs0, d0, ds0, p0, q0, hargs, rfl, rfl, h0, r0⟩ := trodAll_cons hA
  obtain ⟨v1, vs1, d1, ds1, p1, q1, rfl, rfl, rfl, h1, r1⟩ := trodAll_cons r0
  obtain ⟨v2, vs2, d2, ds2, p2, q2, rfl, rfl, rfl, h2, r2⟩ := trodAll_cons r1
  obtain ⟨rfl, rfl, rfl⟩ := trodAll_nil r2
  obtain rfl : args = #[v0, v1, v2] := by cases args; simp_all
  obtain ⟨a0, rfl, l0, w0⟩ := Go.Gb.open_ints (P := Tryd.prog) (t := 43) (e := 42) (n := 3) (k := .u32) (by kernel_rfl) (by kernel_rfl) (by kernel_rfl) (by kernel_rfl) (hval 0 43 v0 rfl rfl) h0
  obtain ⟨a1, rfl, rfl, -, -⟩ := open_string (P := Tryd.prog) (t := 9) (by kernel_rfl) (hval 1 9 v1 rfl rfl) h1
  have w1 : a1.size ≤ 140737488351232 := by
    have z := sized_string hsz (j := 1) (t := 9) rfl rfl
    rw [Array.length_toList] at z
    exact z
  obtain ⟨a2, rfl, l2, w2⟩ := Go.Gb.open_ints (P := Tryd.prog) (t := 63) (e := 5) (n := 3) (k := .u8) (by kernel_rfl) (by kernel_rfl) (by kernel_rfl) (by kernel_rfl) (hval 2 63 v2 rfl rfl) h2
  exact C.below fun h hs hw => gabionlaw12_RecBack.law a0 l0 w0 a1 w1 a2 l2 w2 h 

theorem recBack_facts0 : (Rows.recBackRow.wf (OpenSpec.ofChange Rows.recBackSpec) && laidOutB Tryd.pinned.checked.prog) = true := by kernel_rfl
theorem recBack_facts1 : (mapsRowed Tryd.pinned.checked.prog && Tryd.f9.params.all (Tryd.pinned.checked.prog.readableRec ·) && namedTie Tryd.pinned.checked.prog Rows.recBackRow.named Rows.recBackSpec.vars && (Rows.recBackRow.stops == []) && (Tryd.pinned.checked.prog.stops == []) && (Rows.recBackRow.knobs == []) && (Tryd.pinned.checked.prog.stopKnobs == []) && (Rows.recBackRow.inPlace == Tryd.pinned.checked.prog.inPlace 9)) = true := by kernel_rfl
theorem recBack_facts2 : ((Rows.recBackRow.unfollowed == Tryd.pinned.checked.prog.unfollowed 9) && (Rows.recBackRow.recurses == Tryd.pinned.checked.prog.recurses 9)) = true := by kernel_rfl
theorem recBack_facts3 : ((Rows.recBackRow.named == Tryd.pinned.checked.prog.varsNamed 9) && (Rows.recBackRow.maps == (Tryd.f9.params.toList ++ Rows.recBackSpec.plain.varTypes Tryd.pinned.checked.prog).any (Tryd.pinned.checked.prog.mapsRec ·)) && (Rows.recBackRow.ifaces == (Tryd.f9.params.toList ++ Rows.recBackSpec.plain.varTypes Tryd.pinned.checked.prog).any (Tryd.pinned.checked.prog.ifacesRec ·)) && (Rows.recBackRow.mapsOut == Tryd.pinned.checked.prog.mapsAmong Tryd.f9.resultTypes.toList) && (Rows.recBackRow.loops == (Tryd.f9.params.toList ++ Rows.recBackSpec.plain.varTypes Tryd.pinned.checked.prog).any (Tryd.pinned.checked.prog.loopsFrom ·)) && (Rows.recBackRow.wideKeys == (Tryd.f9.params.toList ++ Rows.recBackSpec.plain.varTypes Tryd.pinned.checked.prog ++ Tryd.f9.resultTypes.toList).any (Tryd.pinned.checked.prog.wideKeysFrom ·))) = true := by kernel_rfl
theorem recBack_facts4 : (Rows.recBackSpec.vars.all (Tryd.pinned.checked.prog.varReadable ·) && Tryd.f9.resultTypes.all (fun t => Tryd.pinned.checked.prog.readableRec t && decide (t < Tryd.pinned.checked.prog.types.size)) && (Rows.recBackRow.ifacesOut == Tryd.f9.resultTypes.toList.any (Tryd.pinned.checked.prog.ifacesRec ·)) && (Rows.recBackRow.loopsOut == Tryd.f9.resultTypes.toList.any (Tryd.pinned.checked.prog.loopsFrom ·)) && (Rows.recBackRow.plainKeys == Tryd.pinned.checked.prog.plainKeys) && Rows.recBackRow.shortTexts.isNone) = true := by kernel_rfl
theorem recBack_facts5 : (Tryd.pinned.checked.prog.stopsHeard && Tryd.pinned.checked.prog.mayEnter && (Rows.recBackRow.lifted == Tryd.pinned.checked.prog.liftsFinal) && (Tryd.pinned.checked.prog.make == some Rows.recBackRow.make) && (Rows.recBackRow.kinds == (if Rows.recBackRow.domain.isEmpty then [] else Tryd.f9.params.toList.map fun t => match Tryd.pinned.checked.prog.underlying t with | some (.int k) => some k | _ => none)) && (Rows.recBackRow.pinned == Rows.recBackRow.pinnedBy) && (Rows.recBackRow.veiled == (Tryd.f9.params.toList ++ Rows.recBackSpec.plain.varTypes Tryd.pinned.checked.prog ++ Tryd.f9.resultTypes.toList).any (Tryd.pinned.checked.prog.veiledRec ·)) && Rows.recBackRow.veiledFits Tryd.pinned.checked.prog Tryd.f9.params.toList (Tryd.f9.params.toList ++ Rows.recBackSpec.plain.varTypes Tryd.pinned.checked.prog ++ Tryd.f9.resultTypes.toList)) = true := by kernel_rfl
set_option maxRecDepth 100000 in
theorem recBack_closed : joinedFacts Tryd.pinned.checked.prog 9 Tryd.f9 Rows.recBackSpec Rows.recBackRow = true := (band_t (band_t (band_t (band_t (band_t (band_t (band_t (band_t (band_t (band_t (band_t (band_t (band_t (band_t (band_t (band_t (band_t (band_t (band_t (band_t (band_t (band_t (band_t (band_t (band_t (band_t (band_t (band_t (band_t (band_t (band_t (band_l recBack_facts0) (band_r recBack_facts0)) (band_l (band_l (band_l (band_l (band_l (band_l (band_l recBack_facts1)))))))) (band_r (band_l (band_l (band_l (band_l (band_l (band_l recBack_facts1)))))))) (band_r (band_l (band_l (band_l (band_l (band_l recBack_facts1))))))) (band_r (band_l (band_l (band_l (band_l recBack_facts1)))))) (band_r (band_l (band_l (band_l recBack_facts1))))) (band_r (band_l (band_l recBack_facts1)))) (band_r (band_l recBack_facts1))) (band_r recBack_facts1)) (band_l recBack_facts2)) (band_r recBack_facts2)) (band_l (band_l (band_l (band_l (band_l recBack_facts3)))))) (band_r (band_l (band_l (band_l (band_l recBack_facts3)))))) (band_r (band_l (band_l (band_l recBack_facts3))))) (band_r (band_l (band_l recBack_facts3)))) (band_r (band_l recBack_facts3))) (band_r recBack_facts3)) (band_l (band_l (band_l (band_l (band_l recBack_facts4)))))) (band_r (band_l (band_l (band_l (band_l recBack_facts4)))))) (band_r (band_l (band_l (band_l recBack_facts4))))) (band_r (band_l (band_l recBack_facts4)))) (band_r (band_l recBack_facts4))) (band_r recBack_facts4)) (band_l (band_l (band_l (band_l (band_l (band_l (band_l recBack_facts5)))))))) (band_r (band_l (band_l (band_l (band_l (band_l (band_l recBack_facts5)))))))) (band_r (band_l (band_l (band_l (band_l (band_l recBack_facts5))))))) (band_r (band_l (band_l (band_l (band_l recBack_facts5)))))) (band_r (band_l (band_l (band_l recBack_facts5))))) (band_r (band_l (band_l recBack_facts5)))) (band_r (band_l recBack_facts5))) (band_r recBack_facts5))

theorem recBack_over : Rows.recBackRow.holds Tryd.pinned (OpenSpec.ofChange Rows.recBackSpec) :=
  OpenClaim.holds_of_wide 9 Tryd.f9 rfl rfl rfl rfl rfl rfl rfl ⟨rfl, rfl, rfl, rfl, rfl⟩ rfl rfl rfl rfl rfl (by kernel_rfl) Tryd.func9 recBack_closed
    (of_decide_eq_true (by kernel_rfl)) (by unfold Func.isWrapper; first | (rw [if_pos (by decide +kernel)]; kernel_rfl) | (rw [if_neg (by decide +kernel)]; exact ⟨rfl, rfl⟩))
    (fun os started H enc _ => recBack_lifted os started H enc)
end Go.Gb
namespace Go.Proofs.YtcccjpahikgibaaDoor
open Go
theorem recBack_row_holds : Rows.RecBackSaid := Go.Gb.recBack_over
set_option maxRecDepth 100000 in
theorem recBack_card_holds : Rows.RecBackCardSaid :=
  Claim7.holds_tied_plain_at .later [] [.data, .pinned] true (true, "7d38452d88b03a32c579de485d8237651618c55d3a8606884839339dd8f6f06d") false recBack_row_holds (fun _ h => by cases h) (by kernel_rfl) (fun _ h => by cases h) recBack_row_tie rfl ⟨rfl, rfl⟩ (by kernel_rfl) rfl
    (fun f fn hf hfn => by
      obtain rfl : f = 9 := Option.some.inj ((show Tryd.prog.funcNamed "gabion/gabionlaw12.RecBack" = some 9 by kernel_rfl).symm.trans hf) |>.symm
      obtain rfl : fn = Tryd.f9 := (Option.some.inj (Tryd.func9.symm.trans hfn)).symm
      exact ⟨by kernel_rfl, fun j t ht => by
        have ht : (#[43, 9, 63] : Array Nat)[j]? = some t := ht
        have hm : t ∈ [43, 9, 63] := by simpa using Array.mem_of_getElem? ht
        have hall : ([43, 9, 63].all fun u => !Tryd.prog.wantsStandIn u) = true := by kernel_rfl
        exact (show Tryd.prog.wantsStandIn t = false by simpa using List.all_eq_true.1 hall t hm)⟩)
    (by kernel_rfl)
end Go.Proofs.YtcccjpahikgibaaDoor
#print axioms Go.Proofs.YtcccjpahikgibaaDoor.recBack_card_holds
