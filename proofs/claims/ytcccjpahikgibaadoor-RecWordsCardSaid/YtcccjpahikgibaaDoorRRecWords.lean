/- Own text for the seat: RRecWords. -/
import Derived.Test.YtcccjpahikgibaaDoorRows
import Derived.Test.YtcccjpahikgibaaDoorCards
import Derived.Test.YtcccjpahikgibaaDoorTie
import Derived.Test.YtcccjpahikgibaaDoorA14
import Derived.Stop.Joined
import Derived.Test.YtcccjpahikgibaaDoorA12
import Derived.Test.YtcccjpahikgibaaDoorA13
import Derived.Test.YtcccjpahikgibaaDoorB7
set_option linter.unusedVariables false
set_option linter.unusedSimpArgs false
set_option linter.unnecessarySimpa false
set_option linter.deprecated false
namespace Go.Gb
open Go.Proofs Go.Proofs.YtcccjpahikgibaaDoor
open Go.ChangeShapes Go.WideShapes Go.ChangeAt Go.RowKit
open Go.ChangeMaps (open_string shut_string)

theorem band_t {a b : Bool} (ha : a = true) (hb : b = true) : (a && b) = true := by rw [ha, hb]; rfl
theorem band_l {a b : Bool} (h : (a && b) = true) : a = true := by cases a with | true => rfl | false => exact h
theorem band_r {a b : Bool} (h : (a && b) = true) : b = true := by cases a with | true => exact h | false => cases h

set_option maxRecDepth 100000 in
theorem recWords_lifted (os : Os) (started : os.Started) (H : Type) (enc : TypeId × Value → H) :
    ReturnsInHanded {} Tryd.checked os 10 .any (fun w args => (Rows.recWordsSpec.pre enc Tryd.prog Tryd.f10 Rows.recWordsRow.domain false w args ∧ laidMetH Tryd.prog Rows.recWordsRow.laid w) ∧ sizedMet enc Tryd.prog Tryd.f10 (OpenSpec.ofChange Rows.recWordsSpec) false w args) (Rows.recWordsSpec.post enc Tryd.prog Tryd.f10 false true false false) := by
  refine liftX (C := Tryd.checked) (X := fun w _ => laidMetH Tryd.prog Rows.recWordsRow.laid w) (rt := 4) (fun _ _ _ hh h => h.of_heap hh) (by kernel_rfl) started (by kernel_rfl) Tryd.func10
    (ChangeSpec.witness_shaped (enc := enc) (C := Tryd.checked) (os := os) (X := fun w _ => laidMetH Tryd.prog Rows.recWordsRow.laid w) false (World.laidAll Tryd.prog os Rows.recWordsRow.laid) #[.agg #[.int .u32 0, .int .u32 0, .int .u32 0, .int .u32 0, .int .u32 0, .int .u32 0], .agg #[.string ⟨#[]⟩, .string ⟨#[]⟩], .int .u64 0] 8 (World.laidAll_os _ _ _)
      (World.shaped_of_ZipB (by kernel_rfl) (by kernel_rfl)) (by kernel_rfl) (by kernel_rfl) (by kernel_rfl)
      (by rw [MakeChecks.laidMetH_plain _ _ _ (by kernel_rfl)]; exact laidMet_laidAll _ (by kernel_rfl) (by kernel_rfl)))
    (by kernel_rfl) (by kernel_rfl) rfl (by kernel_rfl) (by kernel_rfl) (fun ds hd => by match ds, hd with | [d0, d1, d2], _ => rfl) ?_
  intro W base args ds ps hval hA hsz hfz
  have hval : ∀ (j : Nat) t v, (#[66, 67, 68] : Array Nat)[j]? = some t → args[j]? = some v → Value.okWide Tryd.prog W .any base t v := hval
  replace hA : DataW.TrodAll enc Tryd.prog W 0 (fun _ => true) true [66, 67, 68] args.toList ds ps := hA
  replace hsz : (DataW.weightsEach Tryd.prog [66, 67, 68] ds).all (· ≤ reachBytes) = true := hsz
  obtain ⟨v0, vs0, d0, ds0, p0, q0, hargs, rfl, rfl, h0, r0⟩ := trodAll_cons hA
  obtain ⟨v1, vs1, d1, ds1, p1, q1, rfl, rfl, rfl, h1, r1⟩ := trodAll_cons r0
  obtain ⟨v2, vs2, d2, ds2, p2, q2, rfl, rfl, rfl, h2, r2⟩ := trodAll_cons r1
  obtain ⟨rfl, rfl, rfl⟩ := trodAll_nil r2
  obtain rfl : args = #[v0, v1, v2] := by cases args; simp_all
  obtain ⟨c0, rfl⟩ := open_aggv (P := Tryd.prog) (t := 66) (by kernel_rfl) (hval 0 66 v0 rfl rfl)
  obtain ⟨a1, rfl, l1, w1⟩ := Go.Gb.open_strs (P := Tryd.prog) (t := 67) (e := 9) (n := 2) (by kernel_rfl) (by kernel_rfl) (by kernel_rfl) (by kernel_rfl) (hval 1 67 v1 rfl rfl) h1 hsz (j := 1) rfl rfl
  obtain ⟨a2, rfl, -, -, w2⟩ := open_int (P := Tryd.prog) (t := 68) (k := .u64) (by kernel_rfl) (hval 2 68 v2 rfl rfl) h2
  have w2 := wf_lo w2
  exact C.below fun h hs hw => gabionlaw12_RecWords.law c0 a1 l1 w1 a2 w2 h (okc_agg (d := 8) hw h0)

theorem recWords_facts0 : (Rows.recWordsRow.wf (OpenSpec.ofChange Rows.recWordsSpec) && laidOutB Tryd.pinned.checked.prog) = true := by kernel_rfl
theorem recWords_facts1 : (mapsRowed Tryd.pinned.checked.prog && Tryd.f10.params.all (Tryd.pinned.checked.prog.readableRec ·) && namedTie Tryd.pinned.checked.prog Rows.recWordsRow.named Rows.recWordsSpec.vars && (Rows.recWordsRow.stops == []) && (Tryd.pinned.checked.prog.stops == []) && (Rows.recWordsRow.knobs == []) && (Tryd.pinned.checked.prog.stopKnobs == []) && (Rows.recWordsRow.inPlace == Tryd.pinned.checked.prog.inPlace 10)) = true := by kernel_rfl
theorem recWords_facts2 : ((Rows.recWordsRow.unfollowed == Tryd.pinned.checked.prog.unfollowed 10) && (Rows.recWordsRow.recurses == Tryd.pinned.checked.prog.recurses 10)) = true := by kernel_rfl
theorem recWords_facts3 : ((Rows.recWordsRow.named == Tryd.pinned.checked.prog.varsNamed 10) && (Rows.recWordsRow.maps == (Tryd.f10.params.toList ++ Rows.recWordsSpec.plain.varTypes Tryd.pinned.checked.prog).any (Tryd.pinned.checked.prog.mapsRec ·)) && (Rows.recWordsRow.ifaces == (Tryd.f10.params.toList ++ Rows.recWordsSpec.plain.varTypes Tryd.pinned.checked.prog).any (Tryd.pinned.checked.prog.ifacesRec ·)) && (Rows.recWordsRow.mapsOut == Tryd.pinned.checked.prog.mapsAmong Tryd.f10.resultTypes.toList) && (Rows.recWordsRow.loops == (Tryd.f10.params.toList ++ Rows.recWordsSpec.plain.varTypes Tryd.pinned.checked.prog).any (Tryd.pinned.checked.prog.loopsFrom ·)) && (Rows.recWordsRow.wideKeys == (Tryd.f10.params.toList ++ Rows.recWordsSpec.plain.varTypes Tryd.pinned.checked.prog ++ Tryd.f10.resultTypes.toList).any (Tryd.pinned.checked.prog.wideKeysFrom ·))) = true := by kernel_rfl
theorem recWords_facts4 : (Rows.recWordsSpec.vars.all (Tryd.pinned.checked.prog.varReadable ·) && Tryd.f10.resultTypes.all (fun t => Tryd.pinned.checked.prog.readableRec t && decide (t < Tryd.pinned.checked.prog.types.size)) && (Rows.recWordsRow.ifacesOut == Tryd.f10.resultTypes.toList.any (Tryd.pinned.checked.prog.ifacesRec ·)) && (Rows.recWordsRow.loopsOut == Tryd.f10.resultTypes.toList.any (Tryd.pinned.checked.prog.loopsFrom ·)) && (Rows.recWordsRow.plainKeys == Tryd.pinned.checked.prog.plainKeys) && Rows.recWordsRow.shortTexts.isNone) = true := by kernel_rfl
theorem recWords_facts5 : (Tryd.pinned.checked.prog.stopsHeard && Tryd.pinned.checked.prog.mayEnter && (Rows.recWordsRow.lifted == Tryd.pinned.checked.prog.liftsFinal) && (Tryd.pinned.checked.prog.make == some Rows.recWordsRow.make) && (Rows.recWordsRow.kinds == (if Rows.recWordsRow.domain.isEmpty then [] else Tryd.f10.params.toList.map fun t => match Tryd.pinned.checked.prog.underlying t with | some (.int k) => some k | _ => none)) && (Rows.recWordsRow.pinned == Rows.recWordsRow.pinnedBy) && (Rows.recWordsRow.veiled == (Tryd.f10.params.toList ++ Rows.recWordsSpec.plain.varTypes Tryd.pinned.checked.prog ++ Tryd.f10.resultTypes.toList).any (Tryd.pinned.checked.prog.veiledRec ·)) && Rows.recWordsRow.veiledFits Tryd.pinned.checked.prog Tryd.f10.params.toList (Tryd.f10.params.toList ++ Rows.recWordsSpec.plain.varTypes Tryd.pinned.checked.prog ++ Tryd.f10.resultTypes.toList)) = true := by kernel_rfl
set_option maxRecDepth 100000 in
theorem recWords_closed : joinedFacts Tryd.pinned.checked.prog 10 Tryd.f10 Rows.recWordsSpec Rows.recWordsRow = true := (band_t (band_t (band_t (band_t (band_t (band_t (band_t (band_t (band_t (band_t (band_t (band_t (band_t (band_t (band_t (band_t (band_t (band_t (band_t (band_t (band_t (band_t (band_t (band_t (band_t (band_t (band_t (band_t (band_t (band_t (band_t (band_l recWords_facts0) (band_r recWords_facts0)) (band_l (band_l (band_l (band_l (band_l (band_l (band_l recWords_facts1)))))))) (band_r (band_l (band_l (band_l (band_l (band_l (band_l recWords_facts1)))))))) (band_r (band_l (band_l (band_l (band_l (band_l recWords_facts1))))))) (band_r (band_l (band_l (band_l (band_l recWords_facts1)))))) (band_r (band_l (band_l (band_l recWords_facts1))))) (band_r (band_l (band_l recWords_facts1)))) (band_r (band_l recWords_facts1))) (band_r recWords_facts1)) (band_l recWords_facts2)) (band_r recWords_facts2)) (band_l (band_l (band_l (band_l (band_l recWords_facts3)))))) (band_r (band_l (band_l (band_l (band_l recWords_facts3)))))) (band_r (band_l (band_l (band_l recWords_facts3))))) (band_r (band_l (band_l recWords_facts3)))) (band_r (band_l recWords_facts3))) (band_r recWords_facts3)) (band_l (band_l (band_l (band_l (band_l recWords_facts4)))))) (band_r (band_l (band_l (band_l (band_l recWords_facts4)))))) (band_r (band_l (band_l (band_l recWords_facts4))))) (band_r (band_l (band_l recWords_facts4)))) (band_r (band_l recWords_facts4))) (band_r recWords_facts4)) (band_l (band_l (band_l (band_l (band_l (band_l (band_l recWords_facts5)))))))) (band_r (band_l (band_l (band_l (band_l (band_l (band_l recWords_facts5)))))))) (band_r (band_l (band_l (band_l (band_l (band_l recWords_facts5))))))) (band_r (band_l (band_l (band_l (band_l recWords_facts5)))))) (band_r (band_l (band_l (band_l recWords_facts5))))) (band_r (band_l (band_l recWords_facts5)))) (band_r (band_l recWords_facts5))) (band_r recWords_facts5))

theorem recWords_over : Rows.recWordsRow.holds Tryd.pinned (OpenSpec.ofChange Rows.recWordsSpec) :=
  OpenClaim.holds_of_wide 10 Tryd.f10 rfl rfl rfl rfl rfl rfl rfl ⟨rfl, rfl, rfl, rfl, rfl⟩ rfl rfl rfl rfl rfl (by kernel_rfl) Tryd.func10 recWords_closed
    (of_decide_eq_true (by kernel_rfl)) (by unfold Func.isWrapper; first | (rw [if_pos (by decide +kernel)]; kernel_rfl) | (rw [if_neg (by decide +kernel)]; exact ⟨rfl, rfl⟩))
    (fun os started H enc _ => recWords_lifted os started H enc)
end Go.Gb
namespace Go.Proofs.YtcccjpahikgibaaDoor
open Go
theorem recWords_row_holds : Rows.RecWordsSaid := Go.Gb.recWords_over
set_option maxRecDepth 100000 in
theorem recWords_card_holds : Rows.RecWordsCardSaid :=
  Claim7.holds_tied_plain_at .later [] [.data, .pinned] true (true, "7d38452d88b03a32c579de485d8237651618c55d3a8606884839339dd8f6f06d") false recWords_row_holds (fun _ h => by cases h) (by kernel_rfl) (fun _ h => by cases h) recWords_row_tie rfl ⟨rfl, rfl⟩ (by kernel_rfl) rfl
    (fun f fn hf hfn => by
      obtain rfl : f = 10 := Option.some.inj ((show Tryd.prog.funcNamed "gabion/gabionlaw12.RecWords" = some 10 by kernel_rfl).symm.trans hf) |>.symm
      obtain rfl : fn = Tryd.f10 := (Option.some.inj (Tryd.func10.symm.trans hfn)).symm
      exact ⟨by kernel_rfl, fun j t ht => by
        have ht : (#[66, 67, 68] : Array Nat)[j]? = some t := ht
        have hm : t ∈ [66, 67, 68] := by simpa using Array.mem_of_getElem? ht
        have hall : ([66, 67, 68].all fun u => !Tryd.prog.wantsStandIn u) = true := by kernel_rfl
        exact (show Tryd.prog.wantsStandIn t = false by simpa using List.all_eq_true.1 hall t hm)⟩)
    (by kernel_rfl)
end Go.Proofs.YtcccjpahikgibaaDoor
#print axioms Go.Proofs.YtcccjpahikgibaaDoor.recWords_card_holds
