/- Own text for the seat: RRecBytes. -/
import Derived.Test.YtcccjpahikgibaaDoorRows
import Derived.Test.YtcccjpahikgibaaDoorCards
import Derived.Test.YtcccjpahikgibaaDoorTie
import Derived.Test.YtcccjpahikgibaaDoorA14
import Derived.Stop.Joined
import Derived.Test.YtcccjpahikgibaaDoorA12
import Derived.Test.YtcccjpahikgibaaDoorA13
import Derived.Test.YtcccjpahikgibaaDoorB7
set_option linter.unusedVariables false
set_option linter.unusedSimpArgs false
set_option linter.unnecessarySimpa false
set_option linter.deprecated false
namespace Go.Gb
open Go.Proofs Go.Proofs.YtcccjpahikgibaaDoor
open Go.ChangeShapes Go.WideShapes Go.ChangeAt Go.RowKit
open Go.ChangeMaps (open_string shut_string)

theorem band_t {a b : Bool} (ha : a = true) (hb : b = true) : (a && b) = true := by rw [ha, hb]; rfl
theorem band_l {a b : Bool} (h : (a && b) = true) : a = true := by cases a with | true => rfl | false => exact h
theorem band_r {a b : Bool} (h : (a && b) = true) : b = true := by cases a with | true => exact h | false => cases h

set_option maxRecDepth 100000 in
theorem recBytes_lifted (os : Os) (started : os.Started) (H : Type) (enc : TypeId × Value → H) :
    ReturnsInHanded {} Tryd.checked os 7 .any (fun w args => (Rows.recBytesSpec.pre enc Tryd.prog Tryd.f7 Rows.recBytesRow.domain false w args ∧ laidMetH Tryd.prog Rows.recBytesRow.laid w) ∧ sizedMet enc Tryd.prog Tryd.f7 (OpenSpec.ofChange Rows.recBytesSpec) false w args) (Rows.recBytesSpec.post enc Tryd.prog Tryd.f7 false true false false) := by
  refine liftX (C := Tryd.checked) (X := fun w _ => laidMetH Tryd.prog Rows.recBytesRow.laid w) (rt := 4) (fun _ _ _ hh h => h.of_heap hh) (by kernel_rfl) started (by kernel_rfl) Tryd.func7
    (ChangeSpec.witness_shaped (enc := enc) (C := Tryd.checked) (os := os) (X := fun w _ => laidMetH Tryd.prog Rows.recBytesRow.laid w) false (World.laidAll Tryd.prog os Rows.recBytesRow.laid) #[.agg #[.int .u32 0, .int .u32 0, .int .u32 0], .int .u8 0, .string ⟨#[]⟩] 8 (World.laidAll_os _ _ _)
      (World.shaped_of_ZipB (by kernel_rfl) (by kernel_rfl)) (by kernel_rfl) (by kernel_rfl) (by kernel_rfl)
      (by rw [MakeChecks.laidMetH_plain _ _ _ (by kernel_rfl)]; exact laidMet_laidAll _ (by kernel_rfl) (by kernel_rfl)))
    (by kernel_rfl) (by kernel_rfl) rfl (by kernel_rfl) (by kernel_rfl) (fun ds hd => by match ds, hd with | [d0, d1, d2], _ => rfl) ?_
  intro W base args ds ps hval hA hsz hfz
  have hval : ∀ (j : Nat) t v, (#[43, 5, 9] : Array Nat)[j]? = some t → args[j]? = some v → Value.okWide Tryd.prog W .any base t v := hval
  replace hA : DataW.TrodAll enc Tryd.prog W 0 (fun _ => true) true [43, 5, 9] args.toList ds ps := hA
  replace hsz : (DataW.weightsEach Tryd.prog [43, 5, 9] ds).all (· ≤ reachBytes) = true := hsz
  obtain ⟨v0, vs0, d0, ds0, p0, q0, hargs, rfl, rfl, h0, r0⟩ := trodAll_cons hA
  obtain ⟨v1, vs1, d1, ds1, p1, q1, rfl, rfl, rfl, h1, r1⟩ := trodAll_cons r0
  obtain ⟨v2, vs2, d2, ds2, p2, q2, rfl, rfl, rfl, h2, r2⟩ := trodAll_cons r1
  obtain ⟨rfl, rfl, rfl⟩ := trodAll_nil r2
  obtain rfl : args = #[v0, v1, v2] := by cases args; simp_all
  obtain ⟨a0, rfl, l0, w0⟩ := Go.Gb.open_ints (P := Tryd.prog) (t := 43) (e := 42) (n := 3) (k := .u32) (by kernel_rfl) (by kernel_rfl) (by kernel_rfl) (by kernel_rfl) (hval 0 43 v0 rfl rfl) h0
  obtain ⟨a1, rfl, -, -, w1⟩ := open_int (P := Tryd.prog) (t := 5) (k := .u8) (by kernel_rfl) (hval 1 5 v1 rfl rfl) h1
  have w1 := wf_lo w1
  obtain ⟨a2, rfl, rfl, -, -⟩ := open_string (P := Tryd.prog) (t := 9) (by kernel_rfl) (hval 2 9 v2 rfl rfl) h2
  have w2 : a2.size ≤ 140737488351232 := by
    have z := sized_string hsz (j := 2) (t := 9) rfl rfl
    rw [Array.length_toList] at z
    exact z
  exact C.below fun h hs hw => gabionlaw12_RecBytes.law a0 l0 w0 a1 w1 a2 w2 h 

theorem recBytes_facts0 : (Rows.recBytesRow.wf (OpenSpec.ofChange Rows.recBytesSpec) && laidOutB Tryd.pinned.checked.prog) = true := by kernel_rfl
theorem recBytes_facts1 : (mapsRowed Tryd.pinned.checked.prog && Tryd.f7.params.all (Tryd.pinned.checked.prog.readableRec ·) && namedTie Tryd.pinned.checked.prog Rows.recBytesRow.named Rows.recBytesSpec.vars && (Rows.recBytesRow.stops == []) && (Tryd.pinned.checked.prog.stops == []) && (Rows.recBytesRow.knobs == []) && (Tryd.pinned.checked.prog.stopKnobs == []) && (Rows.recBytesRow.inPlace == Tryd.pinned.checked.prog.inPlace 7)) = true := by kernel_rfl
theorem recBytes_facts2 : ((Rows.recBytesRow.unfollowed == Tryd.pinned.checked.prog.unfollowed 7) && (Rows.recBytesRow.recurses == Tryd.pinned.checked.prog.recurses 7)) = true := by kernel_rfl
theorem recBytes_facts3 : ((Rows.recBytesRow.named == Tryd.pinned.checked.prog.varsNamed 7) && (Rows.recBytesRow.maps == (Tryd.f7.params.toList ++ Rows.recBytesSpec.plain.varTypes Tryd.pinned.checked.prog).any (Tryd.pinned.checked.prog.mapsRec ·)) && (Rows.recBytesRow.ifaces == (Tryd.f7.params.toList ++ Rows.recBytesSpec.plain.varTypes Tryd.pinned.checked.prog).any (Tryd.pinned.checked.prog.ifacesRec ·)) && (Rows.recBytesRow.mapsOut == Tryd.pinned.checked.prog.mapsAmong Tryd.f7.resultTypes.toList) && (Rows.recBytesRow.loops == (Tryd.f7.params.toList ++ Rows.recBytesSpec.plain.varTypes Tryd.pinned.checked.prog).any (Tryd.pinned.checked.prog.loopsFrom ·)) && (Rows.recBytesRow.wideKeys == (Tryd.f7.params.toList ++ Rows.recBytesSpec.plain.varTypes Tryd.pinned.checked.prog ++ Tryd.f7.resultTypes.toList).any (Tryd.pinned.checked.prog.wideKeysFrom ·))) = true := by kernel_rfl
theorem recBytes_facts4 : (Rows.recBytesSpec.vars.all (Tryd.pinned.checked.prog.varReadable ·) && Tryd.f7.resultTypes.all (fun t => Tryd.pinned.checked.prog.readableRec t && decide (t < Tryd.pinned.checked.prog.types.size)) && (Rows.recBytesRow.ifacesOut == Tryd.f7.resultTypes.toList.any (Tryd.pinned.checked.prog.ifacesRec ·)) && (Rows.recBytesRow.loopsOut == Tryd.f7.resultTypes.toList.any (Tryd.pinned.checked.prog.loopsFrom ·)) && (Rows.recBytesRow.plainKeys == Tryd.pinned.checked.prog.plainKeys) && Rows.recBytesRow.shortTexts.isNone) = true := by kernel_rfl
theorem recBytes_facts5 : (Tryd.pinned.checked.prog.stopsHeard && Tryd.pinned.checked.prog.mayEnter && (Rows.recBytesRow.lifted == Tryd.pinned.checked.prog.liftsFinal) && (Tryd.pinned.checked.prog.make == some Rows.recBytesRow.make) && (Rows.recBytesRow.kinds == (if Rows.recBytesRow.domain.isEmpty then [] else Tryd.f7.params.toList.map fun t => match Tryd.pinned.checked.prog.underlying t with | some (.int k) => some k | _ => none)) && (Rows.recBytesRow.pinned == Rows.recBytesRow.pinnedBy) && (Rows.recBytesRow.veiled == (Tryd.f7.params.toList ++ Rows.recBytesSpec.plain.varTypes Tryd.pinned.checked.prog ++ Tryd.f7.resultTypes.toList).any (Tryd.pinned.checked.prog.veiledRec ·)) && Rows.recBytesRow.veiledFits Tryd.pinned.checked.prog Tryd.f7.params.toList (Tryd.f7.params.toList ++ Rows.recBytesSpec.plain.varTypes Tryd.pinned.checked.prog ++ Tryd.f7.resultTypes.toList)) = true := by kernel_rfl
set_option maxRecDepth 100000 in
theorem recBytes_closed : joinedFacts Tryd.pinned.checked.prog 7 Tryd.f7 Rows.recBytesSpec Rows.recBytesRow = true := (band_t (band_t (band_t (band_t (band_t (band_t (band_t (band_t (band_t (band_t (band_t (band_t (band_t (band_t (band_t (band_t (band_t (band_t (band_t (band_t (band_t (band_t (band_t (band_t (band_t (band_t (band_t (band_t (band_t (band_t (band_t (band_l recBytes_facts0) (band_r recBytes_facts0)) (band_l (band_l (band_l (band_l (band_l (band_l (band_l recBytes_facts1)))))))) (band_r (band_l (band_l (band_l (band_l (band_l (band_l recBytes_facts1)))))))) (band_r (band_l (band_l (band_l (band_l (band_l recBytes_facts1))))))) (band_r (band_l (band_l (band_l (band_l recBytes_facts1)))))) (band_r (band_l (band_l (band_l recBytes_facts1))))) (band_r (band_l (band_l recBytes_facts1)))) (band_r (band_l recBytes_facts1))) (band_r recBytes_facts1)) (band_l recBytes_facts2)) (band_r recBytes_facts2)) (band_l (band_l (band_l (band_l (band_l recBytes_facts3)))))) (band_r (band_l (band_l (band_l (band_l recBytes_facts3)))))) (band_r (band_l (band_l (band_l recBytes_facts3))))) (band_r (band_l (band_l recBytes_facts3)))) (band_r (band_l recBytes_facts3))) (band_r recBytes_facts3)) (band_l (band_l (band_l (band_l (band_l recBytes_facts4)))))) (band_r (band_l (band_l (band_l (band_l recBytes_facts4)))))) (band_r (band_l (band_l (band_l recBytes_facts4))))) (band_r (band_l (band_l recBytes_facts4)))) (band_r (band_l recBytes_facts4))) (band_r recBytes_facts4)) (band_l (band_l (band_l (band_l (band_l (band_l (band_l recBytes_facts5)))))))) (band_r (band_l (band_l (band_l (band_l (band_l (band_l recBytes_facts5)))))))) (band_r (band_l (band_l (band_l (band_l (band_l recBytes_facts5))))))) (band_r (band_l (band_l (band_l (band_l recBytes_facts5)))))) (band_r (band_l (band_l (band_l recBytes_facts5))))) (band_r (band_l (band_l recBytes_facts5)))) (band_r (band_l recBytes_facts5))) (band_r recBytes_facts5))

theorem recBytes_over : Rows.recBytesRow.holds Tryd.pinned (OpenSpec.ofChange Rows.recBytesSpec) :=
  OpenClaim.holds_of_wide 7 Tryd.f7 rfl rfl rfl rfl rfl rfl rfl ⟨rfl, rfl, rfl, rfl, rfl⟩ rfl rfl rfl rfl rfl (by kernel_rfl) Tryd.func7 recBytes_closed
    (of_decide_eq_true (by kernel_rfl)) (by unfold Func.isWrapper; first | (rw [if_pos (by decide +kernel)]; kernel_rfl) | (rw [if_neg (by decide +kernel)]; exact ⟨rfl, rfl⟩))
    (fun os started H enc _ => recBytes_lifted os started H enc)
end Go.Gb
namespace Go.Proofs.YtcccjpahikgibaaDoor
open Go
theorem recBytes_row_holds : Rows.RecBytesSaid := Go.Gb.recBytes_over
set_option maxRecDepth 100000 in
theorem recBytes_card_holds : Rows.RecBytesCardSaid :=
  Claim7.holds_tied_plain_at .later [] [.data, .pinned] true (true, "7d38452d88b03a32c579de485d8237651618c55d3a8606884839339dd8f6f06d") false recBytes_row_holds (fun _ h => by cases h) (by kernel_rfl) (fun _ h => by cases h) recBytes_row_tie rfl ⟨rfl, rfl⟩ (by kernel_rfl) rfl
    (fun f fn hf hfn => by
      obtain rfl : f = 7 := Option.some.inj ((show Tryd.prog.funcNamed "gabion/gabionlaw12.RecBytes" = some 7 by kernel_rfl).symm.trans hf) |>.symm
      obtain rfl : fn = Tryd.f7 := (Option.some.inj (Tryd.func7.symm.trans hfn)).symm
      exact ⟨by kernel_rfl, fun j t ht => by
        have ht : (#[43, 5, 9] : Array Nat)[j]? = some t := ht
        have hm : t ∈ [43, 5, 9] := by simpa using Array.mem_of_getElem? ht
        have hall : ([43, 5, 9].all fun u => !Tryd.prog.wantsStandIn u) = true := by kernel_rfl
        exact (show Tryd.prog.wantsStandIn t = false by simpa using List.all_eq_true.1 hall t hm)⟩)
    (by kernel_rfl)
end Go.Proofs.YtcccjpahikgibaaDoor
#print axioms Go.Proofs.YtcccjpahikgibaaDoor.recBytes_card_holds
