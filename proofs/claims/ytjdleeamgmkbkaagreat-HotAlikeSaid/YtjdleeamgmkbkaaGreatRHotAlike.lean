/- Own text for the seat: RHotAlike. -/
import Derived.Test.YtjdleeamgmkbkaaGreatRows
import Derived.Test.YtjdleeamgmkbkaaGreatA10
import Derived.Test.YtjdleeamgmkbkaaGreatA11
import Derived.Test.YtjdleeamgmkbkaaGreatB7
set_option linter.unusedVariables false
set_option linter.unusedSimpArgs false
set_option linter.unnecessarySimpa false
set_option linter.deprecated false
namespace Go.Gb
open Go.Proofs Go.Proofs.YtjdleeamgmkbkaaGreat
open Go.ChangeShapes Go.WideShapes Go.ChangeAt Go.RowKit
open Go.ChangeMaps (open_string shut_string)

theorem band_t {a b : Bool} (ha : a = true) (hb : b = true) : (a && b) = true := by rw [ha, hb]; rfl
theorem band_l {a b : Bool} (h : (a && b) = true) : a = true := by cases a with | true => rfl | false => exact h
theorem band_r {a b : Bool} (h : (a && b) = true) : b = true := by cases a with | true => exact h | false => cases h

set_option maxRecDepth 100000 in
theorem hotAlike_lifted (os : Os) (started : os.Started) (H : Type) (enc : TypeId × Value → H) :
    ReturnsInHanded {} Tryz.checked os 9 .any (Rows.hotAlikeSpec.pre6 enc Tryz.prog Tryz.f9 Rows.hotAlikeRow.domain false) (Rows.hotAlikeSpec.post enc Tryz.prog Tryz.f9 false true false false) := by
  refine lift (C := Tryz.checked) (rt := 4) (by kernel_rfl) started (by kernel_rfl) Tryz.func9
    (ChangeSpec.witness6 (enc := enc) (C := Tryz.checked) false ⟨#[], #[.agg #[.int .i64 0, .int .i64 0, .int .i64 0, .int .i64 0, .int .i64 0, .int .u64 0], .int .u8 0, .slice none 0 0], []⟩ 8 (by kernel_rfl) (by kernel_rfl) (by kernel_rfl) (by kernel_rfl))
    (by kernel_rfl) (by kernel_rfl) rfl (by kernel_rfl) (by kernel_rfl) (fun ds hd => by match ds, hd with | [d0, d1, d2], _ => rfl) ?_
  intro W base args ds ps hval hA hsz hfz
  have hval : ∀ (j : Nat) t v, (#[103, 5, 104] : Array Nat)[j]? = some t → args[j]? = some v → Value.okWide Tryz.prog W .any base t v := hval
  replace hA : DataW.TrodAll enc Tryz.prog W 0 (fun _ => true) true [103, 5, 104] args.toList ds ps := hA
  replace hsz : (DataW.weightsEach Tryz.prog [103, 5, 104] ds).all (· ≤ reachBytes) = true := hsz
  obtain ⟨v0, vs0, d0, ds0, p0, q0, hargs, rfl, rfl, h0, r0⟩ := trodAll_cons hA
  obtain ⟨v1, vs1, d1, ds1, p1, q1, rfl, rfl, rfl, h1, r1⟩ := trodAll_cons r0
  obtain ⟨v2, vs2, d2, ds2, p2, q2, rfl, rfl, rfl, h2, r2⟩ := trodAll_cons r1
  obtain ⟨rfl, rfl, rfl⟩ := trodAll_nil r2
  obtain rfl : args = #[v0, v1, v2] := by cases args; simp_all
  obtain ⟨c0, rfl⟩ := open_aggv (P := Tryz.prog) (t := 103) (by kernel_rfl) (hval 0 103 v0 rfl rfl)
  obtain ⟨a1, rfl, -, -, w1⟩ := open_int (P := Tryz.prog) (t := 5) (k := .u8) (by kernel_rfl) (hval 1 5 v1 rfl rfl) h1
  have w1 := wf_lo w1
  exact C.below fun h hs hw => K9.law c0 a1 w1 v2 h (okc_agg (d := 8) hw h0) (open_cell (d := 8) hw (by kernel_rfl) (hval 2 104 v2 rfl rfl) h2)

theorem hotAlike_facts0 : (Rows.hotAlikeRow.wf (OpenSpec.ofChange Rows.hotAlikeSpec) && laidOutB Tryz.pinned.checked.prog) = true := by kernel_rfl
theorem hotAlike_facts1 : (mapsRowed Tryz.pinned.checked.prog && Tryz.f9.params.all (Tryz.pinned.checked.prog.readableRec ·) && namedTie Tryz.pinned.checked.prog Rows.hotAlikeRow.named Rows.hotAlikeSpec.vars && (Rows.hotAlikeRow.stops == []) && (Tryz.pinned.checked.prog.stops == []) && (Rows.hotAlikeRow.knobs == []) && (Tryz.pinned.checked.prog.stopKnobs == []) && (Rows.hotAlikeRow.inPlace == Tryz.pinned.checked.prog.inPlace 9)) = true := by kernel_rfl
theorem hotAlike_facts2 : ((Rows.hotAlikeRow.unfollowed == Tryz.pinned.checked.prog.unfollowed 9) && (Rows.hotAlikeRow.recurses == Tryz.pinned.checked.prog.recurses 9)) = true := by kernel_rfl
theorem hotAlike_facts3 : ((Rows.hotAlikeRow.named == Tryz.pinned.checked.prog.varsNamed 9) && (Rows.hotAlikeRow.maps == (Tryz.f9.params.toList ++ Rows.hotAlikeSpec.plain.varTypes Tryz.pinned.checked.prog).any (Tryz.pinned.checked.prog.mapsRec ·)) && (Rows.hotAlikeRow.ifaces == (Tryz.f9.params.toList ++ Rows.hotAlikeSpec.plain.varTypes Tryz.pinned.checked.prog).any (Tryz.pinned.checked.prog.ifacesRec ·)) && (Rows.hotAlikeRow.mapsOut == Tryz.pinned.checked.prog.mapsAmong Tryz.f9.resultTypes.toList) && (Rows.hotAlikeRow.loops == (Tryz.f9.params.toList ++ Rows.hotAlikeSpec.plain.varTypes Tryz.pinned.checked.prog).any (Tryz.pinned.checked.prog.loopsFrom ·)) && (Rows.hotAlikeRow.wideKeys == (Tryz.f9.params.toList ++ Rows.hotAlikeSpec.plain.varTypes Tryz.pinned.checked.prog ++ Tryz.f9.resultTypes.toList).any (Tryz.pinned.checked.prog.wideKeysFrom ·))) = true := by kernel_rfl
theorem hotAlike_facts4 : (Rows.hotAlikeSpec.vars.all (Tryz.pinned.checked.prog.varReadable ·) && Tryz.f9.resultTypes.all (fun t => Tryz.pinned.checked.prog.readableRec t && decide (t < Tryz.pinned.checked.prog.types.size)) && (Rows.hotAlikeRow.ifacesOut == Tryz.f9.resultTypes.toList.any (Tryz.pinned.checked.prog.ifacesRec ·)) && (Rows.hotAlikeRow.loopsOut == Tryz.f9.resultTypes.toList.any (Tryz.pinned.checked.prog.loopsFrom ·)) && (Rows.hotAlikeRow.plainKeys == Tryz.pinned.checked.prog.plainKeys) && Rows.hotAlikeRow.shortTexts.isNone) = true := by kernel_rfl
theorem hotAlike_facts5 : (Tryz.pinned.checked.prog.stopsHeard && Tryz.pinned.checked.prog.mayEnter && (Rows.hotAlikeRow.lifted == Tryz.pinned.checked.prog.liftsFinal) && (Tryz.pinned.checked.prog.make == some Rows.hotAlikeRow.make) && (Rows.hotAlikeRow.kinds == (if Rows.hotAlikeRow.domain.isEmpty then [] else Tryz.f9.params.toList.map fun t => match Tryz.pinned.checked.prog.underlying t with | some (.int k) => some k | _ => none)) && (Rows.hotAlikeRow.pinned == Rows.hotAlikeRow.pinnedBy) && (Rows.hotAlikeRow.veiled == (Tryz.f9.params.toList ++ Rows.hotAlikeSpec.plain.varTypes Tryz.pinned.checked.prog ++ Tryz.f9.resultTypes.toList).any (Tryz.pinned.checked.prog.veiledRec ·)) && Rows.hotAlikeRow.veiledFits Tryz.pinned.checked.prog Tryz.f9.params.toList (Tryz.f9.params.toList ++ Rows.hotAlikeSpec.plain.varTypes Tryz.pinned.checked.prog ++ Tryz.f9.resultTypes.toList)) = true := by kernel_rfl
set_option maxRecDepth 100000 in
theorem hotAlike_closed : joinedFacts Tryz.pinned.checked.prog 9 Tryz.f9 Rows.hotAlikeSpec Rows.hotAlikeRow = true := (band_t (band_t (band_t (band_t (band_t (band_t (band_t (band_t (band_t (band_t (band_t (band_t (band_t (band_t (band_t (band_t (band_t (band_t (band_t (band_t (band_t (band_t (band_t (band_t (band_t (band_t (band_t (band_t (band_t (band_t (band_t (band_l hotAlike_facts0) (band_r hotAlike_facts0)) (band_l (band_l (band_l (band_l (band_l (band_l (band_l hotAlike_facts1)))))))) (band_r (band_l (band_l (band_l (band_l (band_l (band_l hotAlike_facts1)))))))) (band_r (band_l (band_l (band_l (band_l (band_l hotAlike_facts1))))))) (band_r (band_l (band_l (band_l (band_l hotAlike_facts1)))))) (band_r (band_l (band_l (band_l hotAlike_facts1))))) (band_r (band_l (band_l hotAlike_facts1)))) (band_r (band_l hotAlike_facts1))) (band_r hotAlike_facts1)) (band_l hotAlike_facts2)) (band_r hotAlike_facts2)) (band_l (band_l (band_l (band_l (band_l hotAlike_facts3)))))) (band_r (band_l (band_l (band_l (band_l hotAlike_facts3)))))) (band_r (band_l (band_l (band_l hotAlike_facts3))))) (band_r (band_l (band_l hotAlike_facts3)))) (band_r (band_l hotAlike_facts3))) (band_r hotAlike_facts3)) (band_l (band_l (band_l (band_l (band_l hotAlike_facts4)))))) (band_r (band_l (band_l (band_l (band_l hotAlike_facts4)))))) (band_r (band_l (band_l (band_l hotAlike_facts4))))) (band_r (band_l (band_l hotAlike_facts4)))) (band_r (band_l hotAlike_facts4))) (band_r hotAlike_facts4)) (band_l (band_l (band_l (band_l (band_l (band_l (band_l hotAlike_facts5)))))))) (band_r (band_l (band_l (band_l (band_l (band_l (band_l hotAlike_facts5)))))))) (band_r (band_l (band_l (band_l (band_l (band_l hotAlike_facts5))))))) (band_r (band_l (band_l (band_l (band_l hotAlike_facts5)))))) (band_r (band_l (band_l (band_l hotAlike_facts5))))) (band_r (band_l (band_l hotAlike_facts5)))) (band_r (band_l hotAlike_facts5))) (band_r hotAlike_facts5))

theorem hotAlike_over : Rows.hotAlikeRow.holds Tryz.pinned (OpenSpec.ofChange Rows.hotAlikeSpec) :=
  OpenClaim.holds_of_wide 9 Tryz.f9 rfl rfl rfl rfl rfl rfl rfl ⟨rfl, rfl, rfl, rfl, rfl⟩ rfl rfl rfl rfl rfl (by kernel_rfl) Tryz.func9 hotAlike_closed
    (of_decide_eq_true (by kernel_rfl)) (by unfold Func.isWrapper; first | (rw [if_pos (by decide +kernel)]; kernel_rfl) | (rw [if_neg (by decide +kernel)]; exact ⟨rfl, rfl⟩))
    (fun os started H enc _ => hotAlike_lifted os started H enc)
end Go.Gb
namespace Go.Proofs.YtjdleeamgmkbkaaGreat
theorem hotAlike_holds : Rows.HotAlikeSaid := Go.Gb.hotAlike_over
end Go.Proofs.YtjdleeamgmkbkaaGreat
#print axioms Go.Proofs.YtjdleeamgmkbkaaGreat.hotAlike_holds
