/- Own text for the seat: RHotTorn. -/
import Derived.Test.YtjdleeamgmkbkaaGreatRows
import Derived.Test.YtjdleeamgmkbkaaGreatA10
import Derived.Test.YtjdleeamgmkbkaaGreatA11
import Derived.Test.YtjdleeamgmkbkaaGreatB7
set_option linter.unusedVariables false
set_option linter.unusedSimpArgs false
set_option linter.unnecessarySimpa false
set_option linter.deprecated false
namespace Go.Gb
open Go.Proofs Go.Proofs.YtjdleeamgmkbkaaGreat
open Go.ChangeShapes Go.WideShapes Go.ChangeAt Go.RowKit
open Go.ChangeMaps (open_string shut_string)

theorem band_t {a b : Bool} (ha : a = true) (hb : b = true) : (a && b) = true := by rw [ha, hb]; rfl
theorem band_l {a b : Bool} (h : (a && b) = true) : a = true := by cases a with | true => rfl | false => exact h
theorem band_r {a b : Bool} (h : (a && b) = true) : b = true := by cases a with | true => exact h | false => cases h

set_option maxRecDepth 100000 in
theorem hotTorn_lifted (os : Os) (started : os.Started) (H : Type) (enc : TypeId × Value → H) :
    ReturnsInHanded {} Tryz.checked os 11 .any (Rows.hotTornSpec.pre6 enc Tryz.prog Tryz.f11 Rows.hotTornRow.domain false) (Rows.hotTornSpec.post enc Tryz.prog Tryz.f11 false true false false) := by
  refine lift (C := Tryz.checked) (rt := 4) (by kernel_rfl) started (by kernel_rfl) Tryz.func11
    (ChangeSpec.witness6 (enc := enc) (C := Tryz.checked) false ⟨#[], #[.agg #[.int .i64 0, .int .i64 0, .int .i64 0, .int .i64 0, .int .i64 0, .int .u64 0], .agg #[.string ⟨#[]⟩, .string ⟨#[]⟩], .agg #[.int .u16 0, .int .u16 0, .int .u16 0]], []⟩ 8 (by kernel_rfl) (by kernel_rfl) (by kernel_rfl) (by kernel_rfl))
    (by kernel_rfl) (by kernel_rfl) rfl (by kernel_rfl) (by kernel_rfl) (fun ds hd => by match ds, hd with | [d0, d1, d2], _ => rfl) ?_
  intro W base args ds ps hval hA hsz hfz
  have hval : ∀ (j : Nat) t v, (#[103, 57, 59] : Array Nat)[j]? = some t → args[j]? = some v → Value.okWide Tryz.prog W .any base t v := hval
  replace hA : DataW.TrodAll enc Tryz.prog W 0 (fun _ => true) true [103, 57, 59] args.toList ds ps := hA
  replace hsz : (DataW.weightsEach Tryz.prog [103, 57, 59] ds).all (· ≤ reachBytes) = true := hsz
  obtain ⟨v0, vs0, d0, ds0, p0, q0, hargs, rfl, rfl, h0, r0⟩ := trodAll_cons hA
  obtain ⟨v1, vs1, d1, ds1, p1, q1, rfl, rfl, rfl, h1, r1⟩ := trodAll_cons r0
  obtain ⟨v2, vs2, d2, ds2, p2, q2, rfl, rfl, rfl, h2, r2⟩ := trodAll_cons r1
  obtain ⟨rfl, rfl, rfl⟩ := trodAll_nil r2
  obtain rfl : args = #[v0, v1, v2] := by cases args; simp_all
  obtain ⟨c0, rfl⟩ := open_aggv (P := Tryz.prog) (t := 103) (by kernel_rfl) (hval 0 103 v0 rfl rfl)
  obtain ⟨a1, rfl, l1, w1⟩ := Go.Gb.open_strs (P := Tryz.prog) (t := 57) (e := 9) (n := 2) (by kernel_rfl) (by kernel_rfl) (by kernel_rfl) (by kernel_rfl) (hval 1 57 v1 rfl rfl) h1 hsz (j := 1) rfl rfl
  obtain ⟨a2, rfl, l2, w2⟩ := Go.Gb.open_ints (P := Tryz.prog) (t := 59) (e := 58) (n := 3) (k := .u16) (by kernel_rfl) (by kernel_rfl) (by kernel_rfl) (by kernel_rfl) (hval 2 59 v2 rfl rfl) h2
  exact C.below fun h hs hw => K11.law c0 a1 l1 w1 a2 l2 w2 h (okc_agg (d := 8) hw h0)

theorem hotTorn_facts0 : (Rows.hotTornRow.wf (OpenSpec.ofChange Rows.hotTornSpec) && laidOutB Tryz.pinned.checked.prog) = true := by kernel_rfl
theorem hotTorn_facts1 : (mapsRowed Tryz.pinned.checked.prog && Tryz.f11.params.all (Tryz.pinned.checked.prog.readableRec ·) && namedTie Tryz.pinned.checked.prog Rows.hotTornRow.named Rows.hotTornSpec.vars && (Rows.hotTornRow.stops == []) && (Tryz.pinned.checked.prog.stops == []) && (Rows.hotTornRow.knobs == []) && (Tryz.pinned.checked.prog.stopKnobs == []) && (Rows.hotTornRow.inPlace == Tryz.pinned.checked.prog.inPlace 11)) = true := by kernel_rfl
theorem hotTorn_facts2 : ((Rows.hotTornRow.unfollowed == Tryz.pinned.checked.prog.unfollowed 11) && (Rows.hotTornRow.recurses == Tryz.pinned.checked.prog.recurses 11)) = true := by kernel_rfl
theorem hotTorn_facts3 : ((Rows.hotTornRow.named == Tryz.pinned.checked.prog.varsNamed 11) && (Rows.hotTornRow.maps == (Tryz.f11.params.toList ++ Rows.hotTornSpec.plain.varTypes Tryz.pinned.checked.prog).any (Tryz.pinned.checked.prog.mapsRec ·)) && (Rows.hotTornRow.ifaces == (Tryz.f11.params.toList ++ Rows.hotTornSpec.plain.varTypes Tryz.pinned.checked.prog).any (Tryz.pinned.checked.prog.ifacesRec ·)) && (Rows.hotTornRow.mapsOut == Tryz.pinned.checked.prog.mapsAmong Tryz.f11.resultTypes.toList) && (Rows.hotTornRow.loops == (Tryz.f11.params.toList ++ Rows.hotTornSpec.plain.varTypes Tryz.pinned.checked.prog).any (Tryz.pinned.checked.prog.loopsFrom ·)) && (Rows.hotTornRow.wideKeys == (Tryz.f11.params.toList ++ Rows.hotTornSpec.plain.varTypes Tryz.pinned.checked.prog ++ Tryz.f11.resultTypes.toList).any (Tryz.pinned.checked.prog.wideKeysFrom ·))) = true := by kernel_rfl
theorem hotTorn_facts4 : (Rows.hotTornSpec.vars.all (Tryz.pinned.checked.prog.varReadable ·) && Tryz.f11.resultTypes.all (fun t => Tryz.pinned.checked.prog.readableRec t && decide (t < Tryz.pinned.checked.prog.types.size)) && (Rows.hotTornRow.ifacesOut == Tryz.f11.resultTypes.toList.any (Tryz.pinned.checked.prog.ifacesRec ·)) && (Rows.hotTornRow.loopsOut == Tryz.f11.resultTypes.toList.any (Tryz.pinned.checked.prog.loopsFrom ·)) && (Rows.hotTornRow.plainKeys == Tryz.pinned.checked.prog.plainKeys) && Rows.hotTornRow.shortTexts.isNone) = true := by kernel_rfl
theorem hotTorn_facts5 : (Tryz.pinned.checked.prog.stopsHeard && Tryz.pinned.checked.prog.mayEnter && (Rows.hotTornRow.lifted == Tryz.pinned.checked.prog.liftsFinal) && (Tryz.pinned.checked.prog.make == some Rows.hotTornRow.make) && (Rows.hotTornRow.kinds == (if Rows.hotTornRow.domain.isEmpty then [] else Tryz.f11.params.toList.map fun t => match Tryz.pinned.checked.prog.underlying t with | some (.int k) => some k | _ => none)) && (Rows.hotTornRow.pinned == Rows.hotTornRow.pinnedBy) && (Rows.hotTornRow.veiled == (Tryz.f11.params.toList ++ Rows.hotTornSpec.plain.varTypes Tryz.pinned.checked.prog ++ Tryz.f11.resultTypes.toList).any (Tryz.pinned.checked.prog.veiledRec ·)) && Rows.hotTornRow.veiledFits Tryz.pinned.checked.prog Tryz.f11.params.toList (Tryz.f11.params.toList ++ Rows.hotTornSpec.plain.varTypes Tryz.pinned.checked.prog ++ Tryz.f11.resultTypes.toList)) = true := by kernel_rfl
set_option maxRecDepth 100000 in
theorem hotTorn_closed : joinedFacts Tryz.pinned.checked.prog 11 Tryz.f11 Rows.hotTornSpec Rows.hotTornRow = true := (band_t (band_t (band_t (band_t (band_t (band_t (band_t (band_t (band_t (band_t (band_t (band_t (band_t (band_t (band_t (band_t (band_t (band_t (band_t (band_t (band_t (band_t (band_t (band_t (band_t (band_t (band_t (band_t (band_t (band_t (band_t (band_l hotTorn_facts0) (band_r hotTorn_facts0)) (band_l (band_l (band_l (band_l (band_l (band_l (band_l hotTorn_facts1)))))))) (band_r (band_l (band_l (band_l (band_l (band_l (band_l hotTorn_facts1)))))))) (band_r (band_l (band_l (band_l (band_l (band_l hotTorn_facts1))))))) (band_r (band_l (band_l (band_l (band_l hotTorn_facts1)))))) (band_r (band_l (band_l (band_l hotTorn_facts1))))) (band_r (band_l (band_l hotTorn_facts1)))) (band_r (band_l hotTorn_facts1))) (band_r hotTorn_facts1)) (band_l hotTorn_facts2)) (band_r hotTorn_facts2)) (band_l (band_l (band_l (band_l (band_l hotTorn_facts3)))))) (band_r (band_l (band_l (band_l (band_l hotTorn_facts3)))))) (band_r (band_l (band_l (band_l hotTorn_facts3))))) (band_r (band_l (band_l hotTorn_facts3)))) (band_r (band_l hotTorn_facts3))) (band_r hotTorn_facts3)) (band_l (band_l (band_l (band_l (band_l hotTorn_facts4)))))) (band_r (band_l (band_l (band_l (band_l hotTorn_facts4)))))) (band_r (band_l (band_l (band_l hotTorn_facts4))))) (band_r (band_l (band_l hotTorn_facts4)))) (band_r (band_l hotTorn_facts4))) (band_r hotTorn_facts4)) (band_l (band_l (band_l (band_l (band_l (band_l (band_l hotTorn_facts5)))))))) (band_r (band_l (band_l (band_l (band_l (band_l (band_l hotTorn_facts5)))))))) (band_r (band_l (band_l (band_l (band_l (band_l hotTorn_facts5))))))) (band_r (band_l (band_l (band_l (band_l hotTorn_facts5)))))) (band_r (band_l (band_l (band_l hotTorn_facts5))))) (band_r (band_l (band_l hotTorn_facts5)))) (band_r (band_l hotTorn_facts5))) (band_r hotTorn_facts5))

theorem hotTorn_over : Rows.hotTornRow.holds Tryz.pinned (OpenSpec.ofChange Rows.hotTornSpec) :=
  OpenClaim.holds_of_wide 11 Tryz.f11 rfl rfl rfl rfl rfl rfl rfl ⟨rfl, rfl, rfl, rfl, rfl⟩ rfl rfl rfl rfl rfl (by kernel_rfl) Tryz.func11 hotTorn_closed
    (of_decide_eq_true (by kernel_rfl)) (by unfold Func.isWrapper; first | (rw [if_pos (by decide +kernel)]; kernel_rfl) | (rw [if_neg (by decide +kernel)]; exact ⟨rfl, rfl⟩))
    (fun os started H enc _ => hotTorn_lifted os started H enc)
end Go.Gb
namespace Go.Proofs.YtjdleeamgmkbkaaGreat
theorem hotTorn_holds : Rows.HotTornSaid := Go.Gb.hotTorn_over
end Go.Proofs.YtjdleeamgmkbkaaGreat
#print axioms Go.Proofs.YtjdleeamgmkbkaaGreat.hotTorn_holds
