/- Own text for the seat: PmP2. -/
import Derived.Test.YtbphidfhcijbhaaPmP1
set_option linter.unusedVariables false
set_option linter.unusedSimpArgs false
set_option linter.unnecessarySimpa false
set_option linter.deprecated false
namespace Go.Gb
open Go.Proofs IntWalk

theorem Two.start {h h1 h2 : Heap} {F G : Nat → Prop} {d m : Nat} {s : PmS} (w1 : PmD F h1 d s) (f1 : ∀ k, F k → h k = none) (lf : Live F h1) (p1 : Part h h1) (w2 : RfD G h2 m s) (f2 : ∀ k, G k → h1 k = none) (lg : Live G h2) (p2 : Part h1 h2) : Two h h2 F G d m s :=
  ⟨w1.keep fun _ _ hk => part_live p2 hk, w2, (Step.of_part p2).dom lf, lg, fun k hg hf => lf k hf (f2 k hg), p1.trans p2, fun k hk hf => hk (f1 k hf), fun k hk hg => by
    have := f2 k hg
    rw [part_live p1 hk] at this; exact hk this⟩

structure Act3 where
  a0 : Int
  a1 : Int
  a2 : Int
  ka : Option Addr
  kc : Nat
  ks : List Bool
def Act3.row (x : Act3) : List Value := [.int .i64 x.a0, .int .i64 x.a1, .int .u64 x.a2, .slice x.ka x.ks.length x.kc]
theorem Act3.row_length (x : Act3) : x.row.length = 4 := rfl

set_option maxRecDepth 100000 in
theorem gabionlaw03_PmPlays.law (lines : Int) (hl : IntKind.i64.min ≤ lines ∧ lines ≤ IntKind.i64.max) (v : Value) (h : Heap) (hv : Okc Try.prog h 8 47 [v]) :
    C Try.prog 5 #[.int .i64 lines, v] h fun v h' => v = .bool true ∧ Part h h' := by
  obtain ⟨a, n, c, dss, rfl, hnc, hcm, hl, hb, hr⟩ := okc_slice (e := 51) (sz := 4) (by kernel_rfl) (by kernel_rfl) (by omega) hv
  obtain ⟨acts, rfl, hacts⟩ := typed (f := Act3.row) (p := fun x => x.a1 < 9223372036854775808 ∧ readsAt h x.ka (x.ks.map Value.bool) ∧ x.ks.length ≤ x.kc) dss (fun ds hds => by
    obtain ⟨h1, h2⟩ := hb ds hds
    obtain ⟨e1, e2⟩ := okc_each (d := 2) 5 51 [3, 3, 22, 25] ds (by kernel_rfl) h2 (by rw [h1]; rfl)
    match ds, h1 with
    | [p, q, r, s], _ =>
      obtain ⟨x0, rfl, -⟩ := okc_int (k := .i64) (by kernel_rfl) (e2 0 _ _ rfl rfl)
      obtain ⟨x1, rfl, h3⟩ := okc_int (k := .i64) (by kernel_rfl) (e2 1 _ _ rfl rfl)
      obtain ⟨x2, rfl, -⟩ := okc_int (k := .u64) (by kernel_rfl) (e2 2 _ _ rfl rfl)
      obtain ⟨ka, kn, kc, ks, rfl, h4, h5, rfl, h6⟩ := okc_bools (d := 0) (e := 4) (by kernel_rfl) (by kernel_rfl) (by kernel_rfl) (e2 3 _ _ rfl rfl)
      exact ⟨⟨x0, x1, x2, ka, kc, ks⟩, rfl, by have : x1 ≤ 9223372036854775807 := h3.2; show x1 < 9223372036854775808; omega, h6, h4⟩)
  rw [List.length_map] at hl
  rw [← List.flatMap_def] at hr
  apply gabionlaw03_PmPlays.ok
  unfold gabionlaw03_PmPlays.wp
  obtain ⟨nl, hnl, n1, n4⟩ : ∃ nl : Nat, IntKind.i64.wrap (1 + irem (imax 0 lines) 4) = (nl : Int) ∧ 1 ≤ nl ∧ nl ≤ 4 := by
    obtain ⟨q, hq⟩ : ∃ q : Nat, imax 0 lines = q := ⟨(imax 0 lines).toNat, by rw [imax_eq]; omega⟩
    refine ⟨1 + q % 4, ?_, by omega, by omega⟩
    rw [hq, show (4 : Int) = ((4 : Nat) : Int) from rfl, irem_nat, i64_in _ (by omega)]; omega
  rw [hnl]
  refine pm_New.c n1 (by omega) fun d F h1 w1 fr1 lv1 p1 => ⟨_, _, rfl, gabionref03_New.c n1 (by omega) fun m G h2 w2 fr2 lv2 p2 => ⟨_, rfl, gabionlaw03_wakes.c fun h3 p3 => ⟨_, rfl, xsIf_f rfl (xsIf_f (by decide) (xsIf_f rfl ?_))⟩⟩⟩
  have i3 := (Two.start w1 fr1 lv1 p1 w2 fr2 lv2 p2).part p3
  apply gabionlaw03_PmPlays.J6.ok
  unfold gabionlaw03_PmPlays.J6.wp
  have hmn : imin (n : Int) 80 = ((min n 80 : Nat) : Int) := by rw [imin_eq]; omega
  rw [hmn, slBase0]
  refine ⟨by omega, ?_⟩
  have e1 : (((min n 80 : Nat) : Int) - 0).toNat = min n 80 := by omega
  rw [e1]
  have loop : ∀ (jj j : Nat) (h' : Heap) (s : PmS), j + jj = min n 80 → Two h h' F G d m s →
      gabionlaw03_PmPlays.L7 (some ⟨d, 0, none⟩) (some ⟨m, 0, none⟩) a (min n 80) ((c : Int) - 0).toNat ((min n 80 : Nat) : Int) j h' fun v h' => v = .bool true ∧ Part h h' := by
    intro jj
    induction jj with
    | zero =>
      intro j h' s hj i
      apply gabionlaw03_PmPlays.L7.ok
      exact xsIf_f (decide_eq_false (by omega)) ⟨rfl, i.p⟩
    | succ jj ih =>
      intro j h' s hj i
      apply gabionlaw03_PmPlays.L7.ok
      have hjl : j < acts.length := by omega
      have hg : acts[j]? = some acts[j] := List.getElem?_eq_getElem hjl
      refine xsIf_t (decide_eq_true (by omega)) ⟨by omega, ?_⟩
      refine reads_base (readsAt_part hr i.p) (by rw [flat_length Act3.row_length]; omega) fun b o hcell => ?_
      have key : ∀ q, q < 4 → h'.cell b (o + j * 4 + q) = (acts[j].row)[q]? := fun q hq => by
        have := hcell (j * 4 + q) (by rw [flat_length Act3.row_length]; omega)
        rw [Nat.mul_one, flat_get Act3.row_length acts j q _ hg hq] at this
        rw [← this]; congr 1; omega
      rw [Int.toNat_natCast]
      obtain ⟨ha1, ha2, ha3⟩ := hacts _ (List.getElem_mem hjl)
      refine ⟨_, key 0 (by omega), _, key 1 (by omega), _, key 2 (by omega), _, _, _, key 3 (by omega), ?_⟩
      refine gabionlaw03_does.c i ha1 ha2 ha3 fun h2 s2 i2 => ⟨_, rfl, xsIf_f rfl (gabionlaw03_same.c i2 fun h3 p3 => ⟨_, rfl, xsIf_f rfl ?_⟩)⟩
      rw [show IntKind.i64.wrap ((j : Int) + 1) = ((j + 1 : Nat) : Int) by rw [i64_in _ (by omega)]; omega]
      exact ih (j + 1) h3 s2 (by omega) (i2.part p3)
  exact loop (min n 80) 0 h3 _ (by omega) i3
end Go.Gb
