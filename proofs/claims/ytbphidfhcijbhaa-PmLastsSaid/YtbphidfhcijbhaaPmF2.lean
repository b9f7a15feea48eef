/- Own text for the seat: PmF2. -/
import Derived.Test.YtbphidfhcijbhaaPmF1
set_option linter.unusedVariables false
set_option linter.unusedSimpArgs false
set_option linter.unnecessarySimpa false
set_option linter.deprecated false
namespace Go.Gb
open Go.Proofs IntWalk

set_option maxRecDepth 100000 in
theorem gabionlaw03_PmLasts.law (c0 : List Value) (v : Value) (c2 : List Value) (h : Heap) (hx : Okc Try.prog h 8 24 c0) (hv : Okc Try.prog h 8 25 [v]) (hf : Okc Try.prog h 8 26 c2) :
    C Try.prog 3 #[.agg c0.toArray, v, .agg c2.toArray] h fun v h' => v = .bool true ∧ Part h h' := by
  obtain ⟨a, n, c, ks, rfl, hnc, hcm, rfl, hr⟩ := okc_bools (e := 4) (by kernel_rfl) (by kernel_rfl) (by kernel_rfl) hv
  have len0 : c0.length = 32 := okc_arrlen (t := 24) (e := 23) (n := 2) (by kernel_rfl) hx
  have len2 : c2.length = 2 := okc_arrlen (t := 26) (e := 4) (n := 2) (by kernel_rfl) hf
  obtain ⟨k1, k2⟩ := okc_each (d := 4) 4 24 (List.replicate 32 22) c0 (by kernel_rfl) hx (by rw [len0]; rfl)
  obtain ⟨X, rfl⟩ := row_of (g := Value.int .u64) 32 c0 len0 fun i v hi => by
    have hlt : i < 32 := by have := (List.getElem?_eq_some_iff.1 hi).1; omega
    obtain ⟨m, hm, -⟩ := okc_int (k := .u64) (by kernel_rfl) (k2 i 22 v (by rw [List.getElem?_replicate, if_pos hlt]) hi)
    exact ⟨m, hm⟩
  obtain ⟨g1, g2⟩ := okc_each (d := 5) 3 26 [4, 4] c2 (by kernel_rfl) hf (by rw [len2]; rfl)
  match c2, len2 with
  | [p, q], _ =>
  obtain ⟨f0, rfl⟩ := okc_bool (by kernel_rfl) (g2 0 _ _ rfl rfl)
  obtain ⟨f1, rfl⟩ := okc_bool (by kernel_rfl) (g2 1 _ _ rfl rfl)
  clear hx hv hf k1 k2 g1 g2
  have e0 : lsub (rowU 32 X) 0 16 = rowU 16 X := by
    have := lsub_row (g := Value.int .u64) X (n := 32) (o := 0) (m := 16) (by omega)
    rw [this]; simp
  have e1 : lsub (rowU 32 X) 16 16 = rowU 16 fun k => X (16 + k) := lsub_row (g := Value.int .u64) X (n := 32) (o := 16) (m := 16) (by omega)
  have o0 : ∀ f, oneCells (rowU 16 f) = true := fun f => oneCells_of fun v hv => by
    obtain ⟨k, _, rfl⟩ := List.mem_map.1 hv; rfl
  apply gabionlaw03_PmLasts.ok
  unfold gabionlaw03_PmLasts.wp
  rw [e0, e1]
  have body : ∀ (P : Prop), P → xsIf (Nat.beq (List.toArray (rowU 16 X)).size 16) (xsIf (oneCells (rowU 16 X)) (16 ≤ 16 ∧ xsIf (Nat.beq (List.toArray (rowU 16 fun k => X (16 + k))).size 16) (xsIf (oneCells (rowU 16 fun k => X (16 + k))) (16 ≤ 16 ∧ P) False) False) False) False := by
    intro P hp
    refine xsIf_t (by simp) (xsIf_t (o0 _) ⟨by omega, xsIf_t (by simp) (xsIf_t (o0 _) ⟨by omega, hp⟩)⟩)
  have lz : ∀ (f : Nat → Int) (zs : List Value), zs.length = 16 → lput zs 0 (rowU 16 f) = rowU 16 f := fun f zs hz => lput_all (by rw [hz]; simp)
  rw [lz X _ rfl, lz (fun k => X (16 + k)) _ rfl]
  refine ⟨by simp, by simp, ?_⟩
  have main : C Try.prog 12 #[.int .i64 2] h fun (r : Value) (h' : Heap) => ∃ (x_1 : Option Addr), ∃ (x_2 : Int), r = .tuple #[.pointer x_1, .int .i64 x_2] ∧
      C Try.prog 13 #[] h' fun (r : Value) (h' : Heap) => ∃ (x_3 : Bool), r = .bool x_3 ∧ xsIf (!x_3) (Value.bool false = .bool true ∧ Part h h') (xsIf (decide (x_2 ≠ 0)) (Value.bool false = .bool true ∧ Part h h') (xsIf x_1.isNone (Value.bool false = .bool true ∧ Part h h')
        (gabionlaw03_PmLasts.J5 a ks.length c x_1 f0 f1 (rowU 16 X) (rowU 16 fun k => X (16 + k)) h' fun v h' => v = .bool true ∧ Part h h'))) := by
    refine pm_New.c (n := 2) (by omega) (by omega) fun d F h1 p1 fr lv hp => ⟨_, _, rfl, gabionlaw03_wakes.c fun h2 hp2 => ⟨_, rfl, xsIf_f rfl (xsIf_f (by decide) (xsIf_f rfl ?_))⟩⟩
    have p2 : PmD F h2 d (pnew 2) := p1.keep fun k _ hk => part_live hp2 hk
    have st2 : Step F h1 F h2 := Step.of_part hp2
    apply gabionlaw03_PmLasts.J5.ok
    unfold gabionlaw03_PmLasts.J5.wp
    refine ⟨by simp, ?_⟩
    have : lsub (rowU 16 X) 0 16 = rowU 16 X := by
      have := lsub_row (g := Value.int .u64) X (n := 16) (o := 0) (m := 16) (by omega)
      rw [this]; simp
    rw [this]
    exact gabionlaw03_PmLasts.L6.c hr (fun k hk hf => hk (fr k hf)) (fun h' p => ⟨rfl, p⟩) 16 0 h2 _ (by omega) p2 (st2.dom lv) (hp.trans hp2) ⟨rfl, rfl, rfl, rfl, fun _ _ => rfl⟩ (fun w hw => by omega)
  exact ⟨body _ main, body _ main⟩
end Go.Gb
