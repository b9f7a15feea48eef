/- Own text for the seat: G15. -/
import Derived.Test.YtmonhmmnnekniaaG14
set_option linter.unusedVariables false
set_option linter.unusedSimpArgs false
set_option linter.unnecessarySimpa false
set_option linter.deprecated false
namespace Go.Gb
open Go.Proofs IntWalk

/-! ## feistel: FeistelGoes -/

theorem Part.cell {h h' : Heap} (p : Part h h') {b o : Nat} {v : Value} (hc : h.cell b o = some v) : h'.cell b o = some v := by
  unfold Heap.cell at hc ⊢
  cases hb : h b with
  | none => rw [hb] at hc; cases hc
  | some ob => rw [hb] at hc; rw [p b ob hb]; exact hc

theorem goes_k {m key k j : Nat} {i t20 t21 : Int} {t19 : Option Addr} {n19 c19 b : Nat} {h : Heap} {Q : Value → Heap → Prop} (hm : m ≤ 8192) (hkey : key < 18446744073709551616) (hk : k < m) (hj : j < 3) (hc : h.cell b (0 + j * 1) = some (.int .i64 k))
    (hq : gabionlaw08_FeistelGoes.L11 key i m t19 n19 c19 t20 t21 (some ⟨b, 0, none⟩) 3 3 ((3 : Nat) : Int) ((j + 1 : Nat) : Int) m (halfN m) (keyN key 0) (keyN key 1) (keyN key 2) (keyN key 3) h Q) :
    gabionlaw08_FeistelGoes.L11 key i m t19 n19 c19 t20 t21 (some ⟨b, 0, none⟩) 3 3 ((3 : Nat) : Int) (j : Int) m (halfN m) (keyN key 0) (keyN key 1) (keyN key 2) (keyN key 3) h Q := by
  apply gabionlaw08_FeistelGoes.L11.ok
  unfold gabionlaw08_FeistelGoes.L11.wp
  obtain ⟨k', hk'⟩ := new_goes key hm hk
  refine xsIf_t (by simp; omega) ⟨by omega, ⟨b, 0, rfl, k, by rw [Int.toNat_natCast]; exact hc, ?_⟩⟩
  refine gabionref08_To.c hm hkey hk hk' ⟨_, rfl, ?_⟩
  refine feistel_Perm_To.c (new_perm key hm) hk hk' ⟨_, rfl, xsIf_f (by simp) ?_⟩
  refine feistel_Perm_From.c (new_perm key hm) hk'.1 ((turn_perm _ _ _ _ _).goes_back (new_perm key hm).fit hk hk') ⟨_, rfl, xsIf_f (by simp) ?_⟩
  rw [i64_in _ (by omega)]
  exact hq

theorem goes_n {key b j : Nat} {n i : Int} {h : Heap} {Q : Value → Heap → Prop} (hkey : key < 18446744073709551616) (hj : j < 2) (hc : h.cell b (0 + j * 1) = some (.int .i64 n)) (hi : i ≤ 9223372036854775807)
    (hq : ∀ h', Part h h' → gabionlaw08_FeistelGoes.L2 key i (some ⟨b, 0, none⟩) 2 2 ((2 : Nat) : Int) ((j + 1 : Nat) : Int) h' Q) :
    gabionlaw08_FeistelGoes.L2 key i (some ⟨b, 0, none⟩) 2 2 ((2 : Nat) : Int) (j : Int) h Q := by
  apply gabionlaw08_FeistelGoes.L2.ok
  unfold gabionlaw08_FeistelGoes.L2.wp
  refine xsIf_t (by simp; omega) ⟨by omega, ⟨b, 0, rfl, n, by rw [Int.toNat_natCast]; exact hc, ?_⟩⟩
  by_cases hn : n < 1 ∨ 8192 < n
  · refine feistel_New.out hn ⟨_, _, _, _, _, _, _, rfl, ?_⟩
    have fin : C Try.prog 37 #[permV 0 0 0 0 0 0, .int .i64 i] h fun (r : Value) (h' : Heap) => ∃ (x : Int), r = .int .i64 x ∧ xsIf (decide (x ≠ -1)) (Q (.bool false) h')
        (C Try.prog 38 #[permV 0 0 0 0 0 0] h' fun (r : Value) (h' : Heap) => ∃ (x : Int), r = .int .i64 x ∧ xsIf (decide (x ≠ 0)) (Q (.bool false) h') (gabionlaw08_FeistelGoes.L2 key i (some ⟨b, 0, none⟩) 2 2 ((2 : Nat) : Int) (IntKind.i64.wrap ((j : Int) + 1)) h' Q)) := by
      refine feistel_Perm_To.out (by omega) ⟨_, rfl, xsIf_f (by simp) ?_⟩
      refine feistel_Perm_Size.c ⟨_, rfl, xsIf_f (by simp) ?_⟩
      rw [i64_in _ (by omega)]
      exact hq h (Part.refl h)
    refine xsIf_intro (fun _ => xsIf_f (by simp) fin) (fun h1 => xsIf_t (by simp at h1 ⊢; omega) (xsIf_f (by simp) fin))
  · obtain ⟨m, rfl⟩ : ∃ m : Nat, n = m := ⟨n.toNat, by omega⟩
    have hm : m ≤ 8192 := by omega
    have hm1 : 1 ≤ m := by omega
    refine feistel_New.c hm1 hm hkey ⟨_, _, _, _, _, _, _, rfl, ?_⟩
    refine xsIf_f (by simp; omega) (xsIf_f (by simp; omega) ?_)
    apply gabionlaw08_FeistelGoes.J8.ok
    unfold gabionlaw08_FeistelGoes.J8.wp
    refine xsIf_f (by simp) ?_
    refine feistel_Perm_Size.c ⟨_, rfl, xsIf_f (by simp) ?_⟩
    refine feistel_Perm_To.out (by omega) ⟨_, rfl, xsIf_f (by simp) ?_⟩
    refine feistel_Perm_To.out (by omega) ⟨_, rfl, xsIf_f (by simp) ?_⟩
    refine feistel_Perm_From.out (by omega) ⟨_, rfl, xsIf_f (by simp) ?_⟩
    refine feistel_Perm_From.out (by omega) ⟨_, rfl, xsIf_f (by simp) ?_⟩
    apply gabionlaw08_FeistelGoes.J10.ok
    unfold gabionlaw08_FeistelGoes.J10.wp
    refine ⟨by omega, fun b2 hb2 => ?_⟩
    obtain ⟨a, ha⟩ : ∃ a, a = imax 0 i := ⟨_, rfl⟩
    rw [← ha]
    have a0 : 0 ≤ a := by rw [ha, imax_eq]; omega
    obtain ⟨a, rfl⟩ : ∃ a' : Nat, a = a' := ⟨a.toNat, by omega⟩
    rw [irem_nat, i64_in _ (by omega), show (m : Int) - 1 = ((m - 1 : Nat) : Int) by omega]
    have hlt : a % m < m := Nat.mod_lt _ (by omega)
    generalize a % m = k0 at hlt
    refine goes_k (j := 0) (k := k0) hm hkey hlt (by omega) (by simp [Heap.cell, upd_same]) ?_
    refine goes_k (j := 1) (k := 0) hm hkey (by omega) (by omega) (by simp [Heap.cell, upd_same]) ?_
    refine goes_k (j := 2) (k := m - 1) hm hkey (by omega) (by omega) (by simp [Heap.cell, upd_same]) ?_
    apply gabionlaw08_FeistelGoes.L11.ok
    unfold gabionlaw08_FeistelGoes.L11.wp
    refine xsIf_f (by simp) ?_
    rw [i64_in _ (by omega)]
    exact hq _ (Part.upd hb2 _)

theorem gabionlaw08_FeistelGoes.law (m : Int) (hm : IntKind.i64.min ≤ m ∧ m ≤ IntKind.i64.max) (key : Int) (hk : IntKind.u64.min ≤ key ∧ key ≤ IntKind.u64.max) (i : Int) (hi : IntKind.i64.min ≤ i ∧ i ≤ IntKind.i64.max) (h : Heap) :
    C Try.prog 12 #[.int .i64 m, .int .u64 key, .int .i64 i] h fun v h' => v = .bool true ∧ Part h h' := by
  obtain ⟨key, rfl, hk'⟩ := nat_of rfl hk
  have hk' : key < 18446744073709551616 := hk'
  have hi' : i ≤ 9223372036854775807 := hi.2
  apply gabionlaw08_FeistelGoes.ok
  unfold gabionlaw08_FeistelGoes.wp
  intro b hb
  refine goes_n (j := 0) (n := m) hk' (by omega) (by simp [Heap.cell, upd_same]) hi' fun h1 p1 => ?_
  refine goes_n (j := 1) (n := IntKind.i64.wrap (1 + irem (imax 0 m) 300)) hk' (by omega) (p1.cell (by simp [Heap.cell, upd_same])) hi' fun h2 p2 => ?_
  apply gabionlaw08_FeistelGoes.L2.ok
  unfold gabionlaw08_FeistelGoes.L2.wp
  refine xsIf_f (by simp) ?_
  exact gabionlaw08_wakes.c ⟨_, rfl, rfl, (Part.upd hb _).trans (p1.trans p2)⟩

end Go.Gb
