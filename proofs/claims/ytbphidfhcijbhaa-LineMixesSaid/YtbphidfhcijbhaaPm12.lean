/- Own text for the seat: Pm12. -/
import Derived.Test.YtbphidfhcijbhaaPm11
set_option linter.unusedVariables false
set_option linter.unusedSimpArgs false
set_option linter.unnecessarySimpa false
set_option linter.deprecated false
namespace Go.Gb
open Go.Proofs IntWalk

theorem fresh_ne {h : Heap} {b k : Nat} {o : Obj} (e : upd h b o k = none) : k ≠ b ∧ h k = none := by
  have hk : k ≠ b := fun e1 => by rw [e1, upd_same] at e; cases e
  exact ⟨hk, by rw [upd_ne hk] at e; exact e⟩

theorem xsMk_i {P : Program} {T : TypeId} {h : Heap} {n : Int} {K : Option Addr → Nat → Nat → Heap → Prop} (h0 : 0 ≤ n) (h1 : n ≤ 65536) (h2 : (cellBytes P T : Int) ≤ 8)
    (hk : ∀ b, h b = none → K (some ⟨b, 0, none⟩) n.toNat n.toNat (upd h b (.cells (zeros P T n.toNat).toArray T (0, 0)))) : xsMk P T h n n K := by
  refine ⟨h0, Int.le_refl _, by omega, ?_, hk⟩
  have : (cellBytes P T : Int) * n ≤ 8 * n := Int.mul_le_mul_of_nonneg_right h2 h0
  omega

theorem zeros_row {P : Program} {T : TypeId} {z : Value} (hz : cellZero P T = [z]) (m : Nat) : zeros P T m = (List.range m).map fun _ => z := by
  unfold zeros
  rw [hz, List.map_const', List.length_range]
  induction m with
  | zero => rfl
  | succ m ih => rw [List.replicate_succ, List.flatten_cons, ih]; rfl

def pnew (n : Nat) : PmS := ⟨n, fun _ => 0, fun _ => none, fun _ => 0, fun _ => false, 0, false, 0⟩

section
variable {h : Heap} {Q : Value → Heap → Prop}

theorem pm_New.c {n : Nat} (h1 : 1 ≤ n) (h2 : n ≤ 8192) (hq : ∀ d F h', PmD F h' d (pnew n) → (∀ k, F k → h k = none) → Live F h' → Part h h' → Q (.tuple #[.pointer (some ⟨d, 0, none⟩), .int .i64 0]) h') :
    C Try.prog 12 #[.int .i64 (n : Int)] h Q := by
  apply pm_New.ok
  have e8 : IntKind.i64.wrap ((n : Int) * 8) = ((8 * n : Nat) : Int) := by rw [i64_in _ (by omega)]; omega
  have zU : zeros Try.prog 22 (8 * n) = rowU (8 * n) fun _ => 0 := zeros_row (by kernel_rfl) _
  have zI : zeros Try.prog 3 n = rowI n fun _ => 0 := zeros_row (by kernel_rfl) _
  have zB : zeros Try.prog 4 n = rowB n fun _ => false := zeros_row (by kernel_rfl) _
  have cU : (cellBytes Try.prog 22 : Int) ≤ 8 := by rw [show cellBytes Try.prog 22 = 8 by kernel_rfl]; omega
  have cI : (cellBytes Try.prog 3 : Int) ≤ 8 := by rw [show cellBytes Try.prog 3 = 8 by kernel_rfl]; omega
  have cB : (cellBytes Try.prog 4 : Int) ≤ 8 := by rw [show cellBytes Try.prog 4 = 1 by kernel_rfl]; omega
  have fin : ∀ (h5 : Heap) (d m r w b : Nat), h5 d = some (.cells (devV m r w b n 0 false 0).toArray 88 (0, 0)) → h5 m = some (.cells (zeros Try.prog 22 (8 * n)).toArray 22 (0, 0)) → h5 r = some (Obj.map #[] 0) →
      h5 w = some (.cells (zeros Try.prog 3 n).toArray 3 (0, 0)) → h5 b = some (.cells (zeros Try.prog 4 n).toArray 4 (0, 0)) →
      (d ≠ m ∧ d ≠ r ∧ d ≠ w ∧ d ≠ b ∧ m ≠ r ∧ m ≠ w ∧ m ≠ b ∧ r ≠ w ∧ r ≠ b ∧ w ≠ b) → (h d = none ∧ h m = none ∧ h r = none ∧ h w = none ∧ h b = none) → (∀ k, h k ≠ none → h5 k = h k) → Q (.tuple #[.pointer (some ⟨d, 0, none⟩), .int .i64 0]) h5 := by
    intro h5 d m r w b hd hm hr hw hb ne hn hk
    rw [zU] at hm
    rw [zI] at hw
    rw [zB] at hb
    refine hq d (fun k => k = d ∨ k = m ∨ k = r ∨ k = w ∨ k = b) h5 ⟨m, r, w, b, [], 0, h1, h2, .inl rfl, .inr (.inl rfl), .inr (.inr (.inl rfl)), .inr (.inr (.inr (.inl rfl))), .inr (.inr (.inr (.inr rfl))), ne, ⟨_, hd⟩, ⟨_, hm⟩, hr, ⟨_, hw⟩, ⟨_, hb⟩, ⟨⟨by simp, by simp, by simp, by simp⟩, by simp, by simp [pnew]⟩, by simp [pnew], by simp [pnew]⟩ ?_ ?_ fun k o hko => ?_
    · rintro k (rfl | rfl | rfl | rfl | rfl)
      · exact hn.1
      · exact hn.2.1
      · exact hn.2.2.1
      · exact hn.2.2.2.1
      · exact hn.2.2.2.2
    · rintro k (rfl | rfl | rfl | rfl | rfl)
      · rw [hd]; simp
      · rw [hm]; simp
      · rw [hr]; simp
      · rw [hw]; simp
      · rw [hb]; simp
    · rw [hk k (by rw [hko]; simp)]; exact hko
  refine xsIf_f (decide_eq_false (by omega)) (xsIf_f (decide_eq_false (by omega)) ?_)
  rw [e8]
  repeat' (first | (refine xsMk_i (by omega) (by omega) (by first | with_reducible exact cU | with_reducible exact cI | with_reducible exact cB) ?_) | (intro _ _) | (refine And.intro ?_ ?_))
  all_goals
    rename_i b1 hb1 b2 hb2 b3 hb3 b4 hb4 b5 hb5
    simp only [Int.toNat_natCast] at *
    obtain ⟨n21, hb2⟩ := fresh_ne hb2
    obtain ⟨n32, hb3⟩ := fresh_ne hb3
    obtain ⟨n31, hb3⟩ := fresh_ne hb3
    obtain ⟨n43, hb4⟩ := fresh_ne hb4
    obtain ⟨n42, hb4⟩ := fresh_ne hb4
    obtain ⟨n41, hb4⟩ := fresh_ne hb4
    obtain ⟨n54, hb5⟩ := fresh_ne hb5
    obtain ⟨n53, hb5⟩ := fresh_ne hb5
    obtain ⟨n52, hb5⟩ := fresh_ne hb5
    obtain ⟨n51, hb5⟩ := fresh_ne hb5
    refine fin _ b5 _ _ _ _ (upd_same _ _ _) ?_ ?_ ?_ ?_ ?_ ?_ ?_
    all_goals first
      | (simp [upd, n21, n31, n32, n41, n42, n43, n51, n52, n53, n54, n21.symm, n31.symm, n32.symm, n41.symm, n42.symm, n43.symm, n51.symm, n52.symm, n53.symm, n54.symm]; done)
      | (simp [hb1, hb2, hb3, hb4, hb5, n21, n31, n32, n41, n42, n43, n51, n52, n53, n54, n21.symm, n31.symm, n32.symm, n41.symm, n42.symm, n43.symm, n51.symm, n52.symm, n53.symm, n54.symm]; done)
      | (intro k hk; rw [upd_ne, upd_ne, upd_ne, upd_ne, upd_ne] <;> (rintro rfl; exact hk (by assumption)))
end
end Go.Gb
