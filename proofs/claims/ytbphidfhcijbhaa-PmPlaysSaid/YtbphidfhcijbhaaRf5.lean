/- Own text for the seat: Rf5. -/
import Derived.Test.YtbphidfhcijbhaaRf4
set_option linter.unusedVariables false
set_option linter.unusedSimpArgs false
set_option linter.unnecessarySimpa false
set_option linter.deprecated false
namespace Go.Gb
open Go.Proofs IntWalk

/-! ## gabionref03: Pending, New -/

section
variable {F : Nat → Prop} {h : Heap} {m wb rb bb : Nat} {q : Nat → Wd} {s : PmS} {Q : Value → Heap → Prop}

theorem rowN_ints (l : List Nat) : rowN l = ints .i64 (l.map fun (w : Nat) => (w : Int)) := by simp [ints]

theorem gabionref03_Pending.L3.c {h0 : Heap} (w : RfC F h0 m wb rb bb q s) (hq : ∀ a cp h', Part h0 h' → Sl (fun k => h0 k = none) h' 3 1 a (pend s).length cp (rowN (pend s)) → Q (.slice a (pend s).length cp) h') :
    ∀ (j i : Nat) (h : Heap) (a : Option Addr) (cp : Nat), i + j = 8 * s.nl → Own h0 h 3 1 a (pendTo s i).length cp (ints .i64 ((pendTo s i).map fun (w : Nat) => (w : Int))) →
      gabionref03_Pending.L3 (some ⟨m, 0, none⟩) a (pendTo s i).length cp (i : Int) h Q := by
  intro j
  induction j with
  | zero =>
    intro i h a cp hi o
    have wh := w.keep fun k _ hk => part_live o.part hk
    apply gabionref03_Pending.L3.ok
    have e : pendTo s i = pend s := by unfold pendTo pend; rw [show i = 8 * s.nl by omega]
    rw [e] at o ⊢
    refine ⟨m, 0, rfl, _, _, _, wh.c0, xsIf_f (decide_eq_false (by omega)) (hq a cp h o.part ?_)⟩
    rw [rowN_ints]; exact o.sl
  | succ j ih =>
    intro i h a cp hi o
    have wh := w.keep fun k _ hk => part_live o.part hk
    apply gabionref03_Pending.L3.ok
    have hK : i < 8 * s.nl := by omega
    have h92 : s.nl ≤ 8192 := w.hi
    have kb : 0 ≤ (i : Int) ∧ (i : Int) < ((8 * s.nl : Nat) : Int) := by omega
    have ew : ∀ j, 0 + (i : Int).toNat * 4 + j = 4 * i + j := fun j => by omega
    have e2 : IntKind.i64.wrap ((i : Int) + 1) = ((i + 1 : Nat) : Int) := by rw [i64_in _ (by omega)]; omega
    have hle : (pendTo s i).length ≤ i := by unfold pendTo; exact Nat.le_trans (List.length_filter_le _ _) (by simp)
    have r := w.rel i hK
    have c1 : h.cell wb (0 + (i : Int).toNat * 4 + 1) = some (.bool (q i).there) := by rw [ew]; exact wh.wc (j := 1) hK (by omega)
    refine ⟨m, 0, rfl, _, _, _, wh.c0, xsIf_t (decide_eq_true (by omega)) ⟨m, 0, rfl, _, _, _, wh.c0, kb, wb, 0, rfl, (q i).there, c1, xsIf_intro (fun h1 => ?_) fun h1 => ?_⟩⟩
    · obtain ⟨x, eb⟩ : ∃ x, s.buf i = some x := by
        unfold Wr at r
        cases e : s.buf i with
        | none => rw [e] at r; rw [r.2] at h1; cases h1
        | some x => exact ⟨x, rfl⟩
      intro b hb
      refine o.isnoc hb (by kernel_rfl) (by kernel_rfl) ?_ fun a' c' h' o' => ?_
      · rw [show cellBytes Try.prog 3 = 8 by kernel_rfl]; omega
      · rw [e2]
        have el : (pendTo s i).length + 1 = (pendTo s (i + 1)).length := by rw [pendTo_yes eb]; simp
        rw [el] at o' ⊢
        refine ih (i + 1) h' a' c' (by omega) ?_
        have : (pendTo s (i + 1)).map (fun (w : Nat) => (w : Int)) = (pendTo s i).map (fun (w : Nat) => (w : Int)) ++ [(i : Int)] := by rw [pendTo_yes eb]; simp
        rw [this]; exact o'
    · have eb : s.buf i = none := by
        unfold Wr at r
        cases e : s.buf i with
        | none => rfl
        | some x => rw [e] at r; rw [r.2.1] at h1; cases h1
      rw [e2]
      rw [← pendTo_no eb] at o ⊢
      exact ih (i + 1) h a cp (by omega) o

theorem gabionref03_Pending.c (w : RfD F h m s) (hq : ∀ a cp h', Part h h' → Sl (fun k => h k = none) h' 3 1 a (pend s).length cp (rowN (pend s)) → Q (.slice a (pend s).length cp) h') :
    C Try.prog 60 #[.pointer (some ⟨m, 0, none⟩)] h Q := by
  obtain ⟨wb, rb, bb, q, w⟩ := w
  apply gabionref03_Pending.ok
  exact gabionref03_Pending.L3.c w hq (8 * s.nl) 0 h none 0 (by omega) (Own.nil (Part.refl h))

theorem xsMk_w {P : Program} {T : TypeId} {h : Heap} {n : Int} {K : Option Addr → Nat → Nat → Heap → Prop} (h0 : 0 ≤ n) (h1 : n ≤ 65536) (h2 : (cellBytes P T : Int) ≤ 4096)
    (hk : ∀ b, h b = none → K (some ⟨b, 0, none⟩) n.toNat n.toNat (upd h b (.cells (zeros P T n.toNat).toArray T (0, 0)))) : xsMk P T h n n K := by
  refine ⟨h0, Int.le_refl _, by omega, ?_, hk⟩
  have : (cellBytes P T : Int) * n ≤ 4096 * n := Int.mul_le_mul_of_nonneg_right h2 h0
  omega

theorem zeros_len {P : Program} {T : TypeId} {n : Nat} : (zeros P T n).length = n * (cellZero P T).length := by
  unfold zeros; simp

theorem zeros_get {P : Program} {T : TypeId} {z : List Value} (hz : cellZero P T = z) (h0 : 0 < z.length) : ∀ (n i : Nat), i < n * z.length → (zeros P T n)[i]? = z[i % z.length]? := by
  intro n
  induction n with
  | zero => intro i hi; omega
  | succ n ih =>
    intro i hi
    have e : zeros P T (n + 1) = z ++ zeros P T n := by unfold zeros; rw [hz, List.replicate_succ, List.flatten_cons]
    rw [e]
    by_cases h : i < z.length
    · rw [List.getElem?_append_left h, Nat.mod_eq_of_lt h]
    · rw [Nat.succ_mul] at hi
      rw [List.getElem?_append_right (by omega), ih _ (by omega), ← Nat.mod_eq_sub_mod (by omega)]

theorem gabionref03_New.c {n : Nat} (h1 : 1 ≤ n) (h2 : n ≤ 8192) (hq : ∀ m F h', RfD F h' m (pnew n) → (∀ k, F k → h k = none) → Live F h' → Part h h' → Q (.pointer (some ⟨m, 0, none⟩)) h') :
    C Try.prog 22 #[.int .i64 (n : Int)] h Q := by
  apply gabionref03_New.ok
  have e8 : IntKind.i64.wrap (8 * (n : Int)) = ((8 * n : Nat) : Int) := by rw [i64_in _ (by omega)]; omega
  have zW : zeros Try.prog 106 (8 * n) = wcells (8 * n) fun _ => ⟨0, false, 0, false⟩ := by
    have hz : cellZero Try.prog 106 = [.int .u64 0, .bool false, .int .u64 0, .bool false] := by kernel_rfl
    apply List.ext_getElem?
    intro i
    by_cases hi : i < 4 * (8 * n)
    · rw [zeros_get hz (by simp) _ _ (by simp; omega)]
      have := wcells_get (n := 8 * n) (w := i / 4) (j := i % 4) (fun _ => ⟨0, false, 0, false⟩) (by omega) (by omega)
      rw [show 4 * (i / 4) + i % 4 = i by omega] at this
      rw [this]
      show [Value.int .u64 0, .bool false, .int .u64 0, .bool false][i % 4]? = _
      have h4 : i % 4 < 4 := Nat.mod_lt _ (by omega)
      generalize i % 4 = r at h4
      match r, h4 with
      | 0, _ => rfl
      | 1, _ => rfl
      | 2, _ => rfl
      | 3, _ => rfl
    · rw [List.getElem?_eq_none (by rw [zeros_len, hz]; simp; omega), List.getElem?_eq_none (by rw [wcells_len]; omega)]
  have zI : zeros Try.prog 3 n = rowI n fun _ => 0 := zeros_row (by kernel_rfl) _
  have zB : zeros Try.prog 4 n = rowB n fun _ => false := zeros_row (by kernel_rfl) _
  have cW : (cellBytes Try.prog 106 : Int) ≤ 4096 := of_decide_eq_true (by kernel_rfl)
  have cI : (cellBytes Try.prog 3 : Int) ≤ 4096 := by rw [show cellBytes Try.prog 3 = 8 by kernel_rfl]; omega
  have cB : (cellBytes Try.prog 4 : Int) ≤ 4096 := by rw [show cellBytes Try.prog 4 = 1 by kernel_rfl]; omega
  have fin : ∀ (h5 : Heap) (m wb rb bb : Nat), h5 m = some (.cells (refV wb rb bb n 0 false 0).toArray 78 (0, 0)) → h5 wb = some (.cells (zeros Try.prog 106 (8 * n)).toArray 106 (0, 0)) →
      h5 rb = some (.cells (zeros Try.prog 3 n).toArray 3 (0, 0)) → h5 bb = some (.cells (zeros Try.prog 4 n).toArray 4 (0, 0)) →
      (m ≠ wb ∧ m ≠ rb ∧ m ≠ bb ∧ wb ≠ rb ∧ wb ≠ bb ∧ rb ≠ bb) → (h m = none ∧ h wb = none ∧ h rb = none ∧ h bb = none) → (∀ k, h k ≠ none → h5 k = h k) → Q (.pointer (some ⟨m, 0, none⟩)) h5 := by
    intro h5 m wb rb bb hm hw hr hb ne hn hk
    rw [zW] at hw
    rw [zI] at hr
    rw [zB] at hb
    refine hq m (fun k => k = m ∨ k = wb ∨ k = rb ∨ k = bb) h5 ⟨wb, rb, bb, _, h1, h2, .inl rfl, .inr (.inl rfl), .inr (.inr (.inl rfl)), .inr (.inr (.inr rfl)), ne, ⟨_, hm⟩, ⟨_, hw⟩, ⟨_, hr⟩, ⟨_, hb⟩, fun w _ => ⟨rfl, rfl⟩, Int.le_refl _, by show (0 : Int) < _; omega⟩ ?_ ?_ fun k o hko => ?_
    · rintro k (rfl | rfl | rfl | rfl)
      · exact hn.1
      · exact hn.2.1
      · exact hn.2.2.1
      · exact hn.2.2.2
    · rintro k (rfl | rfl | rfl | rfl)
      · rw [hm]; simp
      · rw [hw]; simp
      · rw [hr]; simp
      · rw [hb]; simp
    · rw [hk k (by rw [hko]; simp)]; exact hko
  unfold gabionref03_New.wp
  rw [e8]
  repeat' (first | (refine xsMk_w (by omega) (by omega) (by first | with_reducible exact cW | with_reducible exact cI | with_reducible exact cB) ?_) | (intro _ _) | (refine And.intro ?_ ?_))
  all_goals
    rename_i b2 hb2 b3 hb3 b4 hb4 b5 hb5
    simp only [Int.toNat_natCast] at *
    obtain ⟨n32, hb3⟩ := fresh_ne hb3
    obtain ⟨n43, hb4⟩ := fresh_ne hb4
    obtain ⟨n42, hb4⟩ := fresh_ne hb4
    obtain ⟨n54, hb5⟩ := fresh_ne hb5
    obtain ⟨n53, hb5⟩ := fresh_ne hb5
    obtain ⟨n52, hb5⟩ := fresh_ne hb5
    refine fin _ b5 _ _ _ (upd_same _ _ _) ?_ ?_ ?_ ?_ ?_ ?_
    all_goals first
      | (simp [upd, n32, n42, n43, n52, n53, n54, n32.symm, n42.symm, n43.symm, n52.symm, n53.symm, n54.symm]; done)
      | (simp [hb2, hb3, hb4, hb5, n32, n42, n43, n52, n53, n54, n32.symm, n42.symm, n43.symm, n52.symm, n53.symm, n54.symm]; done)
      | (intro k hk; rw [upd_ne, upd_ne, upd_ne, upd_ne] <;> (rintro rfl; exact hk (by assumption)))
end
end Go.Gb
