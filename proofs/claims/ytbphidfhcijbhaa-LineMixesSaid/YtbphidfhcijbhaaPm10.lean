/- Own text for the seat: Pm10. -/
import Derived.Test.YtbphidfhcijbhaaPm9
set_option linter.unusedVariables false
set_option linter.unusedSimpArgs false
set_option linter.unnecessarySimpa false
set_option linter.deprecated false
namespace Go.Gb
open Go.Proofs IntWalk

section
variable {F : Nat → Prop} {h : Heap} {d : Nat} {s : PmS} {Q : Value → Heap → Prop}

theorem pm_Device_Fence.c (w : PmD F h d s) (hlv : Live F h) (hq : ∀ h', PmD F h' d (pfence s).2 → Step F h F h' → Q (.int .i64 (pfence s).1) h') : C Try.prog 16 #[.pointer (some ⟨d, 0, none⟩)] h Q := by
  apply pm_Device_Fence.ok
  intro b hb
  obtain ⟨h3, e3⟩ : ∃ h3, upd h b (Obj.cells #[Value.pointer (some ⟨d, 0, none⟩)] 27 (0, 0)) = h3 := ⟨_, rfl⟩
  have s3 : Step F h F h3 := by rw [← e3]; exact Step.lost hb _
  have c0 : h3.cell b 0 = some (.pointer (some ⟨d, 0, none⟩)) := by rw [← e3]; exact upd_cell
  have hk3 : ∀ j, h j ≠ none → h3 j = h j := by intro j hj; rw [← e3, upd_ne]; intro e; subst e; exact hj hb
  have hbn : h3 b ≠ none := by rw [← e3, upd_same]; simp
  rw [e3]
  refine ⟨_, c0, ?_⟩
  obtain ⟨mb, r, wb, bb, l, c, w⟩ := w
  have w3 := w.keep (h' := h3) fun j _ hj => hk3 j hj
  have nb : b ≠ d := fun e => w.hd.ne (by rw [← e]; exact hb)
  refine pm_Device_do.c (by kernel_rfl) w3 (fun hne h' w' st _ => ⟨_, rfl, ?_⟩) (fun h0 h' w' st hk => ?_)
  · have e : pfence s = pbegin s 0 1 := by unfold pfence; rw [if_neg hne]
    have := hq h' (by rw [e]; exact ⟨mb, r, wb, bb, l, c, w'⟩) (s3.trans st)
    rw [e] at this; exact this
  · have e : pfence s = (0, plast (pbegin s 0 1).2 (flushed (pbegin s 0 1).2)) := by unfold pfence; rw [if_pos h0]
    refine pm_Device_Fence_1.c (F := F) (d := d) (s := (pbegin s 0 1).2) (t0 := b) ⟨mb, r, wb, bb, l, c, w'⟩ (st.dom (s3.dom hlv)) (by rw [cell_same (hk b nb)]; exact c0) (by rw [hk b nb]; exact hbn) fun h'' w'' st2 => ⟨_, rfl, ?_⟩
    have := hq h'' (by rw [e]; exact w'') ((s3.trans st).trans st2)
    rw [e] at this; exact this

theorem pm_Device_Off.c (w : PmD F h d s) (hq : Q (.bool s.off) h) : C Try.prog 28 #[.pointer (some ⟨d, 0, none⟩)] h Q := by
  obtain ⟨mb, r, wb, bb, l, c, w⟩ := w
  apply pm_Device_Off.ok
  exact xsIf_t rfl ⟨d, 0, rfl, _, w.hd.cell _, hq⟩

theorem pm_Device_Bad.c {k : Int} (w : PmD F h d s) (hq : Q (.bool (if 0 ≤ k ∧ k < s.nl then s.bad k.toNat else false)) h) : C Try.prog 29 #[.pointer (some ⟨d, 0, none⟩), .int .i64 k] h Q := by
  apply pm_Device_Bad.ok
  refine pm_Device_is.c w ⟨_, rfl, xsIf_intro (fun h1 => ?_) (fun h1 => ?_)⟩
  · have h1 := of_decide_eq_true h1
    rw [if_pos h1] at hq
    obtain ⟨mb, r, wb, bb, l, c, w⟩ := w
    exact ⟨d, 0, rfl, _, _, _, w.hd.cell _, h1, bb, 0, rfl, _, by rw [w.hb.cell, Nat.zero_add, Nat.mul_one]; exact row_get _ (by omega), hq⟩
  · have h1 := of_decide_eq_false h1
    rw [if_neg h1] at hq; exact hq

theorem pm_Device_Fuse.c {n : Int} (w : PmD F h d s) (hn : n < 9223372036854775808) (hq : ∀ h', PmD F h' d { s with fuse := imax n 0 } → Step F h F h' → Q (.tuple #[]) h') : C Try.prog 26 #[.pointer (some ⟨d, 0, none⟩), .int .i64 n] h Q := by
  obtain ⟨mb, r, wb, bb, l, c, w⟩ := w
  apply pm_Device_Fuse.ok
  have hm : 0 ≤ imax n 0 ∧ imax n 0 < 9223372036854775808 := by unfold imax; split <;> omega
  exact xsIf_t rfl ⟨d, 0, rfl, w.hd.can (by simp), hq _ ⟨mb, r, wb, bb, l, c, pburn_keep w hm.1 hm.2 (w.hd.put 4 _) fun k hk => put_other _ _ _ hk⟩ (Step.put w.fd _ _)⟩

theorem pm_Device_Break.c {k : Int} (w : PmD F h d s) (hq : ∀ h', PmD F h' d (if 0 ≤ k ∧ k < s.nl then { s with bad := fset s.bad k.toNat true } else s) → Step F h F h' → Q (.tuple #[]) h') : C Try.prog 25 #[.pointer (some ⟨d, 0, none⟩), .int .i64 k] h Q := by
  apply pm_Device_Break.ok
  refine pm_Device_is.c w ⟨_, rfl, xsIf_intro (fun h1 => ?_) (fun h1 => ?_)⟩
  · have h1 := of_decide_eq_true h1
    rw [if_pos h1] at hq
    obtain ⟨mb, r, wb, bb, l, c, w⟩ := w
    refine ⟨d, 0, rfl, _, _, _, w.hd.cell _, h1, bb, 0, rfl, w.hb.can (by rw [List.length_map, List.length_range]; omega), ?_⟩
    rw [show 0 + k.toNat * 1 = k.toNat by omega]
    have ne := w.ne
    have hk : ∀ q, q ≠ bb → h.put bb k.toNat [.bool true] q = h q := fun q hq => put_other _ _ _ hq
    refine hq _ ⟨mb, r, wb, bb, l, c, w.lo, w.hi, w.fd, w.fm, w.fr, w.fw, w.fb, w.ne, w.hd.keep (hk _ ne.2.2.2.1), w.hm.keep (hk _ ne.2.2.2.2.2.2.1), by rw [hk _ ne.2.2.2.2.2.2.2.2.1, w.hr], w.hw.keep (hk _ ne.2.2.2.2.2.2.2.2.2), ?_, w.bm, w.f0, w.f1⟩ (Step.put w.fb _ _)
    have := w.hb.put k.toNat [.bool true]
    rw [setL_one, row_set Value.bool] at this
    exact this
  · have h1 := of_decide_eq_false h1
    rw [if_neg h1] at hq
    exact hq h w (Step.refl _ _)
end
end Go.Gb
