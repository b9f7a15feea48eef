/- Own text for the seat: PmC1. -/
import Derived.Test.YtbphidfhcijbhaaPmB
set_option linter.unusedVariables false
set_option linter.unusedSimpArgs false
set_option linter.unnecessarySimpa false
set_option linter.deprecated false
namespace Go.Gb
open Go.Proofs IntWalk

/-! ## PmFuse -/

section
variable {F : Nat → Prop} {d : Nat} {Q : Value → Heap → Prop} {v : Int}

theorem gabionlaw03_PmFuse.L8.c {k : Nat} (hk : k ≤ 30) (hv : True) : ∀ (j i : Nat) (h : Heap) (s : PmS), i + j = k → 1 ≤ i → PmD F h d s → Live F h → s.nl = 3 → s.off = false → s.fuse = ((k - i + 1 : Nat) : Int) → s.media = (fun _ => 0) → s.wear = (fun _ => 0) → s.bad = fset (fun _ => false) 1 true →
    (∀ h' s', PmD F h' d s' → s'.nl = 3 → s'.off = true → s'.media = (fun _ => 0) → s'.wear = (fun _ => 0) → s'.bad = fset (fun _ => false) 1 true → Step F h F h' → gabionlaw03_PmFuse.J15 v (some ⟨d, 0, none⟩) h' Q) →
    gabionlaw03_PmFuse.L8 v (some ⟨d, 0, none⟩) (k : Int) (i : Int) h Q := by
  intro j
  induction j with
  | zero =>
    intro i h s hi h1 w lv nl off fu me we ba hq
    apply gabionlaw03_PmFuse.L8.ok
    have e : i = k := by omega
    subst e
    have fu1 : s.fuse = 1 := by rw [fu]; omega
    refine xsIf_f (by simp) (pm_Device_Count.c w ⟨_, rfl, pm_Device_Fence.c w lv fun h2 w2 st2 => ⟨_, rfl, ?_⟩⟩)
    have ef : pfence s = (6, { s with fuse := 0, off := true }) := by unfold pfence; rw [pbegin_fails off fu1 (by omega) (by omega)]; rfl
    rw [ef] at w2 ⊢
    refine xsIf_f (by simp) (pm_Device_Off.c w2 ⟨_, rfl, xsIf_f rfl (pm_Device_Store.c w2 fun h3 w3 st3 => ⟨_, rfl, ?_⟩)⟩)
    have es : pstore { s with fuse := 0, off := true } 0 v = (6, { s with fuse := 0, off := true }) := by unfold pstore; rw [pbegin_off rfl]; rfl
    rw [es] at w3 ⊢
    refine xsIf_f (by simp) (pm_Device_Count.c w3 ⟨_, rfl, xsIf_f (by simp) ?_⟩)
    exact hq h3 _ w3 nl rfl me we ba (st2.trans st3)
  | succ j ih =>
    intro i h s hi h1 w lv nl off fu me we ba hq
    apply gabionlaw03_PmFuse.L8.ok
    have er : irem (i : Int) 24 = ((i % 24 : Nat) : Int) := by unfold irem; exact Int.ofNat_tmod i 24 |>.symm
    have e2 : IntKind.i64.wrap ((i : Int) + 1) = ((i + 1 : Nat) : Int) := by rw [i64_in _ (by omega)]; omega
    refine xsIf_t (decide_eq_true (by omega)) ?_
    rw [er, e2]
    refine pm_Device_Store.c w fun h2 w2 st2 => ⟨_, rfl, ?_⟩
    rw [pstore_run off (by rw [fu]; omega) (by omega) (by rw [nl]; omega)] at w2 ⊢
    refine xsIf_f (by simp) (ih (i + 1) h2 _ (by omega) (by omega) w2 (st2.dom lv) nl off ?_ me we ba fun h' s' w' a1 a2 a3 a4 a5 st => hq h' s' w' a1 a2 a3 a4 a5 (st2.trans st))
    show (if 0 < s.fuse then s.fuse - 1 else s.fuse) = _
    rw [fu, if_pos (by omega)]; omega

/-- Between two rounds: so many are over. -/
structure Rd (v : Int) (s : PmS) (t : Nat) : Prop where
  nl : s.nl = 3
  off : s.off = false
  fuse : s.fuse = 0
  bad : s.bad = fset (fun _ => false) 1 true
  wear : ∀ i, i < 3 → s.wear i = t
  med : ∀ w, w < 24 → s.media w = if w / 8 = 1 then 0 else if t = 0 then 0 else v

theorem Rd.next {s : PmS} {t : Nat} (r : Rd v s t) (ht : t < 100) (hb : ∀ w, w < 24 → s.buf w = some (v, true)) : Rd v (plast (ptick s) (flushed s)) (t + 1) := by
  have hf : ∀ w, w ∈ flushed s ↔ w < 24 := fun w => by
    rw [flushed_mem, r.nl]
    exact ⟨fun h => h.1, fun h => ⟨h, v, hb w h⟩⟩
  refine ⟨r.nl, r.off, ?_, r.bad, fun i hi => ?_, fun w hw => ?_⟩
  · show (if 0 < s.fuse then s.fuse - 1 else s.fuse) = 0
    rw [r.fuse]; rfl
  · show lwear (ptick s) (flushed s) i = _
    unfold lwear
    rw [if_pos ⟨8 * i, (hf _).2 (by omega), by omega⟩]
    show IntKind.wrap .i64 (s.wear i + 1) = _
    rw [r.wear i hi, i64_in _ (by omega)]
    omega
  · show lmedia (ptick s) (flushed s) w = _
    unfold lmedia
    show (if w ∈ flushed s ∧ s.bad (w / 8) = false then (match s.buf w with | some x => x.1 | none => 0) else s.media w) = _
    rw [r.bad]
    by_cases e : w / 8 = 1
    · rw [if_neg (by rintro ⟨_, h⟩; unfold fset at h; rw [if_pos e] at h; cases h), if_pos e, r.med w hw, if_pos e]
    · rw [if_pos ⟨(hf w).2 hw, by unfold fset; rw [if_neg e]⟩, hb w hw, if_neg e, if_neg (by omega)]

theorem gabionlaw03_PmFuse.L24.c {t : Nat} (ht : t < 2) (hL : ∀ h s, PmD F h d s → Live F h → Rd v s (t + 1) → True) : ∀ (j k : Nat) (h : Heap) (s : PmS), k + j = 3 → PmD F h d s → Live F h → Rd v s t → (∀ w, w < 24 → s.buf w = some (v, decide (w < 8 * k))) →
    (∀ h' s', PmD F h' d s' → Rd v s' (t + 1) → Step F h F h' → gabionlaw03_PmFuse.L17 v (some ⟨d, 0, none⟩) ((t + 1 : Nat) : Int) h' Q) → gabionlaw03_PmFuse.L24 v (some ⟨d, 0, none⟩) (t : Int) (k : Int) h Q := by
  intro j
  induction j with
  | zero =>
    intro k h s hk w lv r hb hq
    apply gabionlaw03_PmFuse.L24.ok
    have e : k = 3 := by omega
    subst e
    have e2 : IntKind.i64.wrap ((t : Int) + 1) = ((t + 1 : Nat) : Int) := by rw [i64_in _ (by omega)]; omega
    refine xsIf_f (by simp) (pm_Device_Fence.c w lv fun h2 w2 st2 => ⟨_, rfl, ?_⟩)
    rw [pfence_run r.off (by rw [r.fuse]; decide)] at w2 ⊢
    rw [e2]
    exact xsIf_f (by simp) (hq h2 _ w2 (r.next (by omega) fun w hw => by rw [hb w hw, decide_eq_true (by omega)]) st2)
  | succ j ih =>
    intro k h s hk w lv r hb hq
    apply gabionlaw03_PmFuse.L24.ok
    have e2 : IntKind.i64.wrap ((k : Int) + 1) = ((k + 1 : Nat) : Int) := by rw [i64_in _ (by omega)]; omega
    refine xsIf_t (decide_eq_true (by omega)) (pm_Device_Flush.c w fun h2 w2 st2 => ⟨_, rfl, ?_⟩)
    rw [pflush_run r.off (by rw [r.fuse]; decide) (by omega) (by rw [r.nl]; omega)] at w2
    rw [e2]
    refine ih (k + 1) h2 _ (by omega) w2 (st2.dom lv) ⟨r.nl, r.off, ?_, r.bad, r.wear, r.med⟩ (fun w hw => ?_) fun h' s' w' r' st => hq h' s' w' r' (st2.trans st)
    · show (if 0 < s.fuse then s.fuse - 1 else s.fuse) = 0
      rw [r.fuse]; rfl
    · show fbuf s.buf (k : Int).toNat 8 w = _
      rw [Int.toNat_natCast]
      unfold fbuf
      rw [hb w hw]
      by_cases e : 8 * k ≤ w ∧ w < 8 * k + 8
      · rw [if_pos e]
        show some (v, true) = _
        rw [decide_eq_true (by omega)]
      · rw [if_neg e]
        by_cases e3 : w < 8 * k
        · rw [decide_eq_true e3, decide_eq_true (by omega)]
        · rw [decide_eq_false e3, decide_eq_false (by omega)]

theorem gabionlaw03_PmFuse.L19.c {t : Nat} (ht : t < 2) : ∀ (j k : Nat) (h : Heap) (s : PmS), k + j = 24 → PmD F h d s → Live F h → Rd v s t → (∀ w, w < k → s.buf w = some (v, false)) →
    (∀ h' s', PmD F h' d s' → Rd v s' (t + 1) → Step F h F h' → gabionlaw03_PmFuse.L17 v (some ⟨d, 0, none⟩) ((t + 1 : Nat) : Int) h' Q) → gabionlaw03_PmFuse.L19 v (some ⟨d, 0, none⟩) (t : Int) (k : Int) h Q := by
  intro j
  induction j with
  | zero =>
    intro k h s hk w lv r hb hq
    apply gabionlaw03_PmFuse.L19.ok
    refine xsIf_f (decide_eq_false (by omega)) (gabionlaw03_PmFuse.L24.c ht (fun _ _ _ _ _ => trivial) 3 0 h s (by omega) w lv r (fun w hw => ?_) hq)
    rw [hb w (by omega), decide_eq_false (by omega)]
  | succ j ih =>
    intro k h s hk w lv r hb hq
    apply gabionlaw03_PmFuse.L19.ok
    have e2 : IntKind.i64.wrap ((k : Int) + 1) = ((k + 1 : Nat) : Int) := by rw [i64_in _ (by omega)]; omega
    refine xsIf_t (decide_eq_true (by omega)) (pm_Device_Store.c w fun h2 w2 st2 => ⟨_, rfl, ?_⟩)
    rw [pstore_run r.off (by rw [r.fuse]; decide) (by omega) (by rw [r.nl]; omega)] at w2
    rw [e2]
    refine ih (k + 1) h2 _ (by omega) w2 (st2.dom lv) ⟨r.nl, r.off, ?_, r.bad, r.wear, r.med⟩ (fun w hw => ?_) fun h' s' w' r' st => hq h' s' w' r' (st2.trans st)
    · show (if 0 < s.fuse then s.fuse - 1 else s.fuse) = 0
      rw [r.fuse]; rfl
    · show fset s.buf (k : Int).toNat (some (v, false)) w = _
      rw [Int.toNat_natCast]
      unfold fset
      by_cases e : w = k
      · rw [if_pos e]
      · rw [if_neg e]; exact hb w (by omega)

theorem gabionlaw03_PmFuse.L17.c : ∀ (j t : Nat) (h : Heap) (s : PmS), t + j = 2 → PmD F h d s → Live F h → Rd v s t → (∀ h', Step F h F h' → Q (.bool true) h') → gabionlaw03_PmFuse.L17 v (some ⟨d, 0, none⟩) (t : Int) h Q := by
  intro j
  induction j with
  | zero =>
    intro t h s hk w lv r hq
    apply gabionlaw03_PmFuse.L17.ok
    have e : t = 2 := by omega
    subst e
    have m0 : s.media 0 = v := r.med 0 (by omega)
    have m8 : s.media 8 = 0 := r.med 8 (by omega)
    have m16 : s.media 16 = v := r.med 16 (by omega)
    have we : s.wear 1 = 2 := r.wear 1 (by omega)
    refine xsIf_f (by simp) (pm_Device_Media.c w ⟨_, rfl, xsIf_t ?_ (pm_Device_Media.c w ⟨_, rfl, xsIf_t ?_ (pm_Device_Media.c w ⟨_, rfl, xsIf_t ?_ (pm_Device_Wear.c w ⟨_, rfl, xsIf_t ?_ (pm_Device_Bad.c w ⟨_, rfl, xsIf_t ?_ (pm_Device_Bad.c w ⟨_, rfl, ?_⟩)⟩)⟩)⟩)⟩)⟩)
    · rw [if_pos ⟨by omega, by rw [r.nl]; omega⟩]; exact decide_eq_true m0
    · rw [if_pos ⟨by omega, by rw [r.nl]; omega⟩]; exact decide_eq_true m8
    · rw [if_pos ⟨by omega, by rw [r.nl]; omega⟩]; exact decide_eq_true m16
    · rw [if_pos ⟨by omega, by rw [r.nl]; omega⟩]; exact decide_eq_true we
    · rw [if_pos ⟨by omega, by rw [r.nl]; omega⟩, r.bad]; rfl
    · rw [if_pos ⟨by omega, by rw [r.nl]; omega⟩, r.bad]; exact hq h (Step.refl _ _)
  | succ j ih =>
    intro t h s hk w lv r hq
    apply gabionlaw03_PmFuse.L17.ok
    refine xsIf_t (decide_eq_true (by omega)) (gabionlaw03_PmFuse.L19.c (by omega) 24 0 h s (by omega) w lv r (fun w hw => by omega) fun h' s' w' r' st => ih (t + 1) h' s' (by omega) w' (st.dom lv) r' fun h'' st' => hq h'' (st.trans st'))

theorem gabionlaw03_PmFuse.J15.c {h : Heap} {s : PmS} (w : PmD F h d s) (lv : Live F h) (nl : s.nl = 3) (me : s.media = (fun _ => 0)) (we : s.wear = (fun _ => 0)) (ba : s.bad = fset (fun _ => false) 1 true) (hq : ∀ h', Step F h F h' → Q (.bool true) h') : gabionlaw03_PmFuse.J15 v (some ⟨d, 0, none⟩) h Q := by
  apply gabionlaw03_PmFuse.J15.ok
  have cB : (cellBytes Try.prog 4 : Int) ≤ 8 := by rw [show cellBytes Try.prog 4 = 1 by kernel_rfl]; omega
  have zB : zeros Try.prog 4 24 = rowB 24 fun _ => false := zeros_row (by kernel_rfl) _
  refine xsMk_i (by omega) (by omega) cB fun b hb => ?_
  have st1 : Step F h F (upd h b (.cells (zeros Try.prog 4 24).toArray 4 (0, 0))) := Step.lost hb _
  have w1 : PmD F (upd h b (.cells (zeros Try.prog 4 24).toArray 4 (0, 0))) d s := w.keep fun k _ hk => upd_ne fun e => hk (by rw [e]; exact hb)
  have hks : ∀ k, (List.replicate 24 false).getD k false = false := fun k => by
    rw [List.getD_eq_getElem?_getD, List.getElem?_replicate]; split <;> rfl
  refine pm_Device_Boot.c (ks := List.replicate 24 false) (kc := 24) w1 (st1.dom lv) (fun k hk => ⟨b, 0, rfl, by rw [upd_same]; simp, ?_⟩) fun h2 w2 st2 => ?_
  · show (upd h b (Obj.cells (zeros Try.prog 4 24).toArray 4 (0, 0))).cell b (0 + k * 1) = _
    rw [zB, Blk.cell (cs := rowB 24 fun _ => false) ⟨_, by rw [upd_same]⟩, hks]
    rw [show 0 + k * 1 = k by omega]
    exact row_get _ (by simpa using hk)
  · refine gabionlaw03_PmFuse.L17.c 2 0 h2 _ (by omega) w2 (st2.dom (st1.dom lv)) ?_ fun h' st => hq h' ((st1.trans st2).trans st)
    have ep : pboot s (List.replicate 24 false) = { s with buf := fun _ => none, off := false, fuse := 0 } := by
      unfold pboot
      rw [keptN_false hks, plast_nil]
    rw [ep]
    exact ⟨nl, rfl, rfl, ba, fun i _ => by show s.wear i = _; rw [we]; rfl, fun w _ => by show s.media w = _; rw [me]; simp⟩
end
end Go.Gb
