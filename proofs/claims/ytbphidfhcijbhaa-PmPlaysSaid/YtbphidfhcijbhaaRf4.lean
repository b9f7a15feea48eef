/- Own text for the seat: Rf4. -/
import Derived.Test.YtbphidfhcijbhaaRf3
import Derived.Test.YtbphidfhcijbhaaPmB2
set_option linter.unusedVariables false
set_option linter.unusedSimpArgs false
set_option linter.unnecessarySimpa false
set_option linter.deprecated false
namespace Go.Gb
open Go.Proofs IntWalk

/-! ## gabionref03: Boot, Pending, New -/

theorem filt_get {p : Nat → Bool} {i : Nat} (hp : p i = true) : ∀ n, i < n → ((List.range n).filter p)[((List.range i).filter p).length]? = some i := by
  intro n
  induction n with
  | zero => intro h; omega
  | succ n ih =>
    intro hi
    rw [List.range_succ, List.filter_append]
    by_cases e : i = n
    · subst e
      rw [List.getElem?_append_right (Nat.le_refl _), Nat.sub_self]
      simp [hp]
    · have h1 := ih (by omega)
      rw [List.getElem?_append_left (List.getElem?_eq_some_iff.1 h1).1]
      exact h1

/-- Pending words below. -/
def pendTo (s : PmS) (i : Nat) : List Nat := (List.range i).filter fun w => (s.buf w).isSome
theorem pendTo_no {s : PmS} {i : Nat} (h : s.buf i = none) : pendTo s (i + 1) = pendTo s i := by
  unfold pendTo; rw [List.range_succ, List.filter_append]; simp [h]
theorem pendTo_yes {s : PmS} {i : Nat} {x : Int × Bool} (h : s.buf i = some x) : pendTo s (i + 1) = pendTo s i ++ [i] := by
  unfold pendTo; rw [List.range_succ, List.filter_append]; simp [h]

/-- Which words a boot takes. -/
def kps (s : PmS) (ks : List Bool) (w : Nat) : Bool := decide (w ∈ keptN (pend s) ks (pend s).length)

theorem kps_none {s : PmS} {ks : List Bool} {i : Nat} (h : s.buf i = none) : kps s ks i = false := by
  unfold kps
  rw [decide_eq_false]
  rw [keptN_iff]
  rintro ⟨j, h1, _, h3⟩
  have : i ∈ pend s := by
    rw [← h3, List.getD_eq_getElem?_getD, List.getElem?_eq_getElem h1]
    exact List.getElem_mem h1
  exact (pend_mem.1 this).2 h
theorem kps_some {s : PmS} {ks : List Bool} {i : Nat} {x : Int × Bool} (hi : i < 8 * s.nl) (h : s.buf i = some x) : kps s ks i = ks.getD (pendTo s i).length false := by
  have hg : (pend s)[(pendTo s i).length]? = some i := filt_get (p := fun w => (s.buf w).isSome) (by rw [h]; rfl) _ hi
  have hlt := (List.getElem?_eq_some_iff.1 hg).1
  unfold kps
  have hiff : i ∈ keptN (pend s) ks (pend s).length ↔ ks.getD (pendTo s i).length false = true := by
    rw [keptN_iff]
    constructor
    · rintro ⟨j, h1, h2, h3⟩
      have hj : (pend s)[j]? = some i := by rw [List.getD_eq_getElem?_getD, List.getElem?_eq_getElem h1] at h3; rw [List.getElem?_eq_getElem h1]; exact congrArg some h3
      have e : j = (pendTo s i).length := by
        have nd := pend_nodup s
        exact (List.getElem?_inj h1 nd).1 (hj.trans hg.symm)
      rw [← e]; exact h2
    · intro h2
      exact ⟨_, hlt, h2, by rw [List.getD_eq_getElem?_getD, hg]; rfl⟩
  cases e : ks.getD (pendTo s i).length false with
  | true => exact decide_eq_true (hiff.2 e)
  | false => exact decide_eq_false (fun h => by rw [hiff.1 h] at e; cases e)

section
variable {F : Nat → Prop} {h : Heap} {m wb rb bb : Nat} {q : Nat → Wd} {s : PmS} {Q : Value → Heap → Prop} {cb : Nat}

theorem gabionref03_Boot.L10.c : ∀ (j i : Nat) (h : Heap) (q : Nat → Wd), i + j = 8 * s.nl → RfC F h m wb rb bb q { s with buf := fun w => if w < i then none else s.buf w } →
    (∀ h' q', RfC F h' m wb rb bb q' { s with buf := fun _ => none, off := false, fuse := 0 } → Step F h F h' → Q (.tuple #[]) h') → gabionref03_Boot.L10 (some ⟨m, 0, none⟩) (i : Int) h Q := by
  intro j
  induction j with
  | zero =>
    intro i h q hi w hq
    apply gabionref03_Boot.L10.ok
    have b1 := w.hm.put (0 + 4) [.bool false]
    have b2 := b1.put (0 + 3) [.int .i64 0]
    refine ⟨m, 0, rfl, _, _, _, w.c0, xsIf_f (decide_eq_false (by show ¬ (i : Int) < ((8 * s.nl : Nat) : Int); omega)) ⟨m, 0, rfl, w.hm.can (by simp), m, 0, rfl, b1.can (by simp [setL_length]), ?_⟩⟩
    have w2 := w.own (f := 0) (o := false) (n := s.count) b2 (fun k hk => by rw [put_other _ _ _ hk, put_other _ _ _ hk]) (by omega) (by omega)
    refine hq _ q ⟨w2.lo, w2.hi, w2.fm, w2.fw, w2.fr, w2.fb, w2.ne, w2.hm, w2.hw, w2.hr, w2.hb, fun k hk => ?_, w2.f0, w2.f1⟩ ((Step.put w.fm _ _).trans (Step.put w.fm _ _))
    have hk : k < 8 * s.nl := hk
    have := w2.rel k hk
    have : Wr (q k) (s.media k) (if k < i then none else s.buf k) := this
    rw [if_pos (by omega)] at this
    exact this
  | succ j ih =>
    intro i h q hi w hq
    apply gabionref03_Boot.L10.ok
    have hK : i < 8 * s.nl := by omega
    have h92 : s.nl ≤ 8192 := w.hi
    have kb : 0 ≤ (i : Int) ∧ (i : Int) < ((8 * s.nl : Nat) : Int) := by omega
    have ew : ∀ j, 0 + (i : Int).toNat * 4 + j = 4 * i + j := fun j => by omega
    have e2 : IntKind.i64.wrap ((i : Int) + 1) = ((i + 1 : Nat) : Int) := by rw [i64_in _ (by omega)]; omega
    have r := w.rel
    have w3 := w.wput (k := i) (j := 1) (x := .bool false) (q' := { q i with there := false }) (md := s.media) (bf := fun w => if w < i + 1 then none else s.buf w) hK (by omega) rfl (fun i' hi hn => by
      match i', hi, hn with
      | 0, _, _ => rfl
      | 1, _, hn => exact absurd rfl hn
      | 2, _, _ => rfl
      | 3, _, _ => rfl) (fun w' hw' => by
      have hr : Wr (q w') (s.media w') (if w' < i then none else s.buf w') := r w' hw'
      unfold fset
      by_cases e : w' = i
      · rw [if_pos e, if_pos (by omega), e]
        rw [e] at hr
        exact ⟨hr.1, rfl⟩
      · rw [if_neg e]
        by_cases e2 : w' < i
        · rw [if_pos e2] at hr; rw [if_pos (by omega)]; exact hr
        · rw [if_neg e2] at hr; rw [if_neg (by omega)]; exact hr)
    rw [← ew 1] at w3
    refine ⟨m, 0, rfl, _, _, _, w.c0, xsIf_t (decide_eq_true (by show (i : Int) < ((8 * s.nl : Nat) : Int); omega)) ⟨m, 0, rfl, _, _, _, w.c0, kb, wb, 0, rfl, by rw [ew]; exact w.wcan (j := 1) hK (by omega), ?_⟩⟩
    rw [e2]
    exact ih (i + 1) _ _ (by omega) w3 fun h' q' w' st => hq h' q' w' ((Step.put w.fw _ _).trans st)

theorem gabionref03_Boot.L3.c {h0 : Heap} {ks : List Bool} {ka : Option Addr} {kc : Nat} (hks : BoolsAt h0 ka ks) (hcb0 : h0 cb = none) (ncb : ¬ F cb) : ∀ (j i : Nat) (h : Heap), i + j = 8 * s.nl → RfC F h m wb rb bb q s → (∀ k, h0 k ≠ none → h k = h0 k) → Blk h cb (rowB (8 * s.nl) (upto (kps s ks) i)) →
    (∀ h' q', RfC F h' m wb rb bb q' (pboot s ks) → (∀ k, ¬ F k → k ≠ cb → h k ≠ none → h' k = h k) → (∀ k, h k ≠ none → h' k ≠ none) → Q (.tuple #[]) h') →
    gabionref03_Boot.L3 (some ⟨m, 0, none⟩) ka ks.length kc (some ⟨cb, 0, none⟩) (8 * s.nl) (8 * s.nl) ((pendTo s i).length : Int) (i : Int) h Q := by
  intro j
  induction j with
  | zero =>
    intro i h hi w hh hcb hq
    apply gabionref03_Boot.L3.ok
    refine ⟨m, 0, rfl, _, _, _, w.c0, xsIf_f (decide_eq_false (by omega)) ?_⟩
    refine gabionref03_last.c (ch := upto (kps s ks) i) w (fun w hw hc => ?_) ncb hcb fun h' q' w' st => ?_
    · unfold upto at hc
      rw [if_pos (by omega)] at hc
      intro e; rw [kps_none e] at hc; cases hc
    · have e : plast s (lastN (upto (kps s ks) i) (8 * s.nl)) = plast s (keptN (pend s) ks (pend s).length) := plast_congr fun w => by
        rw [lastN_mem]
        unfold upto
        constructor
        · rintro ⟨h1, h2⟩
          rw [if_pos (by omega)] at h2
          exact of_decide_eq_true h2
        · intro h1
          have hp : w ∈ pend s := by
            obtain ⟨j, h2, h3⟩ := keptN_mem _ _ (Nat.le_refl _) h1
            rw [h3, List.getD_eq_getElem?_getD, List.getElem?_eq_getElem h2]
            exact List.getElem_mem h2
          have := (pend_mem.1 hp).1
          exact ⟨this, by rw [if_pos (by omega)]; exact decide_eq_true h1⟩
      rw [e] at w'
      refine gabionref03_Boot.L10.c (F := F) (wb := wb) (rb := rb) (bb := bb) (s := plast s (keptN (pend s) ks (pend s).length)) (8 * s.nl) 0 h' q' (by show 0 + 8 * s.nl = 8 * s.nl; omega) ?_ fun h'' q'' w'' st2 => ?_
      · have : ({ plast s (keptN (pend s) ks (pend s).length) with buf := fun w => if w < 0 then none else (plast s (keptN (pend s) ks (pend s).length)).buf w } : PmS) = plast s (keptN (pend s) ks (pend s).length) := by simp
        rw [this]; exact w'
      · have t := st.trans st2
        exact hq h'' q'' w'' (fun k h1 _ h3 => t.keep k h1 h3) t.live
  | succ j ih =>
    intro i h hi w hh hcb hq
    apply gabionref03_Boot.L3.ok
    have hK : i < 8 * s.nl := by omega
    have h92 : s.nl ≤ 8192 := w.hi
    have kb : 0 ≤ (i : Int) ∧ (i : Int) < ((8 * s.nl : Nat) : Int) := by omega
    have ew : ∀ j, 0 + (i : Int).toNat * 4 + j = 4 * i + j := fun j => by omega
    have e2 : IntKind.i64.wrap ((i : Int) + 1) = ((i + 1 : Nat) : Int) := by rw [i64_in _ (by omega)]; omega
    have hle : (pendTo s i).length ≤ i := by unfold pendTo; exact Nat.le_trans (List.length_filter_le _ _) (by simp)
    have r := w.rel i hK
    have c1 : h.cell wb (0 + (i : Int).toNat * 4 + 1) = some (.bool (q i).there) := by rw [ew]; exact w.wc (j := 1) hK (by omega)
    refine ⟨m, 0, rfl, _, _, _, w.c0, xsIf_t (decide_eq_true (by omega)) ⟨m, 0, rfl, _, _, _, w.c0, kb, wb, 0, rfl, (q i).there, c1, xsIf_intro (fun h1 => ?_) fun h1 => ?_⟩⟩
    · have eb : s.buf i = none := by
        unfold Wr at r
        cases e : s.buf i with
        | none => rfl
        | some x => rw [e] at r; rw [r.2.1] at h1; cases h1
      apply gabionref03_Boot.J4.ok
      unfold gabionref03_Boot.J4.wp
      rw [e2, ← pendTo_no eb]
      rw [upto_no (kps_none eb)] at hcb
      exact ih (i + 1) h (by omega) w hh hcb hq
    · obtain ⟨x, eb⟩ : ∃ x, s.buf i = some x := by
        unfold Wr at r
        cases e : s.buf i with
        | none => rw [e] at r; rw [r.2] at h1; cases h1
        | some x => exact ⟨x, rfl⟩
      have ek := kps_some (ks := ks) hK eb
      have e3 : IntKind.i64.wrap (((pendTo s i).length : Int) + 1) = ((pendTo s (i + 1)).length : Int) := by
        rw [i64_in _ (by omega), pendTo_yes eb]; simp
      have nx : ∀ b, b = kps s ks i → h.can cb (0 + (i : Int).toNat * 1) 1 ∧ gabionref03_Boot.J4 (some ⟨m, 0, none⟩) ka ks.length kc (some ⟨cb, 0, none⟩) (8 * s.nl) (8 * s.nl) (IntKind.i64.wrap (((pendTo s i).length : Int) + 1)) (i : Int) (h.put cb (0 + (i : Int).toNat * 1) [.bool b]) Q := by
        intro b hb
        rw [show (i : Int).toNat = i by omega]
        refine ⟨hcb.can (by simp; omega), ?_⟩
        apply gabionref03_Boot.J4.ok
        unfold gabionref03_Boot.J4.wp
        rw [e2, e3]
        refine ih (i + 1) _ (by omega) (w.keep fun k hk _ => put_other _ _ _ fun e => ncb (e ▸ hk)) (fun k hk => ?_) ?_ fun h' q' w' st1 st2 => ?_
        · rw [put_other _ _ _ fun e => hk (by rw [e]; exact hcb0)]; exact hh k hk
        · have := hcb.bset (i := i) (b := b)
          rw [hb, upto_set] at this
          rw [hb]; exact this
        · refine hq h' q' w' (fun k h1 h2 h3 => ?_) fun k hk => st2 k (put_live _ _ hk)
          have e := put_other h (b := cb) (k := k) (0 + i * 1) [.bool b] h2
          rw [st1 k h1 h2 (by rw [e]; exact h3), e]
      by_cases hl : (pendTo s i).length < ks.length
      · obtain ⟨b, o, rfl, hb, hc⟩ := hks _ hl
        have hc2 : h.cell b (o + ((pendTo s i).length : Int).toNat * 1) = some (.bool (ks.getD (pendTo s i).length false)) := by
          rw [Int.toNat_natCast, cell_same (hh b hb)]; exact hc
        exact xsIf_t (decide_eq_true (by omega)) ⟨by omega, b, o, rfl, _, hc2, kb, cb, 0, rfl, nx _ ek.symm⟩
      · have : ks.getD (pendTo s i).length false = false := by rw [List.getD_eq_getElem?_getD, List.getElem?_eq_none (by omega)]; rfl
        exact xsIf_f (decide_eq_false (by omega)) ⟨kb, cb, 0, rfl, nx _ (by rw [ek, this])⟩

theorem gabionref03_Boot.c {ks : List Bool} {ka : Option Addr} {kc : Nat} (w : RfD F h m s) (hlv : Live F h) (hks : BoolsAt h ka ks)
    (hq : ∀ h', RfD F h' m (pboot s ks) → Step F h F h' → Q (.tuple #[]) h') : C Try.prog 41 #[.pointer (some ⟨m, 0, none⟩), .slice ka ks.length kc] h Q := by
  obtain ⟨wb, rb, bb, q, w⟩ := w
  apply gabionref03_Boot.ok
  have cB : (cellBytes Try.prog 4 : Int) ≤ 8 := by rw [show cellBytes Try.prog 4 = 1 by kernel_rfl]; omega
  have h92 := w.hi
  have zB : zeros Try.prog 4 (8 * s.nl) = rowB (8 * s.nl) fun _ => false := zeros_row (by kernel_rfl) _
  refine ⟨m, 0, rfl, _, _, _, w.c0, xsMk_i (by omega) (by omega) cB fun b hb => ?_⟩
  rw [Int.toNat_natCast]
  have nF : ¬ F b := fun hf => hlv b hf hb
  refine gabionref03_Boot.L3.c (h0 := h) (q := q) (wb := wb) (rb := rb) (bb := bb) hks hb nF (8 * s.nl) 0 _ (by omega) (w.keep fun k hk _ => upd_ne fun e => nF (e ▸ hk)) (fun k hk => upd_ne fun e => hk (by rw [e]; exact hb)) ?_ fun h' q' w' s1 s2' => ?_
  · rw [zB]; exact ⟨_, by rw [upd_same]; rfl⟩
  · refine hq h' ⟨wb, rb, bb, q', w'⟩ ⟨fun k hf hk => ?_, fun k hk => .inl hk, fun k hk => s2' k (upd_live _ hk), fun lv k hk => s2' k (upd_live _ (lv k hk))⟩
    have hkb : k ≠ b := fun e => hk (by rw [e]; exact hb)
    rw [s1 k hf hkb (by rw [upd_ne hkb]; exact hk), upd_ne hkb]
end
end Go.Gb
