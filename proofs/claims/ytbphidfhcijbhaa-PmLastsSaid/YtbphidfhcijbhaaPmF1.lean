/- Own text for the seat: PmF1. -/
import Derived.Test.YtbphidfhcijbhaaPmB
import Derived.Test.YtbphidfhcijbhaaHp
set_option linter.unusedVariables false
set_option linter.unusedSimpArgs false
set_option linter.unnecessarySimpa false
set_option linter.deprecated false
namespace Go.Gb
open Go.Proofs IntWalk

/-! ## PmLasts -/

/-- A device of two lines that works; what lasts. -/
structure Li (s : PmS) (m : Nat → Int) : Prop where
  nl : s.nl = 2
  off : s.off = false
  fuse : s.fuse = 0
  bad : s.bad = fun _ => false
  med : ∀ w, w < 16 → s.media w = m w

theorem Li.tick {s : PmS} {m : Nat → Int} (l : Li s m) : Li (ptick s) m :=
  ⟨l.nl, l.off, by show (if 0 < s.fuse then s.fuse - 1 else s.fuse) = 0; rw [l.fuse]; rfl, l.bad, l.med⟩
theorem Li.buf {s : PmS} {m : Nat → Int} (l : Li s m) (b : Nat → Option (Int × Bool)) : Li { s with buf := b } m := ⟨l.nl, l.off, l.fuse, l.bad, l.med⟩

theorem keptN_iff {ps : List Nat} {ks : List Bool} {w : Nat} : ∀ k, w ∈ keptN ps ks k ↔ ∃ i, i < k ∧ ks.getD i false = true ∧ ps.getD i 0 = w
  | 0 => by simp [keptN]
  | k + 1 => by
    unfold keptN
    rw [List.mem_append, keptN_iff k]
    constructor
    · rintro (⟨i, h1, h2, h3⟩ | h)
      · exact ⟨i, by omega, h2, h3⟩
      · split at h
        · rename_i h1; simp at h; exact ⟨k, by omega, h1, by simpa using h.symm⟩
        · cases h
    · rintro ⟨i, h1, h2, h3⟩
      by_cases e : i = k
      · subst e; right; rw [if_pos h2, ← h3]; simp
      · exact .inl ⟨i, by omega, h2, h3⟩

theorem pend_full {s : PmS} (h : ∀ w, w < 8 * s.nl → s.buf w ≠ none) : pend s = List.range (8 * s.nl) := by
  unfold pend
  rw [List.filter_eq_self]
  intro w hw
  cases e : s.buf w with
  | none => exact absurd e (h w (by simpa using hw))
  | some x => rfl
theorem pend_none {s : PmS} (h : ∀ w, w < 8 * s.nl → s.buf w = none) : pend s = [] := by
  unfold pend
  rw [List.filter_eq_nil_iff]
  intro w hw
  rw [h w (by simpa using hw)]; simp

section
variable {F : Nat → Prop} {d : Nat} {kp : Option Addr} {kn kc : Nat} {f0 f1 : Bool} {Q : Value → Heap → Prop} {A B : Nat → Int}

theorem gabionlaw03_PmLasts.L27.c {ks : List Bool} {s : PmS} {M : Nat → Int} {h : Heap} (hr : readsAt h kp (ks.map Value.bool)) (w : PmD F h d s) (li : Li s M) (hb : ∀ w, w < 16 → s.buf w = none) (hM : ∀ w, w < 16 → M w = if ks.getD w false = true then B w else A w)
    (hq : ∀ h', Part h h' → Q (.bool true) h') : ∀ (j k : Nat), k + j = 16 → gabionlaw03_PmLasts.L27 kp ks.length kc (some ⟨d, 0, none⟩) (k : Int) (rowU 16 A) (rowU 16 B) h Q := by
  intro j
  induction j with
  | zero =>
    intro k hk
    apply gabionlaw03_PmLasts.L27.ok
    refine xsIf_f (decide_eq_false (by omega)) (pm_Device_Pending.c w fun a cp h' p sl => ⟨_, _, _, rfl, ?_⟩)
    rw [pend_none (by rw [li.nl]; exact hb)]
    exact hq h' p
  | succ j ih =>
    intro k hk
    apply gabionlaw03_PmLasts.L27.ok
    have hk16 : k < 16 := by omega
    have nl := li.nl
    have et : (0 + (k : Int).toNat * 1) = k := by omega
    have tail : ∀ x, x = M k → gabionlaw03_PmLasts.J32 kp ks.length kc (some ⟨d, 0, none⟩) (k : Int) x (k : Int) (rowU 16 A) (rowU 16 B) h Q := by
      intro x hx
      apply gabionlaw03_PmLasts.J32.ok
      have e1 : pload s (k : Int) = (M k, 0) := by
        unfold pload
        rw [show pready s (k : Int) ((8 * s.nl : Nat) : Int) = 0 by unfold pready; rw [li.off, if_neg (by simp)]; exact if_pos (by omega), if_pos rfl, Int.toNat_natCast, hb k hk16, li.med k hk16]
      refine pm_Device_Load.c w ⟨_, _, rfl, ?_⟩
      rw [e1]
      refine xsIf_f rfl (xsIf_f (decide_eq_false (by simp [hx])) (pm_Device_Media.c w ⟨_, rfl, ?_⟩))
      rw [if_pos (by omega), Int.toNat_natCast, li.med k hk16]
      refine xsIf_f (decide_eq_false (by simp [hx])) ?_
      rw [show IntKind.i64.wrap ((k : Int) + 1) = ((k + 1 : Nat) : Int) by rw [i64_in _ (by omega)]; omega]
      exact ih (k + 1) (by omega)
    have hm := hM k hk16
    refine xsIf_t (decide_eq_true (by omega)) ⟨by omega, A k, by rw [et]; exact row_get _ hk16, ?_⟩
    by_cases hl : k < ks.length
    · refine xsIf_t (decide_eq_true (by omega)) ⟨by omega, reads_base hr (by simp; omega) fun b o hc => ⟨ks[k], ?_, ?_⟩⟩
      · have := hc k (by simpa using hl)
        rw [show (k : Int).toNat * 1 = k * 1 by omega, this]; simp [hl]
      · have eg : ks.getD k false = ks[k] := by rw [List.getD_eq_getElem?_getD, List.getElem?_eq_getElem hl]; rfl
        cases hkk : ks[k] with
        | true =>
          refine xsIf_t rfl ⟨by omega, B k, by rw [et]; exact row_get _ hk16, tail _ ?_⟩
          rw [hm, if_pos (by rw [eg, hkk])]
        | false =>
          refine xsIf_f rfl (tail _ ?_)
          rw [hm, if_neg (by rw [eg, hkk]; simp)]
    · refine xsIf_f (decide_eq_false (by omega)) (tail _ ?_)
      have eg : ks.getD k false = false := by rw [List.getD_eq_getElem?_getD, List.getElem?_eq_none (by omega)]; rfl
      rw [hm, if_neg (by rw [eg]; simp)]

/-- After the boot. -/
theorem li_boot {s : PmS} {ks : List Bool} (li : Li s A) (hb : ∀ w, w < 16 → ∃ f, s.buf w = some (B w, f)) : Li (pboot s ks) fun w => if ks.getD w false = true then B w else A w := by
  have hp : pend s = List.range 16 := by
    rw [pend_full, li.nl]
    intro w hw
    rw [li.nl] at hw
    obtain ⟨f, e⟩ := hb w hw
    rw [e]; simp
  refine ⟨li.nl, rfl, rfl, li.bad, fun w hw => ?_⟩
  show lmedia s (keptN (pend s) ks (pend s).length) w = _
  rw [hp]
  have hm : w ∈ keptN (List.range 16) ks (List.range 16).length ↔ ks.getD w false = true := by
    rw [keptN_iff]
    have hg : ∀ i, i < 16 → (List.range 16).getD i 0 = i := fun i hi => by rw [List.getD_eq_getElem?_getD, List.getElem?_range hi]; rfl
    constructor
    · rintro ⟨i, h1, h2, h3⟩
      rw [List.length_range] at h1
      rw [hg i h1] at h3; subst h3; exact h2
    · intro h
      exact ⟨w, by rw [List.length_range]; exact hw, h, hg w hw⟩
  obtain ⟨f, e⟩ := hb w hw
  unfold lmedia
  rw [li.bad, e]
  by_cases h : ks.getD w false = true
  · rw [if_pos ⟨hm.2 h, rfl⟩, if_pos h]
  · rw [if_neg (fun h' => h (hm.1 h'.1)), if_neg h]; exact li.med w hw

theorem gabionlaw03_PmLasts.L20.c {h0 : Heap} {ks : List Bool} (hr : readsAt h0 kp (ks.map Value.bool)) (fr : ∀ k, h0 k ≠ none → ¬ F k) (hq : ∀ h', Part h0 h' → Q (.bool true) h') : ∀ (j k : Nat) (h : Heap) (s : PmS), k + j = 2 → PmD F h d s → Live F h → Part h0 h → Li s A →
    (∀ w, w < 16 → ∃ f, s.buf w = some (B w, f)) → gabionlaw03_PmLasts.L20 kp ks.length kc (some ⟨d, 0, none⟩) f0 f1 (k : Int) (rowU 16 A) (rowU 16 B) h Q := by
  intro j
  induction j with
  | zero =>
    intro k h s hk w lv p li hb
    apply gabionlaw03_PmLasts.L20.ok
    have hks : BoolsAt h kp ks := fun i hi => by
      rcases readsAt_part hr p with h1 | ⟨b, o, rfl, hc⟩
      · exfalso
        have : ks.length = 0 := by simpa using congrArg List.length h1
        omega
      · have e := hc i (by simpa using hi)
        have e2 : h.cell b (o + i) = some (.bool (ks.getD i false)) := by rw [e]; simp [hi]
        refine ⟨b, o, rfl, fun hn => ?_, by rw [Nat.mul_one]; exact e2⟩
        unfold Heap.cell at e2; rw [hn] at e2; cases e2
    refine xsIf_f (decide_eq_false (by omega)) (pm_Device_Boot.c w lv hks fun h2 w2 st2 => ?_)
    have p2 := st2.part p fr
    have := gabionlaw03_PmLasts.L27.c (kc := kc) (Q := Q) (readsAt_part hr p2) w2 (li_boot li hb) (fun w _ => rfl) (fun w _ => rfl) (fun h' p' => hq h' (p2.trans p')) 16 0 (by omega)
    exact this
  | succ j ih =>
    intro k h s hk w lv p li hb
    apply gabionlaw03_PmLasts.L20.ok
    have nl := li.nl
    have next : ∀ (h' : Heap) (s' : PmS), PmD F h' d s' → Step F h F h' → Li s' A → (∀ w, w < 16 → ∃ f, s'.buf w = some (B w, f)) → gabionlaw03_PmLasts.J24 kp ks.length kc (some ⟨d, 0, none⟩) f0 f1 (k : Int) (rowU 16 A) (rowU 16 B) h' Q := by
      intro h' s' w' st li' hb'
      apply gabionlaw03_PmLasts.J24.ok
      unfold gabionlaw03_PmLasts.J24.wp
      rw [show IntKind.i64.wrap ((k : Int) + 1) = ((k + 1 : Nat) : Int) by rw [i64_in _ (by omega)]; omega]
      exact ih (k + 1) h' s' (by omega) w' (st.dom lv) (st.part p fr) li' hb'
    have hx : ∃ x, lget [.bool f0, .bool f1] ((k : Int).toNat * 1) = some (.bool x) := by
      rcases (show k = 0 ∨ k = 1 by omega) with rfl | rfl
      · exact ⟨f0, rfl⟩
      · exact ⟨f1, rfl⟩
    obtain ⟨x, hx⟩ := hx
    refine xsIf_t (decide_eq_true (by omega)) ⟨by omega, x, hx, xsIf_intro (fun _ => ?_) fun _ => next h s w (Step.refl _ _) li hb⟩
    refine pm_Device_Flush.c w fun h2 w2 st2 => ⟨_, rfl, ?_⟩
    rw [pflush_run li.off (by rw [li.fuse]; decide) (by omega) (by omega)] at w2
    refine next h2 _ w2 st2 (li.tick.buf _) fun q hq => ?_
    obtain ⟨f, e⟩ := hb q hq
    show ∃ f, fbuf s.buf (k : Int).toNat 8 q = some (B q, f)
    unfold fbuf
    rw [e]
    split
    · exact ⟨true, rfl⟩
    · exact ⟨f, rfl⟩

theorem gabionlaw03_PmLasts.L15.c {h0 : Heap} {ks : List Bool} (hr : readsAt h0 kp (ks.map Value.bool)) (fr : ∀ k, h0 k ≠ none → ¬ F k) (hq : ∀ h', Part h0 h' → Q (.bool true) h') : ∀ (j k : Nat) (h : Heap) (s : PmS), k + j = 16 → PmD F h d s → Live F h → Part h0 h → Li s A →
    (∀ w, w < k → ∃ f, s.buf w = some (B w, f)) → gabionlaw03_PmLasts.L15 kp ks.length kc (some ⟨d, 0, none⟩) (rowU 16 B) (k : Int) f0 f1 (rowU 16 A) (rowU 16 B) h Q := by
  intro j
  induction j with
  | zero =>
    intro k h s hk w lv p li hb
    apply gabionlaw03_PmLasts.L15.ok
    refine xsIf_f (decide_eq_false (by omega)) ?_
    exact gabionlaw03_PmLasts.L20.c hr fr hq 2 0 h s (by omega) w lv p li (fun w hw => hb w (by omega))
  | succ j ih =>
    intro k h s hk w lv p li hb
    apply gabionlaw03_PmLasts.L15.ok
    have hk16 : k < 16 := by omega
    have nl := li.nl
    refine xsIf_t (decide_eq_true (by omega)) ⟨by omega, B k, by rw [show (k : Int).toNat * 1 = k by omega]; exact row_get _ hk16, pm_Device_Store.c w fun h2 w2 st2 => ⟨_, rfl, ?_⟩⟩
    rw [pstore_run li.off (by rw [li.fuse]; decide) (by omega) (by omega)] at w2
    rw [show IntKind.i64.wrap ((k : Int) + 1) = ((k + 1 : Nat) : Int) by rw [i64_in _ (by omega)]; omega]
    refine ih (k + 1) h2 _ (by omega) w2 (st2.dom lv) (st2.part p fr) (li.tick.buf _) fun q hq => ?_
    show ∃ f, fset s.buf (k : Int).toNat (some (B k, false)) q = _
    unfold fset
    by_cases e : q = k
    · rw [if_pos (by omega), e]; exact ⟨false, rfl⟩
    · rw [if_neg (by omega)]; exact hb q (by omega)

theorem gabionlaw03_PmLasts.L6.c {h0 : Heap} {ks : List Bool} (hr : readsAt h0 kp (ks.map Value.bool)) (fr : ∀ k, h0 k ≠ none → ¬ F k) (hq : ∀ h', Part h0 h' → Q (.bool true) h') : ∀ (j k : Nat) (h : Heap) (s : PmS), k + j = 16 → PmD F h d s → Live F h → Part h0 h → Li s (fun _ => 0) →
    (∀ w, w < k → ∃ f, s.buf w = some (A w, f)) → gabionlaw03_PmLasts.L6 kp ks.length kc (some ⟨d, 0, none⟩) (rowU 16 A) (k : Int) f0 f1 (rowU 16 A) (rowU 16 B) h Q := by
  intro j
  induction j with
  | zero =>
    intro k h s hk w lv p li hb
    apply gabionlaw03_PmLasts.L6.ok
    have nl := li.nl
    have fz : ∀ {s : PmS} {m : Nat → Int}, Li s m → s.fuse ≠ 1 := fun li => by rw [li.fuse]; decide
    refine xsIf_f (decide_eq_false (by omega)) (pm_Device_Flush.c w fun h2 w2 st2 => ⟨_, rfl, ?_⟩)
    rw [pflush_run li.off (fz li) (by omega) (by omega)] at w2
    have li2 := li.tick.buf (fbuf s.buf (0 : Int).toNat 8)
    refine pm_Device_Flush.c w2 fun h3 w3 st3 => ⟨_, rfl, ?_⟩
    rw [pflush_run li2.off (fz li2) (by omega) (by show (1 : Int) < (s.nl : Int); omega)] at w3
    have li3 := li2.tick.buf (fbuf (fbuf s.buf (0 : Int).toNat 8) (1 : Int).toNat 8)
    have lv3 := st3.dom (st2.dom lv)
    refine pm_Device_Fence.c w3 lv3 fun h4 w4 st4 => ⟨_, rfl, ?_⟩
    rw [pfence_run li3.off (fz li3)] at w4 ⊢
    have hfb : ∀ q, q < 16 → fbuf (fbuf s.buf (0 : Int).toNat 8) (1 : Int).toNat 8 q = some (A q, true) := by
      intro q hq
      obtain ⟨f, e⟩ := hb q (by omega)
      show fbuf (fbuf s.buf 0 8) 1 8 q = _
      unfold fbuf
      by_cases e8 : q < 8
      · rw [if_neg (by omega), if_pos (by omega), e]; rfl
      · rw [if_pos (by omega), if_neg (by omega), e]; rfl
    generalize fbuf (fbuf s.buf (0 : Int).toNat 8) (1 : Int).toNat 8 = bf at hfb w4 li3
    generalize hs : ({ ptick { ptick s with buf := fbuf s.buf (0 : Int).toNat 8 } with buf := bf } : PmS) = s3 at li3 w4
    have hb3 : s3.buf = bf := by rw [← hs]
    have hfl : ∀ q, q < 16 → q ∈ flushed s3 := fun q hq => by
      rw [flushed_mem, li3.nl, hb3]; exact ⟨hq, _, hfb q hq⟩
    have li4 : Li (plast (ptick s3) (flushed s3)) A := by
      refine ⟨li3.nl, li3.off, li3.tick.fuse, li3.bad, fun q hq => ?_⟩
      show lmedia (ptick s3) (flushed s3) q = A q
      unfold lmedia
      show (if q ∈ flushed s3 ∧ s3.bad (q / 8) = false then (match s3.buf q with | some x => x.1 | none => 0) else s3.media q) = _
      rw [if_pos ⟨hfl q hq, by rw [li3.bad]⟩, hb3, hfb q hq]
    have hn4 : ∀ q, q < 16 → (plast (ptick s3) (flushed s3)).buf q = none := fun q hq => by
      show lbuf (ptick s3) (flushed s3) q = none
      unfold lbuf; rw [if_pos (hfl q hq)]
    have lv4 := st4.dom lv3
    have p4 := st4.part (st3.part (st2.part p fr) fr) fr
    refine xsIf_f rfl (pm_Device_Pending.c w4 fun a cp h5 p5 sl => ⟨_, _, _, rfl, ?_⟩)
    rw [pend_none (by rw [li4.nl]; exact hn4)]
    refine xsIf_f rfl ?_
    apply gabionlaw03_PmLasts.J14.ok
    refine ⟨by simp, ?_⟩
    have : lsub (rowU 16 B) 0 16 = rowU 16 B := by
      have := lsub_row (g := Value.int .u64) B (n := 16) (o := 0) (m := 16) (by omega)
      rw [this]; simp
    rw [this]
    exact gabionlaw03_PmLasts.L15.c hr fr hq 16 0 h5 _ (by omega) (w4.keep fun k _ hk => part_live p5 hk) ((Step.of_part p5).dom lv4) (p4.trans p5) li4 (fun w hw => by omega)
  | succ j ih =>
    intro k h s hk w lv p li hb
    apply gabionlaw03_PmLasts.L6.ok
    have hk16 : k < 16 := by omega
    have nl := li.nl
    refine xsIf_t (decide_eq_true (by omega)) ⟨by omega, A k, by rw [show (k : Int).toNat * 1 = k by omega]; exact row_get _ hk16, pm_Device_Store.c w fun h2 w2 st2 => ⟨_, rfl, ?_⟩⟩
    rw [pstore_run li.off (by rw [li.fuse]; decide) (by omega) (by omega)] at w2
    rw [show IntKind.i64.wrap ((k : Int) + 1) = ((k + 1 : Nat) : Int) by rw [i64_in _ (by omega)]; omega]
    refine ih (k + 1) h2 _ (by omega) w2 (st2.dom lv) (st2.part p fr) (li.tick.buf _) fun q hq => ?_
    show ∃ f, fset s.buf (k : Int).toNat (some (A k, false)) q = _
    unfold fset
    by_cases e : q = k
    · rw [if_pos (by omega), e]; exact ⟨false, rfl⟩
    · rw [if_neg (by omega)]; exact hb q (by omega)
end
end Go.Gb
