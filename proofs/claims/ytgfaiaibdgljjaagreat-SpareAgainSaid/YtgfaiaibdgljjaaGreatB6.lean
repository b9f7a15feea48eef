/- Own texts for the seat: Ln3 Sp2 Sp3 Sp4 Ln4 Sp5 Sq1 Rs1 Rs2 Sq3 Ln6 Sg1. -/
import Derived.Test.YtgfaiaibdgljjaaGreatB5
import Derived.Test.YtgfaiaibdgljjaaGreatB4
import Derived.Test.YtgfaiaibdgljjaaGreatB3
set_option linter.unusedVariables false
set_option linter.unusedSimpArgs false
set_option linter.unnecessarySimpa false
set_option linter.deprecated false
namespace Go.Gb
open Go.Proofs IntWalk

/-! ## gabionlaw04: full; puts on a device that works -/

def zero64 : ByteArray := ⟨(Lib.repeatL [UInt8.ofNat 0] 64).toArray⟩
def fullB (s : ByteArray) : ByteArray := sext (s ++ zero64) 0 64

theorem zero64_size : zero64.size = 64 := by
  show (Lib.repeatL [UInt8.ofNat 0] 64).toArray.size = 64
  rw [List.size_toArray, Lib.repeatL_length]; rfl
theorem fullB_size (s : ByteArray) : (fullB s).size = 64 := by
  unfold fullB sext
  rw [ByteArray.size_extract, ByteArray.size_append, zero64_size]
  show min 64 _ - 0 = 64
  omega

/-- A device that works, with nothing pending. -/
structure Cl (s : PmS) : Prop where
  off : s.off = false
  fuse : s.fuse = 0
  buf : ∀ w, w < 8 * s.nl → s.buf w = none
  c0 : 0 ≤ s.count
  c1 : s.count < 1000000000

theorem pflush_nf {s : PmS} {a : Nat} (h0 : s.off = false) (h1 : s.fuse = 0) (ha : a < s.nl) : pflush s (a : Int) = (0, { ptick s with buf := fbuf s.buf a 8 }) := by
  have := pflush_run (s := s) (k := (a : Int)) h0 (by rw [h1]; decide) (by omega) (by omega)
  rw [Int.toNat_natCast] at this; exact this
theorem pstore_nf {s : PmS} {k : Nat} {v : Int} (h0 : s.off = false) (h1 : s.fuse = 0) (hk : k < 8 * s.nl) : pstore s (k : Int) v = (0, { ptick s with buf := fset s.buf k (some (v, false)) }) := by
  have := pstore_run (s := s) (k := (k : Int)) (v := v) h0 (by rw [h1]; decide) (by omega) (by omega)
  rw [Int.toNat_natCast] at this; exact this
theorem ptick_fuse {s : PmS} (h : s.fuse = 0) : (ptick s).fuse = 0 := by show (if 0 < s.fuse then s.fuse - 1 else s.fuse) = 0; rw [h]; rfl
theorem ptick_count {s : PmS} (h : 0 ≤ s.count) (h1 : s.count < 2000000000) : (ptick s).count = s.count + 1 := by show IntKind.wrap .i64 (s.count + 1) = _; rw [i64_in _ (by omega)]

/-- What is stored lasts. -/
theorem llast_clean {s : PmS} {a : Nat} {p : Nat → Bool} {f : Nat → Int} (h0 : s.off = false) (h1 : s.fuse = 0) (ha : a < s.nl) (c0 : 0 ≤ s.count) (c1 : s.count < 1000001000)
    (hb : ∀ w, w < 8 * s.nl → s.buf w = if w / 8 = a ∧ p (w % 8) = true then some (f (w % 8), false) else none) :
    ∃ s', llast s (a : Int) = (0, s') ∧ s'.nl = s.nl ∧ s'.off = false ∧ s'.fuse = 0 ∧ s'.bad = s.bad ∧ s'.count = s.count + 2 ∧ (∀ w, w < 8 * s.nl → s'.buf w = none) ∧
      ∀ w, w < 8 * s.nl → s'.media w = if w / 8 = a ∧ p (w % 8) = true ∧ s.bad a = false then f (w % 8) else s.media w := by
  unfold llast
  rw [pflush_nf h0 h1 ha, if_pos rfl]
  generalize hs2 : ({ ptick s with buf := fbuf s.buf a 8 } : PmS) = s2
  have o2 : s2.off = false := by rw [← hs2]; exact h0
  have f2 : s2.fuse = 0 := by rw [← hs2]; exact ptick_fuse h1
  have nl2 : s2.nl = s.nl := by rw [← hs2]; rfl
  have b2 : s2.buf = fbuf s.buf a 8 := by rw [← hs2]
  have cc : s2.count = s.count + 1 := by rw [← hs2]; exact ptick_count c0 (by omega)
  have m2 : s2.media = s.media := by rw [← hs2]; rfl
  have bd2 : s2.bad = s.bad := by rw [← hs2]; rfl
  rw [pfence_run o2 (by rw [f2]; decide)]
  have hb2 : ∀ w, w < 8 * s.nl → s2.buf w = if w / 8 = a ∧ p (w % 8) = true then some (f (w % 8), true) else none := by
    intro w hw
    rw [b2]
    unfold fbuf
    rw [hb w hw]
    by_cases e : w / 8 = a ∧ p (w % 8) = true
    · rw [if_pos e, if_pos e, if_pos (by omega)]; rfl
    · rw [if_neg e, if_neg e]; split <;> rfl
  have hf : ∀ w, w < 8 * s.nl → (w ∈ flushed s2 ↔ w / 8 = a ∧ p (w % 8) = true) := by
    intro w hw
    rw [flushed_mem, nl2, hb2 w hw]
    by_cases e : w / 8 = a ∧ p (w % 8) = true
    · rw [if_pos e]; exact ⟨fun _ => e, fun _ => ⟨hw, _, rfl⟩⟩
    · rw [if_neg e]; exact ⟨fun h => (by obtain ⟨_, v, h⟩ := h; cases h), fun h => absurd h e⟩
  refine ⟨_, rfl, nl2, o2, ptick_fuse f2, bd2, ?_, fun w hw => ?_, fun w hw => ?_⟩
  · show (ptick s2).count = _
    rw [ptick_count (by omega) (by omega), cc]; omega
  · show lbuf (ptick s2) (flushed s2) w = none
    unfold lbuf
    by_cases e : w ∈ flushed s2
    · rw [if_pos e]
    · rw [if_neg e]
      show s2.buf w = none
      rw [hb2 w hw, if_neg (fun h => e ((hf w hw).2 h))]
  · show lmedia (ptick s2) (flushed s2) w = _
    unfold lmedia
    show (if w ∈ flushed s2 ∧ s2.bad (w / 8) = false then (match s2.buf w with | some x => x.1 | none => 0) else s2.media w) = _
    rw [m2, bd2]
    by_cases e : w / 8 = a ∧ p (w % 8) = true
    · by_cases eb : s.bad a = false
      · rw [if_pos ⟨(hf w hw).2 e, by rw [e.1]; exact eb⟩, if_pos ⟨e.1, e.2, eb⟩, hb2 w hw, if_pos e]
      · rw [if_neg (fun h => eb (by rw [← e.1]; exact h.2)), if_neg (fun h => eb h.2.2)]
    · rw [if_neg (fun h => e ((hf w hw).1 h.1)), if_neg (fun h => e ⟨h.1, h.2.1⟩)]

theorem lstores_clean {a : Nat} {f : Nat → Nat} : ∀ (j k : Nat) (s : PmS), k + j = 8 → s.off = false → s.fuse = 0 → a < s.nl → 0 ≤ s.count → s.count + j < 1000000500 →
    (∀ w, w < 8 * s.nl → s.buf w = if w / 8 = a ∧ w % 8 < k then some (((f (w % 8) : Nat) : Int), false) else none) →
    ∃ s', lstores a f j k s = (0, s') ∧ s'.nl = s.nl ∧ s'.off = false ∧ s'.fuse = 0 ∧ s'.bad = s.bad ∧ s'.count = s.count + j + 2 ∧ (∀ w, w < 8 * s.nl → s'.buf w = none) ∧
      ∀ w, w < 8 * s.nl → s'.media w = if w / 8 = a ∧ s.bad a = false then ((f (w % 8) : Nat) : Int) else s.media w := by
  intro j
  induction j with
  | zero =>
    intro k s hk h0 h1 ha c0 c1 hb
    obtain ⟨s', g1, g2, g3, g4, g5, g6, g7, g8⟩ := llast_clean (p := fun _ => true) (f := fun i => ((f i : Nat) : Int)) h0 h1 ha c0 (by omega) (fun w hw => by
      rw [hb w hw]
      by_cases e : w / 8 = a
      · rw [if_pos ⟨e, by omega⟩, if_pos ⟨e, rfl⟩]
      · rw [if_neg (fun h => e h.1), if_neg (fun h => e h.1)])
    refine ⟨s', g1, g2, g3, g4, g5, by omega, g7, fun w hw => ?_⟩
    rw [g8 w hw]
    by_cases e : w / 8 = a ∧ s.bad a = false
    · rw [if_pos ⟨e.1, rfl, e.2⟩, if_pos e]
    · rw [if_neg (fun h => e ⟨h.1, h.2.2⟩), if_neg e]
  | succ j ih =>
    intro k s hk h0 h1 ha c0 c1 hb
    unfold lstores
    rw [pstore_nf h0 h1 (by omega), if_pos rfl]
    obtain ⟨s', g1, g2, g3, g4, g5, g6, g7, g8⟩ := ih (k + 1) { ptick s with buf := fset s.buf (8 * a + k) (some (((f k : Nat) : Int), false)) } (by omega) h0 (ptick_fuse h1) ha (by show 0 ≤ (ptick s).count; rw [ptick_count c0 (by omega)]; omega) (by show (ptick s).count + j < _; rw [ptick_count c0 (by omega)]; omega) (fun w hw => by
      have hw : w < 8 * s.nl := hw
      show fset s.buf (8 * a + k) (some (((f k : Nat) : Int), false)) w = _
      unfold fset
      by_cases e : w = 8 * a + k
      · rw [if_pos e, if_pos (by omega), show w % 8 = k by omega]
      · rw [if_neg e, hb w hw]
        by_cases e2 : w / 8 = a ∧ w % 8 < k
        · rw [if_pos e2, if_pos (by omega)]
        · rw [if_neg e2, if_neg (by omega)])
    refine ⟨s', g1, g2, g3, g4, g5, ?_, g7, g8⟩
    rw [g6]
    show (ptick s).count + j + 2 = _
    rw [ptick_count c0 (by omega)]; omega

theorem lnput_clean {s : PmS} {a : Nat} {b : ByteArray} (cl : Cl s) (ha : a < s.nl) (hb : b.size = 64) : ∃ s', lnput s (a : Int) b = (0, s') ∧ Cl { s' with count := 0 } ∧ s'.nl = s.nl ∧ s'.bad = s.bad ∧ s'.count = s.count + 10 ∧
      ∀ w, w < 8 * s.nl → s'.media w = if w / 8 = a ∧ s.bad a = false then ((wordAt b (w % 8) : Nat) : Int) else s.media w := by
  have c0 := cl.c0
  have c1 := cl.c1
  obtain ⟨s', g1, g2, g3, g4, g5, g6, g7, g8⟩ := lstores_clean (a := a) (f := wordAt b) 8 0 s (by omega) cl.off cl.fuse ha cl.c0 (by omega) (fun w hw => by rw [cl.buf w hw, if_neg (by omega)])
  unfold lnput
  rw [if_pos hb, if_pos (by unfold lthere; rw [if_pos (by omega)]), Int.toNat_natCast]
  exact ⟨s', g1, ⟨g3, g4, by show ∀ w, w < 8 * s'.nl → s'.buf w = none; rw [g2]; exact g7, Int.le_refl _, by show (0 : Int) < _; omega⟩, g2, g5, by omega, g8⟩

theorem lnputw_clean {s : PmS} {a k : Nat} {v : Int} (cl : Cl s) (ha : a < s.nl) (hk : k < 8) : ∃ s', lnputw s (a : Int) (k : Int) v = (0, s') ∧ Cl { s' with count := 0 } ∧ s'.nl = s.nl ∧ s'.bad = s.bad ∧ s'.count = s.count + 3 ∧
      ∀ w, w < 8 * s.nl → s'.media w = if w = 8 * a + k ∧ s.bad a = false then v else s.media w := by
  have c0 := cl.c0
  have c1 := cl.c1
  unfold lnputw
  have e : (8 * (a : Int) + (k : Int)) = ((8 * a + k : Nat) : Int) := by omega
  rw [if_pos (by omega), if_pos (by unfold lthere; rw [if_pos (by omega)]), e, pstore_nf cl.off cl.fuse (by omega), if_pos rfl]
  have cc : (ptick s).count = s.count + 1 := ptick_count c0 (by omega)
  obtain ⟨s', g1, g2, g3, g4, g5, g6, g7, g8⟩ := llast_clean (s := { ptick s with buf := fset s.buf (8 * a + k) (some (v, false)) }) (a := a) (p := fun i => decide (i = k)) (f := fun _ => v) cl.off (ptick_fuse cl.fuse) ha (by show 0 ≤ (ptick s).count; omega) (by show (ptick s).count < _; omega) (fun w hw => by
    have hw : w < 8 * s.nl := hw
    show fset s.buf (8 * a + k) (some (v, false)) w = _
    unfold fset
    by_cases e : w = 8 * a + k
    · rw [if_pos e, if_pos ⟨by omega, decide_eq_true (by omega)⟩]
    · rw [if_neg e, cl.buf w hw, if_neg]
      rintro ⟨h1, h2⟩
      have := of_decide_eq_true h2
      omega)
  refine ⟨s', g1, ⟨g3, g4, by show ∀ w, w < 8 * s'.nl → s'.buf w = none; rw [g2]; exact g7, Int.le_refl _, by show (0 : Int) < _; omega⟩, g2, g5, ?_, fun w hw => ?_⟩
  · rw [g6]; show (ptick s).count + 2 = _; omega
  · rw [g8 w hw]
    by_cases e : w = 8 * a + k ∧ s.bad a = false
    · rw [if_pos e, if_pos ⟨by omega, decide_eq_true (by omega), e.2⟩]
    · rw [if_neg e, if_neg]
      · rfl
      · rintro ⟨h1, h2, h3⟩
        have := of_decide_eq_true h2
        exact e ⟨by omega, h3⟩
end Go.Gb
namespace Go.Gb
open Go.Proofs IntWalk

/-! ## spare: plans, the bank's cells, entry, Open, Where, Read -/

def rightI (a l s : Int) : Prop := 0 ≤ a ∧ a ≤ 8192 ∧ 1 ≤ l ∧ l ≤ 1026 ∧ 0 ≤ s ∧ s ≤ 64
instance (a l s : Int) : Decidable (rightI a l s) := by unfold rightI; infer_instance
def plI (a l s : Int) : Pl := ⟨a.toNat, l.toNat, s.toNat⟩
def checkI (a l s n : Int) : Int := if rightI a l s then (if n < a + (sizeN (plI a l s) : Nat) then 3 else 0) else 2

/-- The numbers of a plan that may be. -/
structure PlB (p : Pl) : Prop where
  l1 : 1 ≤ p.pl
  l2 : p.pl ≤ 1026
  s2 : p.ps ≤ 64
  a2 : p.pa ≤ 8192
theorem PlOk.b {p : Pl} {n : Nat} (o : PlOk p n) : PlB p := ⟨o.l1, o.l2, o.s2, o.a2⟩
abbrev plV (p : Pl) : Value := .agg #[.int .i64 p.pa, .int .i64 p.pl, .int .i64 p.ps]
theorem PlB.right {p : Pl} (o : PlB p) : rightI p.pa p.pl p.ps := by
  have := o.l1; have := o.l2; have := o.s2; have := o.a2
  unfold rightI; omega
theorem plI_nat (p : Pl) : plI p.pa p.pl p.ps = p := by unfold plI; simp
theorem PlOk.check {p : Pl} {n : Nat} (o : PlOk p n) : checkI p.pa p.pl p.ps n = 0 := by
  unfold checkI
  have := o.fit
  rw [if_pos o.b.right, plI_nat, if_neg (by omega)]

section
variable {h : Heap} {Q : Value → Heap → Prop} {a l s n : Int} {p : Pl}

theorem spare_Plan_right.c (hq : Q (.bool (decide (rightI a l s))) h) : C Tryz.prog 70 #[.agg #[.int .i64 a, .int .i64 l, .int .i64 s]] h Q := by
  apply spare_Plan_right.ok
  refine xsIf_intro (fun h1 => xsIf_intro (fun h2 => xsIf_intro (fun h3 => xsIf_intro (fun h4 => xsIf_intro (fun h5 => ?_) fun h5 => ?_) fun h4 => ?_) fun h3 => ?_) fun h2 => ?_) fun h1 => ?_
  all_goals simp only [decide_eq_true_eq, decide_eq_false_iff_not] at *
  · have e : decide (rightI a l s) = decide (s ≤ 64) := by
      by_cases h6 : s ≤ 64
      · rw [decide_eq_true h6, decide_eq_true (by unfold rightI; omega)]
      · rw [decide_eq_false h6, decide_eq_false (by unfold rightI; omega)]
    rw [e] at hq; exact hq
  all_goals (rw [decide_eq_false (show ¬ rightI a l s by unfold rightI; omega)] at hq; exact hq)

theorem spare_Plan_table.c (hb : PlB p) (hq : Q (.int .i64 (tblN p : Nat)) h) : C Tryz.prog 71 #[plV p] h Q := by
  apply spare_Plan_table.ok
  unfold spare_Plan_table.wp
  have := hb.s2
  rw [i64_in ((p.ps : Int) + 8) (by omega), i64_in _ (by omega), iquo_i64 (by omega) (by omega) (by omega)]
  rw [show ((p.ps : Int) + 8 - 1) / 8 = ((tblN p : Nat) : Int) by unfold tblN; omega]
  exact hq

theorem rightI_pl (hr : rightI a l s) : ∃ p : Pl, PlB p ∧ a = p.pa ∧ l = p.pl ∧ s = p.ps := by
  unfold rightI at hr
  exact ⟨⟨a.toNat, l.toNat, s.toNat⟩, ⟨by show 1 ≤ l.toNat; omega, by show l.toNat ≤ _; omega, by show s.toNat ≤ _; omega, by show a.toNat ≤ _; omega⟩, by show a = (a.toNat : Int); omega, by show l = (l.toNat : Int); omega, by show s = (s.toNat : Int); omega⟩

theorem tblN_le (hb : PlB p) : tblN p ≤ 8 := by have := hb.s2; unfold tblN; omega

theorem spare_Plan_Size.c (hq : Q (.int .i64 (if rightI a l s then (sizeN (plI a l s) : Nat) else 0 : Int)) h) : C Tryz.prog 25 #[.agg #[.int .i64 a, .int .i64 l, .int .i64 s]] h Q := by
  apply spare_Plan_Size.ok
  refine spare_Plan_right.c ⟨_, rfl, ?_⟩
  by_cases hr : rightI a l s
  · rw [if_pos hr] at hq
    obtain ⟨p, hb, rfl, rfl, rfl⟩ := rightI_pl hr
    rw [plI_nat] at hq
    have := tblN_le hb
    have := hb.l2
    have := hb.s2
    refine xsIf_f (by rw [decide_eq_true hr]; rfl) (spare_Plan_table.c hb ⟨_, rfl, ?_⟩)
    rw [i64_in ((tblN p : Nat) + (p.pl : Int)) (by omega), i64_in _ (by omega), show ((tblN p : Nat) : Int) + (p.pl : Int) + (p.ps : Int) = ((sizeN p : Nat) : Int) by unfold sizeN; omega]
    exact hq
  · rw [if_neg hr] at hq
    exact xsIf_t (by rw [decide_eq_false hr]; rfl) hq

theorem spare_Plan_Check.c (hq : Q (.int .i64 (checkI a l s n)) h) : C Tryz.prog 24 #[.agg #[.int .i64 a, .int .i64 l, .int .i64 s], .int .i64 n] h Q := by
  apply spare_Plan_Check.ok
  refine spare_Plan_right.c ⟨_, rfl, ?_⟩
  unfold checkI at hq
  by_cases hr : rightI a l s
  · rw [if_pos hr] at hq
    refine xsIf_f (by rw [decide_eq_true hr]; rfl) (spare_Plan_Size.c ⟨_, rfl, ?_⟩)
    rw [if_pos hr]
    obtain ⟨p, hb, rfl, rfl, rfl⟩ := rightI_pl hr
    rw [plI_nat] at hq ⊢
    have := tblN_le hb
    have := hb.l2
    have := hb.s2
    have := hb.a2
    have hs : sizeN p ≤ 2000 := by unfold sizeN; omega
    rw [i64_in _ (by omega)]
    refine xsIf_intro (fun h1 => ?_) fun h1 => ?_
    · rw [if_pos (of_decide_eq_true h1)] at hq; exact hq
    · rw [if_neg (of_decide_eq_false h1)] at hq; exact hq
  · rw [if_neg hr] at hq
    exact xsIf_t (by rw [decide_eq_false hr]; rfl) hq

theorem spare_Plan_own.c {i : Nat} (hb : PlB p) (hi : i ≤ 100000) (hq : Q (.int .i64 (ownN p i : Nat)) h) : C Tryz.prog 68 #[plV p, .int .i64 (i : Int)] h Q := by
  apply spare_Plan_own.ok
  refine spare_Plan_table.c hb ⟨_, rfl, ?_⟩
  have := tblN_le hb
  have := hb.a2
  rw [i64_in ((p.pa : Int) + (tblN p : Nat)) (by omega), i64_in _ (by omega), show (p.pa : Int) + ((tblN p : Nat) : Int) + (i : Int) = ((ownN p i : Nat) : Int) by unfold ownN; omega]
  exact hq

theorem spare_Plan_spare.c {k : Nat} (hb : PlB p) (hk : k ≤ 1000) (hq : Q (.int .i64 (sparN p k : Nat)) h) : C Tryz.prog 67 #[plV p, .int .i64 (k : Int)] h Q := by
  apply spare_Plan_spare.ok
  have := tblN_le hb
  have := hb.a2
  have := hb.l2
  refine spare_Plan_own.c hb (by omega) ⟨_, rfl, ?_⟩
  have e : ownN p p.pl ≤ 20000 := by unfold ownN; omega
  rw [i64_in _ (by omega), show ((ownN p p.pl : Nat) : Int) + (k : Int) = ((sparN p k : Nat) : Int) by unfold ownN sparN; omega]
  exact hq
end

/-- The spares that stand for lines. -/
def standsP (p : Pl) (l : List Nat) : Nat → Option Nat := fun i => if i < p.pl then stands l i else none

/-- The bank's cells. -/
structure BankC (G : Nat → Prop) (h : Heap) (b d r : Nat) (p : Pl) (l : List Nat) (ml : List (Int × Value × Nat)) (c : Nat) : Prop where
  pb : PlB p
  len : l.length ≤ p.ps
  gb : G b
  gr : G r
  ne : b ≠ r
  hb : Blk h b [.pointer (some ⟨d, 0, none⟩), .int .i64 p.pa, .int .i64 p.pl, .int .i64 p.ps, .int .i64 (l.length : Nat), .map (some r)]
  hr : h r = some (mapO (Value.int .i64) ml c)
  mm : MapG (fun k : Nat => Value.int .i64 (k : Int)) p.pl (standsP p l) ml c
def BankD (G : Nat → Prop) (h : Heap) (b d : Nat) (p : Pl) (l : List Nat) : Prop := ∃ r ml c, BankC G h b d r p l ml c

theorem BankC.keep {G : Nat → Prop} {h h' : Heap} {b d r : Nat} {p : Pl} {l : List Nat} {ml : List (Int × Value × Nat)} {c : Nat} (w : BankC G h b d r p l ml c) (e : ∀ k, G k → h k ≠ none → h' k = h k) : BankC G h' b d r p l ml c :=
  ⟨w.pb, w.len, w.gb, w.gr, w.ne, w.hb.keep (e _ w.gb w.hb.ne), by rw [e _ w.gr (by rw [w.hr]; simp), w.hr], w.mm⟩
theorem BankD.keep {G : Nat → Prop} {h h' : Heap} {b d : Nat} {p : Pl} {l : List Nat} (w : BankD G h b d p l) (e : ∀ k, G k → h k ≠ none → h' k = h k) : BankD G h' b d p l := by
  obtain ⟨r, ml, c, w⟩ := w; exact ⟨r, ml, c, w.keep e⟩

section
variable {G : Nat → Prop} {h : Heap} {b d r : Nat} {p : Pl} {l : List Nat} {ml : List (Int × Value × Nat)} {cc : Nat} {Q : Value → Heap → Prop}

theorem BankC.c0 (w : BankC G h b d r p l ml cc) : h.cell b (0 + 0) = some (.pointer (some ⟨d, 0, none⟩)) := w.hb.cell 0
theorem BankC.c1 (w : BankC G h b d r p l ml cc) : h.cell b (0 + 1) = some (.int .i64 p.pa) := w.hb.cell 1
theorem BankC.c2 (w : BankC G h b d r p l ml cc) : h.cell b (0 + 1 + 1) = some (.int .i64 p.pl) := w.hb.cell 2
theorem BankC.c3 (w : BankC G h b d r p l ml cc) : h.cell b (0 + 1 + 1 + 1) = some (.int .i64 p.ps) := w.hb.cell 3
theorem BankC.c4 (w : BankC G h b d r p l ml cc) : h.cell b (0 + 4) = some (.int .i64 (l.length : Nat)) := w.hb.cell 4
theorem BankC.c5 (w : BankC G h b d r p l ml cc) : h.cell b (0 + 5) = some (.map (some r)) := w.hb.cell 5

theorem spare_Bank_Lines.c (w : BankD G h b d p l) (hq : Q (.int .i64 p.pl) h) : C Tryz.prog 19 #[.pointer (some ⟨b, 0, none⟩)] h Q := by
  obtain ⟨r, ml, cc, w⟩ := w
  apply spare_Bank_Lines.ok
  exact xsIf_f rfl ⟨b, 0, rfl, _, w.c2, hq⟩
theorem spare_Bank_Left.c (w : BankD G h b d p l) (hq : Q (.int .i64 ((p.ps : Int) - (l.length : Nat))) h) : C Tryz.prog 18 #[.pointer (some ⟨b, 0, none⟩)] h Q := by
  obtain ⟨r, ml, cc, w⟩ := w
  have := w.pb.s2
  have := w.len
  apply spare_Bank_Left.ok
  refine xsIf_f rfl ⟨b, 0, rfl, b, 0, rfl, _, w.hb.cell 3, _, w.c4, ?_⟩
  rw [i64_in _ (by omega)]; exact hq

theorem spare_Bank_Where.c {i : Int} (w : BankD G h b d p l) (hy : 0 ≤ i → i < p.pl → Q (.tuple #[.int .i64 (whN p l i.toNat : Nat), .int .i64 0]) h) (hn : ¬ (0 ≤ i ∧ i < p.pl) → Q (.tuple #[.int .i64 0, .int .i64 3]) h) :
    C Tryz.prog 21 #[.pointer (some ⟨b, 0, none⟩), .int .i64 i] h Q := by
  obtain ⟨r, ml, cc, w⟩ := w
  have hs := w.pb.s2
  have hl := w.len
  have hl2 := w.pb.l2
  apply spare_Bank_Where.ok
  refine xsIf_f rfl (xsIf_intro (fun h1 => hn (by have := of_decide_eq_true h1; omega)) fun h1 => ⟨b, 0, rfl, _, w.c2, xsIf_intro (fun h2 => hn (by have := of_decide_eq_true h2; omega)) fun h2 => ?_⟩)
  have h1 := of_decide_eq_false h1
  have h2 := of_decide_eq_false h2
  have hy := hy (by omega) (by omega)
  obtain ⟨i, rfl⟩ : ∃ k : Nat, i = k := ⟨i.toNat, by omega⟩
  rw [Int.toNat_natCast] at hy
  refine ⟨b, 0, rfl, _, w.c5, r, rfl, ml, cc, w.hr, fun j v b3 hj => ?_, fun hno => ?_⟩
  · obtain ⟨k, hk, rfl⟩ := w.mm.found hj
    unfold standsP at hk
    rw [if_pos (by omega)] at hk
    have e : whN p l i = sparN p k := by unfold whN; rw [hk]
    rw [e] at hy
    have := (stN_lt _ hk).1
    exact ⟨_, rfl, b, 0, rfl, _, w.c1, _, w.c2, _, w.c3, spare_Plan_spare.c w.pb (by omega) ⟨_, rfl, hy⟩⟩
  · have hk := w.mm.lacks hno
    unfold standsP at hk
    rw [if_pos (by omega)] at hk
    have e : whN p l i = ownN p i := by unfold whN; rw [hk]
    rw [e] at hy
    exact ⟨b, 0, rfl, _, w.c1, _, w.c2, _, w.c3, spare_Plan_own.c w.pb (by omega) ⟨_, rfl, hy⟩⟩

/-- One more spare is used. -/
theorem BankC.grow {n : Nat} (w : BankC G h b d r p l ml cc) (hl : l.length < p.ps) (hd : n = 65535 ∨ (1 ≤ n ∧ n ≤ p.pl)) (hq : ∀ h', BankD G h' b d p (l ++ [n]) → Step G h G h' → Q (.int .i64 0) h') :
    spare_Bank_entry.J6 (some ⟨b, 0, none⟩) (l.length : Nat) (n : Nat) h Q := by
  have hs := w.pb.s2
  have hl2 := w.pb.l2
  apply spare_Bank_entry.J6.ok
  have e1 : IntKind.i64.wrap (((l.length : Nat) : Int) + 1) = (((l ++ [n]).length : Nat) : Int) := by rw [i64_in _ (by omega)]; simp
  unfold spare_Bank_entry.J6.wp
  rw [e1]
  have b1 := w.hb.put (0 + 4) [.int .i64 (((l ++ [n]).length : Nat) : Int)]
  have hk1 : ∀ k, k ≠ b → h.put b (0 + 4) [.int .i64 (((l ++ [n]).length : Nat) : Int)] k = h k := fun k hk => put_other h _ _ hk
  have hr1 : h.put b (0 + 4) [.int .i64 (((l ++ [n]).length : Nat) : Int)] r = some (mapO (Value.int .i64) ml cc) := by rw [hk1 _ (Ne.symm w.ne)]; exact w.hr
  have len' : (l ++ [n]).length ≤ p.ps := by simp; omega
  refine ⟨b, 0, rfl, w.hb.can (by simp), ?_⟩
  rcases hd with rfl | hd
  · refine xsIf_f rfl (hq _ ⟨r, ml, cc, w.pb, len', w.gb, w.gr, w.ne, b1, hr1, ?_⟩ (Step.put w.gb _ _))
    have := w.mm
    have e : standsP p (l ++ [65535]) = standsP p l := by
      unfold standsP
      rw [stands_snoc]
      funext i
      dsimp only
      by_cases ei : i < p.pl
      · rw [if_pos ei, if_pos ei, if_neg (by omega)]
      · rw [if_neg ei, if_neg ei]
    rw [e]; exact this
  · have e2 : IntKind.i64.wrap (IntKind.i64.wrap ((n : Nat) : Int) - 1) = ((n - 1 : Nat) : Int) := by rw [i64_in ((n : Nat) : Int) (by omega), i64_in _ (by omega)]; omega
    rw [e2]
    have es : standsP p (l ++ [n]) = fset (standsP p l) (n - 1) (some l.length) := by
      unfold standsP
      rw [stands_snoc]
      funext i
      unfold fset
      dsimp only
      by_cases ei : i = n - 1
      · rw [if_pos ei, if_pos (by omega), if_pos (by omega)]
      · rw [if_neg ei]
        by_cases e3 : i < p.pl
        · rw [if_pos e3, if_pos e3, if_neg (by omega)]
        · rw [if_neg e3, if_neg e3]
    refine xsIf_t (decide_eq_true (by omega)) ⟨b, 0, rfl, _, b1.cell 5, r, rfl, ml, cc, hr1, fun j v b3 hj => ?_, fun hno => ?_⟩
    · refine hq _ ⟨r, _, _, w.pb, len', w.gb, w.gr, w.ne, b1.keep (upd_ne w.ne), by rw [upd_same], ?_⟩ ((Step.put w.gb _ _).trans (Step.set w.gr _))
      rw [es]; exact w.mm.set (by omega) hj l.length
    · refine hq _ ⟨r, _, _, w.pb, len', w.gb, w.gr, w.ne, b1.keep (upd_ne w.ne), by rw [upd_same], ?_⟩ ((Step.put w.gb _ _).trans (Step.set w.gr _))
      rw [es]; exact w.mm.add (by omega) (by omega) hno l.length
end
end Go.Gb
namespace Go.Gb
open Go.Proofs IntWalk

/-! ## spare: entry, Format, Open -/

theorem Step.left {F G : Nat → Prop} {h h' : Heap} (s : Step F h F h') : Step (fun k => F k ∨ G k) h (fun k => F k ∨ G k) h' := s.widen
theorem Step.right {F G : Nat → Prop} {h h' : Heap} (s : Step G h G h') : Step (fun k => F k ∨ G k) h (fun k => F k ∨ G k) h' :=
  ⟨fun k hf hk => s.keep k (fun h => hf (.inr h)) hk, fun k hk => .inl hk, s.live, fun hl k hk => s.live k (hl k hk)⟩

section
variable {G : Nat → Prop} {h : Heap} {b d : Nat} {p : Pl} {l : List Nat} {Q : Value → Heap → Prop}

theorem spare_Bank_entry.zero {k : Int} (hq : Q (.int .i64 0) h) : C Tryz.prog 65 #[.pointer (some ⟨b, 0, none⟩), .int .i64 k, .int .u64 0] h Q := by
  apply spare_Bank_entry.ok
  exact xsIf_t rfl hq

theorem spare_Bank_entry.c {v : Nat} (w : BankD G h b d p l) (hl : l.length < p.ps) (hv : validW p.pl v = true) (h64 : v < 18446744073709551616) (h0 : v ≠ 0) (hq : ∀ h', BankD G h' b d p (l ++ [v % 281474976710656]) → Step G h G h' → Q (.int .i64 0) h') :
    C Tryz.prog 65 #[.pointer (some ⟨b, 0, none⟩), .int .i64 (l.length : Nat), .int .u64 (v : Nat)] h Q := by
  obtain ⟨r, ml, cc, w⟩ := w
  have hl2 := w.pb.l2
  obtain ⟨g1, g2⟩ := of_decide_eq_true hv
  apply spare_Bank_entry.ok
  refine xsIf_f (decide_eq_false (by omega)) (crc_Guarded.c h64 ⟨_, _, rfl, ?_⟩)
  rw [if_pos g1, decide_eq_true g1]
  have j6 : spare_Bank_entry.J6 (some ⟨b, 0, none⟩) (l.length : Nat) ((v % 281474976710656 : Nat) : Int) h Q := w.grow hl g2 hq
  generalize v % 281474976710656 = n at g2 j6
  have used : ∀ {x : Int}, decide (x ≠ x) = false := decide_eq_false (fun h => h rfl)
  refine xsIf_f rfl (xsIf_intro (fun e1 => xsIf_f (decide_eq_false ?_) ⟨b, 0, rfl, _, w.c2, xsIf_f (decide_eq_false ?_) ⟨b, 0, rfl, _, w.c4, xsIf_f used j6⟩⟩) fun _ => ⟨b, 0, rfl, _, w.c4, xsIf_f used j6⟩)
  · have e1 : ((n : Nat) : Int) ≠ 65535 := of_decide_eq_true e1
    omega
  · have e1 : ((n : Nat) : Int) ≠ 65535 := of_decide_eq_true e1
    rw [u64_nat' (by omega)]; omega
end

section
variable {F : Nat → Prop} {h : Heap} {d : Nat} {s : PmS} {Q : Value → Heap → Prop} {a l n : Int} {p : Pl}

theorem spare_check.c (w : PmD F h d s) (hq : Q (.int .i64 (checkI a l n s.nl)) h) : C Tryz.prog 63 #[.pointer (some ⟨d, 0, none⟩), .agg #[.int .i64 a, .int .i64 l, .int .i64 n]] h Q := by
  apply spare_check.ok
  exact xsIf_f rfl (pm_Device_Lines.c w ⟨_, rfl, spare_Plan_Check.c ⟨_, rfl, hq⟩⟩)
theorem spare_check.nil (hq : Q (.int .i64 1) h) : C Tryz.prog 63 #[.pointer none, .agg #[.int .i64 a, .int .i64 l, .int .i64 n]] h Q := by
  apply spare_check.ok
  exact xsIf_t rfl hq

/-- Lines are put as noughts. -/
def sfmt (p : Pl) (z : ByteArray) : Nat → Nat → PmS → Int × PmS
  | 0, _, s => (0, s)
  | j + 1, k, s => if (lnput s (p.pa + k : Nat) z).1 = 0 then sfmt p z j (k + 1) (lnput s (p.pa + k : Nat) z).2 else lnput s (p.pa + k : Nat) z

theorem spare_Format.L5.c (hb : PlB p) {m : Nat} (hm : m ≤ 100000) : ∀ (j k : Nat) (h : Heap) (s : PmS), k + j = m → PmD F h d s → Live F h → (∀ h', PmD F h' d (sfmt p zero64 j k s).2 → Step F h F h' → Q (.int .i64 (sfmt p zero64 j k s).1) h') →
    spare_Format.L5 (some ⟨d, 0, none⟩) (m : Int) (k : Int) p.pa p.pl p.ps h Q := by
  intro j
  induction j with
  | zero =>
    intro k h s hk w lv hq
    apply spare_Format.L5.ok
    exact xsIf_f (decide_eq_false (by omega)) (hq h w (Step.refl _ _))
  | succ j ih =>
    intro k h s hk w lv hq
    apply spare_Format.L5.ok
    unfold spare_Format.L5.wp
    have := hb.a2
    rw [show IntKind.i64.wrap ((k : Int) + 1) = ((k + 1 : Nat) : Int) by rw [i64_in _ (by omega)]; omega, show IntKind.i64.wrap ((p.pa : Int) + (k : Int)) = ((p.pa + k : Nat) : Int) by rw [i64_in _ (by omega)]; omega]
    refine xsIf_t (decide_eq_true (by omega)) (strings_Repeat.c (c := 64) (by omega) (by show 1 ≤ 1000000; omega) ⟨_, rfl, ?_⟩)
    show C Tryz.prog 59 #[.pointer (some ⟨d, 0, none⟩), .int .i64 ((p.pa + k : Nat) : Int), .string zero64] h _
    refine line_Put.c w lv fun h1 w1 st1 => ⟨_, rfl, ?_⟩
    unfold sfmt at hq
    refine xsIf_intro (fun e => ?_) fun e => ?_
    · have e := of_decide_eq_true e
      rw [if_neg e] at hq
      exact hq h1 w1 st1
    · have e : (lnput s (p.pa + k : Nat) zero64).1 = 0 := by simpa using e
      rw [if_pos e] at hq
      exact ih (k + 1) h1 _ (by omega) w1 (st1.dom lv) fun h' w' st => hq h' w' (st1.trans st)

def sformat (p : Pl) (s : PmS) : Int × PmS := sfmt p zero64 (tblN p + p.pl) 0 s

theorem spare_Format.c (w : PmD F h d s) (lv : Live F h) (ok : PlOk p s.nl) (hq : ∀ h', PmD F h' d (sformat p s).2 → Step F h F h' → Q (.int .i64 (sformat p s).1) h') : C Tryz.prog 27 #[.pointer (some ⟨d, 0, none⟩), plV p] h Q := by
  apply spare_Format.ok
  refine spare_check.c w ⟨_, rfl, ?_⟩
  rw [ok.check]
  have hb := ok.b
  have := tblN_le hb
  have := hb.l2
  refine xsIf_f rfl (spare_Plan_table.c hb ⟨_, rfl, ?_⟩)
  rw [i64_in _ (by omega), show ((tblN p : Nat) : Int) + (p.pl : Int) = ((tblN p + p.pl : Nat) : Int) by omega]
  exact spare_Format.L5.c hb (by omega) (tblN p + p.pl) 0 h s (by omega) w lv hq

theorem spare_Format.no (w : PmD F h d s) (he : checkI a l n s.nl ≠ 0) (hq : Q (.int .i64 (checkI a l n s.nl)) h) : C Tryz.prog 27 #[.pointer (some ⟨d, 0, none⟩), .agg #[.int .i64 a, .int .i64 l, .int .i64 n]] h Q := by
  apply spare_Format.ok
  exact spare_check.c w ⟨_, rfl, xsIf_t (decide_eq_true he) hq⟩
theorem spare_Format.nil (hq : Q (.int .i64 1) h) : C Tryz.prog 27 #[.pointer none, .agg #[.int .i64 a, .int .i64 l, .int .i64 n]] h Q := by
  apply spare_Format.ok
  exact spare_check.nil ⟨_, rfl, xsIf_t rfl hq⟩
theorem spare_Open.no (w : PmD F h d s) (he : checkI a l n s.nl ≠ 0) (hq : Q (.tuple #[.pointer none, .int .i64 (checkI a l n s.nl)]) h) : C Tryz.prog 17 #[.pointer (some ⟨d, 0, none⟩), .agg #[.int .i64 a, .int .i64 l, .int .i64 n]] h Q := by
  apply spare_Open.ok
  exact spare_check.c w ⟨_, rfl, xsIf_t (decide_eq_true he) hq⟩
theorem spare_Open.nil (hq : Q (.tuple #[.pointer none, .int .i64 1]) h) : C Tryz.prog 17 #[.pointer none, .agg #[.int .i64 a, .int .i64 l, .int .i64 n]] h Q := by
  apply spare_Open.ok
  exact spare_check.nil ⟨_, rfl, xsIf_t rfl hq⟩

theorem entsTo_step {lines : Nat} {f : Nat → Nat} {m k : Nat} {l : List Nat} (h : entsTo lines f m = some l) (hk : k ≤ m) : ∃ l', entsTo lines f k = some l' := by
  induction m generalizing l with
  | zero => obtain rfl : k = 0 := by omega
            exact ⟨_, rfl⟩
  | succ m ih =>
    by_cases e : k = m + 1
    · rw [e]; exact ⟨l, h⟩
    · unfold entsTo at h
      cases e2 : entsTo lines f m with
      | none => rw [e2] at h; cases h
      | some l2 => exact ih e2 (by omega)

theorem spare_Open.L6.c {G : Nat → Prop} {b : Nat} {l0 : List Nat} (hb : PlB p) (w : PmD F h d s) (ho : s.off = false) (hf : 8 * p.pa + p.ps ≤ 8 * s.nl) (wok : PmOk s) (he : sents s p = some l0) (ap : Apart F G) : ∀ (j k : Nat) (h' : Heap) (l : List Nat), k + j = p.ps → entsTo p.pl (twd s p) k = some l → BankD G h' b d p l → PmD F h' d s →
    (∀ h'', BankD G h'' b d p l0 → Step G h' G h'' → Q (.tuple #[.pointer (some ⟨b, 0, none⟩), .int .i64 0]) h'') →
    spare_Open.L6 (some ⟨d, 0, none⟩) (some ⟨b, 0, none⟩) (p.ps : Int) (k : Int) p.pa p.pl p.ps h' Q := by
  have hs := hb.s2
  have ha := hb.a2
  intro j
  induction j with
  | zero =>
    intro k h' l hk hl wb wd hq
    apply spare_Open.L6.ok
    have : k = p.ps := by omega
    subst this
    have : l = l0 := by unfold sents at he; rw [hl] at he; cases he; rfl
    subst this
    exact xsIf_f (decide_eq_false (by omega)) (hq h' wb (Step.refl _ _))
  | succ j ih =>
    intro k h' l hk hl wb wd hq
    apply spare_Open.L6.ok
    unfold spare_Open.L6.wp
    rw [show IntKind.i64.wrap ((k : Int) + 1) = ((k + 1 : Nat) : Int) by rw [i64_in _ (by omega)]; omega, show IntKind.i64.wrap (IntKind.i64.wrap ((p.pa : Int) * 8) + (k : Int)) = ((8 * p.pa + k : Nat) : Int) by rw [i64_in ((p.pa : Int) * 8) (by omega), i64_in _ (by omega)]; omega]
    refine xsIf_t (decide_eq_true (by omega)) (pm_Device_Load.c wd ⟨_, _, rfl, ?_⟩)
    have hld : pload s ((8 * p.pa + k : Nat) : Int) = (pval s (8 * p.pa + k), 0) := by
      have e : pready s ((8 * p.pa + k : Nat) : Int) ((8 * s.nl : Nat) : Int) = 0 := by unfold pready; rw [ho, if_neg (by simp)]; exact if_pos (by omega)
      unfold pload pval; rw [if_pos e, Int.toNat_natCast]; first | done | (cases s.buf (8 * p.pa + k) <;> rfl)
    rw [hld]
    refine xsIf_f rfl ?_
    have hv := wok.val (8 * p.pa + k)
    unfold R64 at hv
    have ev : pval s (8 * p.pa + k) = ((twd s p k : Nat) : Int) := by unfold twd; omega
    show C Tryz.prog 65 #[.pointer (some ⟨b, 0, none⟩), .int .i64 (k : Int), .int .u64 (pval s (8 * p.pa + k))] h' _
    rw [ev]
    obtain ⟨l2, h2⟩ := entsTo_step (k := k + 1) he (by omega)
    have h3 := h2
    unfold entsTo at h3
    rw [hl] at h3
    dsimp only at h3
    by_cases e0 : twd s p k = 0
    · rw [if_pos e0] at h3
      cases h3
      rw [e0]
      exact spare_Bank_entry.zero ⟨_, rfl, xsIf_f rfl (ih (k + 1) h' l (by omega) h2 wb wd hq)⟩
    · rw [if_neg e0] at h3
      by_cases e1 : validW p.pl (twd s p k) = true ∧ l.length = k
      · rw [if_pos e1] at h3
        cases h3
        obtain ⟨e1, rfl⟩ := e1
        refine spare_Bank_entry.c wb (by omega) e1 (by omega) e0 fun h'' wb' st => ⟨_, rfl, xsIf_f rfl ?_⟩
        exact ih (l.length + 1) h'' _ (by omega) h2 wb' (wd.keep (st.same ap.symm)) fun h3 wb3 st3 => hq h3 wb3 (st.trans st3)
      · rw [if_neg e1] at h3; cases h3

/-- The bank as it lasts, in new blocks. -/
theorem spare_Open.c {l0 : List Nat} (w : PmD F h d s) (lv : Live F h) (i : SpI p s l0)
    (hq : ∀ b G h', BankD G h' b d p l0 → PmD F h' d s → (∀ k, G k → h k = none) → Live F h' → Live G h' → Part h h' → Q (.tuple #[.pointer (some ⟨b, 0, none⟩), .int .i64 0]) h') :
    C Tryz.prog 17 #[.pointer (some ⟨d, 0, none⟩), plV p] h Q := by
  apply spare_Open.ok
  refine spare_check.c w ⟨_, rfl, ?_⟩
  rw [i.ok.check]
  refine xsIf_f rfl fun r hr b hb => ?_
  obtain ⟨nbr, hb0⟩ := fresh_ne hb
  generalize hh2 : upd (upd h r (Obj.map #[] 0)) b (Obj.cells #[.pointer (some ⟨d, 0, none⟩), .int .i64 p.pa, .int .i64 p.pl, .int .i64 p.ps, .int .i64 0, .map (some r)] 119 (0, 0)) = h2
  have hk2 : ∀ k, h k ≠ none → h2 k = h k := fun k hk => by
    rw [← hh2, upd_ne (fun e => hk (by rw [e]; exact hb0)), upd_ne (fun e => hk (by rw [e]; exact hr))]
  have w2 : PmD F h2 d s := w.keep fun k _ hk => hk2 k hk
  have wb : BankD (fun k => k = b ∨ k = r) h2 b d p [] := by
    refine ⟨r, [], 0, i.ok.b, Nat.zero_le _, .inl rfl, .inr rfl, nbr, ?_, ?_, ?_⟩
    · rw [← hh2]; exact Blk.new _ _ _ _
    · rw [← hh2, upd_ne (Ne.symm nbr), upd_same]; rfl
    · have : standsP p [] = fun _ => none := by
        funext i; unfold standsP; split <;> rfl
      rw [this]; exact MapG.empty
  have fit := i.ok.fit
  have hfit : 8 * p.pa + p.ps ≤ 8 * s.nl := by unfold sizeN tblN at fit; omega
  have ap : Apart F (fun k => k = b ∨ k = r) := fun k hk hf => by
    rcases hk with rfl | rfl
    · exact lv _ hf hb0
    · exact lv _ hf hr
  have lf2 : Live F h2 := fun k hk => by rw [hk2 k (lv k hk)]; exact lv k hk
  have lg2 : Live (fun k => k = b ∨ k = r) h2 := fun k hk => by
    rcases hk with rfl | rfl
    · rw [← hh2, upd_same]; simp
    · rw [← hh2, upd_ne (Ne.symm nbr), upd_same]; simp
  refine spare_Open.L6.c (h := h2) (l0 := l0) i.ok.b w2 i.on.off hfit i.w i.en ap p.ps 0 h2 [] (by omega) rfl wb w2 fun h3 wb3 st3 => ?_
  refine hq b _ h3 wb3 (w2.keep (st3.same ap.symm)) (fun k hk => ?_) (st3.alive lf2) (st3.dom lg2) fun k o hko => ?_
  · rcases hk with rfl | rfl
    · exact hb0
    · exact hr
  · have hkn : h k ≠ none := by rw [hko]; simp
    have : ¬ (k = b ∨ k = r) := fun e => by
      rcases e with rfl | rfl
      · exact hkn hb0
      · exact hkn hr
    rw [st3.keep k this (by rw [hk2 k hkn]; exact hkn), hk2 k hkn]; exact hko
end
end Go.Gb
namespace Go.Gb
open Go.Proofs IntWalk

/-! ## spare: Read, say, retire, Write, WriteWord -/

/-- A device and a bank on it. -/
structure DB (F G : Nat → Prop) (h : Heap) (d b : Nat) (p : Pl) (s : PmS) (l : List Nat) : Prop where
  dv : PmD F h d s
  bk : BankD G h b d p l
  lf : Live F h
  lg : Live G h
  ap : Apart F G

abbrev FG (F G : Nat → Prop) : Nat → Prop := fun k => F k ∨ G k

section
variable {F G : Nat → Prop} {h : Heap} {d b : Nat} {p : Pl} {s : PmS} {l : List Nat} {Q : Value → Heap → Prop}

theorem DB.dev {s' : PmS} {h' : Heap} (w : DB F G h d b p s l) (w' : PmD F h' d s') (st : Step F h F h') : DB F G h' d b p s' l :=
  ⟨w', w.bk.keep (st.same w.ap), st.dom w.lf, st.alive w.lg, w.ap⟩
theorem DB.bank {l' : List Nat} {h' : Heap} (w : DB F G h d b p s l) (w' : BankD G h' b d p l') (st : Step G h G h') : DB F G h' d b p s l' :=
  ⟨w.dv.keep (st.same w.ap.symm), w', st.alive w.lf, st.dom w.lg, w.ap⟩
theorem DB.part {h' : Heap} (w : DB F G h d b p s l) (pt : Part h h') : DB F G h' d b p s l :=
  ⟨w.dv.keep fun _ _ hk => part_live pt hk, w.bk.keep fun _ _ hk => part_live pt hk, (Step.of_part pt).dom w.lf, (Step.of_part pt).dom w.lg, w.ap⟩

theorem spare_Bank_Read.c {i : Int} (w : DB F G h d b p s l) (ok : PmOk s) (hy : 0 ≤ i → i < p.pl → Q (.tuple #[.string (lnget s (whN p l i.toNat : Nat)).1, .int .i64 (lnget s (whN p l i.toNat : Nat)).2]) h) (hn : ¬ (0 ≤ i ∧ i < p.pl) → Q (.tuple #[.string ⟨#[]⟩, .int .i64 3]) h) :
    C Tryz.prog 20 #[.pointer (some ⟨b, 0, none⟩), .int .i64 i] h Q := by
  apply spare_Bank_Read.ok
  refine spare_Bank_Where.c w.bk (fun h0 h1 => ⟨_, _, rfl, xsIf_f rfl ?_⟩) fun h0 => ⟨_, _, rfl, xsIf_t rfl (hn h0)⟩
  obtain ⟨r, ml, cc, wb⟩ := w.bk
  exact ⟨b, 0, rfl, _, wb.c0, line_Get.c w.dv ok ⟨_, _, rfl, hy h0 h1⟩⟩

set_option maxRecDepth 100000 in
theorem spare_Bank_say.c {x : Nat} (w : DB F G h d b p s l) (hl : l.length < p.ps) (hx : x = 65535 ∨ (1 ≤ x ∧ x ≤ p.pl))
    (hq : ∀ h', DB F G h' d b p (lnputw s (p.pa + l.length / 8 : Nat) (l.length % 8 : Nat) (guardN x : Nat)).2 (if (lnputw s (p.pa + l.length / 8 : Nat) (l.length % 8 : Nat) (guardN x : Nat)).1 = 0 then l ++ [x] else l) → Step (FG F G) h (FG F G) h' →
      Q (.int .i64 (lnputw s (p.pa + l.length / 8 : Nat) (l.length % 8 : Nat) (guardN x : Nat)).1) h') :
    C Tryz.prog 116 #[.pointer (some ⟨b, 0, none⟩), .int .u64 (x : Nat)] h Q := by
  obtain ⟨r, ml, cc, wb⟩ := w.bk
  have hs := wb.pb.s2
  have ha := wb.pb.a2
  have hl2 := wb.pb.l2
  obtain ⟨v1, v2, v3⟩ := guardN_valid hx hl2
  apply spare_Bank_say.ok
  have e1 : IntKind.i64.wrap ((p.pa : Int) + iquo .i64 ((l.length : Nat) : Int) 8) = ((p.pa + l.length / 8 : Nat) : Int) := by
    rw [iquo_i64 (by omega) (by omega) (by omega), i64_in _ (by omega)]; omega
  have e2 : irem ((l.length : Nat) : Int) 8 = ((l.length % 8 : Nat) : Int) := irem_nat _ 8
  have main : C Tryz.prog 73 #[.pointer (some ⟨d, 0, none⟩), .int .i64 (IntKind.i64.wrap ((p.pa : Int) + iquo .i64 ((l.length : Nat) : Int) 8)), .int .i64 (irem ((l.length : Nat) : Int) 8), .int .u64 (guardN x : Nat)] h fun (r : Value) (h' : Heap) =>
      ∃ (e : Int), r = .int .i64 e ∧ spare_Bank_say.J2 (some ⟨b, 0, none⟩) (x : Nat) e h' Q := by
    rw [e1, e2]
    refine line_PutWord.c w.dv w.lf fun h1 w1 st1 => ⟨_, rfl, ?_⟩
    apply spare_Bank_say.J2.ok
    have db1 := w.dev w1 st1
    have wb1 := wb.keep (st1.same w.ap)
    refine xsIf_intro (fun e => ?_) fun e => ?_
    · have e := of_decide_eq_true e
      rw [e, if_pos rfl] at hq
      have en : C Tryz.prog 65 #[.pointer (some ⟨b, 0, none⟩), .int .i64 (l.length : Nat), .int .u64 (guardN x : Nat)] h1 fun (r : Value) (h' : Heap) => ∃ (x : Int), r = .int .i64 x ∧ Q (.int .i64 x) h' := by
        refine spare_Bank_entry.c ⟨r, ml, cc, wb1⟩ hl v1 (guardN_lt x) v2 fun h2 wb2 st2 => ⟨_, rfl, hq h2 ?_ (st1.left.trans st2.right)⟩
        rw [v3] at wb2
        exact db1.bank wb2 st2
      exact ⟨b, 0, rfl, ⟨_, wb1.c4, crc_Guard.c (by omega) ⟨_, rfl, en⟩⟩, crc_Guard.c (by omega) ⟨_, rfl, _, wb1.c4, en⟩⟩
    · have e := of_decide_eq_false e
      rw [if_neg e] at hq
      exact hq h1 db1 st1.left
  have gd : ∀ {K : Int → Prop}, K (guardN x : Nat) → C Tryz.prog 148 #[.int .u64 (x : Nat)] h fun (r : Value) (h' : Heap) => ∃ (y : Int), r = .int .u64 y ∧ (h' = h ∧ K y) := fun hk => crc_Guard.c (by omega) ⟨_, rfl, rfl, hk⟩
  refine ⟨b, 0, rfl, b, 0, rfl, b, 0, rfl, b, 0, rfl, ?_⟩
  have c1 : h.cell b (0 + 1 + 0) = some (.int .i64 p.pa) := wb.c1
  repeat' (first | exact main | (refine And.intro ?_ ?_) | (refine ⟨_, wb.c0, ?_⟩) | (refine ⟨_, c1, ?_⟩) | (refine ⟨_, wb.c4, ?_⟩) | (refine crc_Guard.c (by omega) ⟨_, rfl, ?_⟩))
end
end Go.Gb
namespace Go.Gb
open Go.Proofs IntWalk

/-! ## gabionlaw04: wakes, LineNone, LineCosts -/

section
variable {h : Heap} {Q : Value → Heap → Prop} {a : Int}

theorem pm_Device_Off.nil (hq : Q (.bool false) h) : C Tryz.prog 38 #[.pointer none] h Q := by
  apply pm_Device_Off.ok
  exact xsIf_f rfl hq

theorem line_there.nil (hq : Q (.int .i64 1) h) : C Tryz.prog 112 #[.pointer none, .int .i64 a] h Q := by
  apply line_there.ok
  exact xsIf_t rfl hq
theorem line_Get.nil (hq : Q (.tuple #[.string ⟨#[]⟩, .int .i64 1]) h) : C Tryz.prog 66 #[.pointer none, .int .i64 a] h Q := by
  apply line_Get.ok
  exact line_there.nil ⟨_, rfl, xsIf_t (by decide) (pm_Device_Off.nil ⟨_, rfl, xsIf_t rfl hq⟩)⟩
theorem line_Put.nil {b : ByteArray} (hq : Q (.int .i64 1) h) : C Tryz.prog 59 #[.pointer none, .int .i64 a, .string b] h Q := by
  apply line_Put.ok
  exact le_Words.c2 fun f _ => ⟨_, _, _, _, _, _, _, _, _, rfl, line_there.nil ⟨_, rfl, xsIf_t (by decide) hq⟩⟩
theorem line_PutWord.nil {k v : Int} (hq : Q (.int .i64 1) h) : C Tryz.prog 73 #[.pointer none, .int .i64 a, .int .i64 k, .int .u64 v] h Q := by
  apply line_PutWord.ok
  exact line_there.nil ⟨_, rfl, xsIf_t (by decide) hq⟩
theorem line_Took.nil {b : ByteArray} (hq : Q (.bool false) h) : C Tryz.prog 60 #[.pointer none, .int .i64 a, .string b] h Q := by
  apply line_Took.ok
  refine le_Words.c2 fun f _ => ⟨_, _, _, _, _, _, _, _, _, rfl, xsIf_intro (fun _ => hq) fun _ => line_there.nil ⟨_, rfl, xsIf_t (by decide) hq⟩⟩
end

theorem Cl.of {s : PmS} (c : Cl { s with count := 0 }) (h0 : 0 ≤ s.count) (h1 : s.count < 1000000000) : Cl s := ⟨c.off, c.fuse, c.buf, h0, h1⟩
theorem Cl.new (n : Nat) : Cl (pnew n) := ⟨rfl, rfl, fun _ _ => rfl, Int.le_refl _, by show (0 : Int) < _; omega⟩

theorem bytes_word_eq {b c : ByteArray} (hb : b.size = 64) (hc : c.size = 64) (h : ∀ k, k < 8 → wordAt b k = wordAt c k) : b = c := by
  rw [← lnbytes_words b hb, ← lnbytes_words c hc]
  unfold lnbytes
  rw [textN_congr 8 h]

theorem lnget_clean {s : PmS} {a : Nat} {b : ByteArray} (cl : Cl s) (ok : PmOk s) (ha : a < s.nl) (hb : b.size = 64) (hm : ∀ k, k < 8 → s.media (8 * a + k) = ((wordAt b k : Nat) : Int)) : lnget s (a : Int) = (b, 0) := by
  unfold lnget
  rw [cl.off, if_neg (by simp), if_pos (by unfold lthere; rw [if_pos (by omega)]), Int.toNat_natCast]
  congr 1
  refine Eq.trans ?_ (lnbytes_words b hb)
  unfold lnbytes
  rw [textN_congr 8]
  intro k hk
  show (pval s (8 * a + k)).toNat = _
  unfold pval
  rw [cl.buf _ (by omega)]
  show (s.media (8 * a + k)).toNat = _
  rw [hm k hk]; omega

set_option maxRecDepth 100000 in
theorem abc_word : wordAt (fullB ⟨#[UInt8.ofNat 97, UInt8.ofNat 98, UInt8.ofNat 99]⟩) 0 ≠ 0 := by
  have : wordAt (fullB ⟨#[UInt8.ofNat 97, UInt8.ofNat 98, UInt8.ofNat 99]⟩) 0 = 6513249 := by kernel_rfl
  rw [this]; decide

/-- What a put costs. -/
theorem lnput_cost {s : PmS} {b : ByteArray} (cl : Cl s) (x : Int) (hb : b.size = 64) (hc : s.count < 10000) : ∃ f s', lnput s x b = (f, s') ∧ Cl s' ∧ s'.nl = s.nl ∧ ((f = 0 ∧ s'.count = s.count + 10) ∨ (f = 3 ∧ s'.count = s.count)) := by
  have c0 := cl.c0
  by_cases ht : lthere s x = 0
  · obtain ⟨n, rfl, hn⟩ := lthere_ok ht
    obtain ⟨s', e, c, n', _, k, _⟩ := lnput_clean cl hn hb
    exact ⟨0, s', e, c.of (by omega) (by omega), n', .inl ⟨rfl, k⟩⟩
  · refine ⟨3, s, ?_, cl, rfl, .inr ⟨rfl, rfl⟩⟩
    unfold lnput; rw [if_pos hb, if_neg ht]
theorem lnputw_cost {s : PmS} (cl : Cl s) (x k v : Int) (hc : s.count < 10000) : ∃ f s', lnputw s x k v = (f, s') ∧ Cl s' ∧ s'.nl = s.nl ∧ ((f = 0 ∧ s'.count = s.count + 3) ∨ ((f = 2 ∨ f = 3) ∧ s'.count = s.count)) := by
  have c0 := cl.c0
  by_cases hk : 0 ≤ k ∧ k < 8
  · by_cases ht : lthere s x = 0
    · obtain ⟨n, rfl, hn⟩ := lthere_ok ht
      obtain ⟨k, rfl⟩ : ∃ j : Nat, k = j := ⟨k.toNat, by omega⟩
      obtain ⟨s', e, c, n', _, k, _⟩ := lnputw_clean (v := v) cl hn (show k < 8 by omega)
      exact ⟨0, s', e, c.of (by omega) (by omega), n', .inl ⟨rfl, k⟩⟩
    · refine ⟨3, s, ?_, cl, rfl, .inr ⟨.inr rfl, rfl⟩⟩
      unfold lnputw; rw [if_pos hk, if_neg ht]
  · refine ⟨2, s, ?_, cl, rfl, .inr ⟨.inl rfl, rfl⟩⟩
    unfold lnputw; rw [if_neg hk]

end Go.Gb
namespace Go.Gb
open Go.Proofs IntWalk

/-! ## spare: retire, Write, WriteWord -/

theorem chunk_left {a b : List UInt8} {j : Nat} (h : 8 * j + 8 ≤ a.length) : chunk (a ++ b) j = chunk a j := by
  unfold chunk
  rw [List.drop_append_of_le_length (by omega), List.take_append_of_le_length (by rw [List.length_drop]; omega)]
theorem chunk_right {a b : List UInt8} {j n : Nat} (h : a.length = 8 * n) (hj : n ≤ j) : chunk (a ++ b) j = chunk b (j - n) := by
  unfold chunk
  have e : 8 * j = a.length + 8 * (j - n) := by omega
  rw [e, List.drop_append, List.drop_of_length_le (show a.length ≤ a.length + 8 * (j - n) by omega), Nat.add_sub_cancel_left, List.nil_append]
theorem chunk_take {a : List UInt8} {j n : Nat} (hj : j < n) : chunk (a.take (8 * n)) j = chunk a j := by
  unfold chunk
  rw [List.drop_take, List.take_take, show min 8 (8 * n - 8 * j) = 8 by omega]
theorem chunk_drop {a : List UInt8} {j n : Nat} : chunk (a.drop (8 * n)) j = chunk a (n + j) := by
  unfold chunk
  rw [List.drop_drop, show 8 * n + 8 * j = 8 * (n + j) by omega]

theorem with_text {w : ByteArray} {k v : Nat} (hw : w.size = 64) (hk : k < 8) (hv : v < 18446744073709551616) :
    sext w 0 ((8 * k : Nat) : Int) ++ ⟨(putL v 8).toArray⟩ ++ sext w ((8 * (k + 1) : Nat) : Int) (w.size : Int) = withW w k v := by
  have hl : w.data.toList.length = 64 := by
    have : w.data.toList.length = w.size := by simp
    omega
  have e1 : sext w 0 ((8 * k : Nat) : Int) = ⟨(w.data.toList.take (8 * k)).toArray⟩ := by
    unfold sext
    apply ByteArray.ext
    rw [Int.toNat_natCast, ByteArray.data_extract]
    apply Array.ext'
    rw [Array.toList_extract, List.extract_eq_take_drop]
    show (w.data.toList.drop 0).take (8 * k - 0) = _
    simp
  have e2 : sext w ((8 * (k + 1) : Nat) : Int) (w.size : Int) = ⟨(w.data.toList.drop (8 * (k + 1))).toArray⟩ := by
    unfold sext
    apply ByteArray.ext
    rw [Int.toNat_natCast, Int.toNat_natCast, ByteArray.data_extract]
    apply Array.ext'
    rw [Array.toList_extract, List.extract_eq_take_drop, List.take_of_length_le]
    rw [List.length_drop, hl]; omega
  have hb : ∀ j, (if j = k then v else wordAt w j) < 18446744073709551616 := fun j => by split; exact hv; exact wordAt_lt _ _
  rw [e1, e2, bytes_append, bytes_append]
  have ta : (w.data.toList.take (8 * k)).length = 8 * k := by rw [List.length_take, hl]; omega
  refine bytes_word_eq ?_ (withW_size _ _ _) fun j hj => ?_
  · rw [bytes_size, List.length_append, List.length_append, ta, putL_length, List.length_drop, hl]; omega
  · unfold withW
    rw [wordAt_text hj (hb j)]
    show getL (chunk (w.data.toList.take (8 * k) ++ putL v 8 ++ w.data.toList.drop (8 * (k + 1))) j) = _
    rw [List.append_assoc]
    by_cases h1 : j < k
    · rw [chunk_left (by rw [ta]; omega), chunk_take h1, if_neg (by omega)]; rfl
    · rw [chunk_right ta (by omega)]
      by_cases h2 : j = k
      · subst h2
        rw [Nat.sub_self, chunk_left (by rw [putL_length]; omega), if_pos rfl]
        unfold chunk
        rw [List.drop_zero, List.take_of_length_le (by rw [putL_length]; omega), getL_put]
        exact Nat.mod_eq_of_lt hv
      · rw [chunk_right (n := 1) (by rw [putL_length]) (by omega), chunk_drop, if_neg h2, show k + 1 + (j - k - 1) = j by omega]; rfl

section
variable {F G : Nat → Prop} {h : Heap} {d b : Nat} {p : Pl} {s : PmS} {l : List Nat} {Q : Value → Heap → Prop}

open Classical in
theorem took_yes {s : PmS} {a : Nat} {x : ByteArray} (t : lntook s (a : Int) x) : took s a x = true := by unfold took; exact decide_eq_true t
open Classical in
theorem took_no {s : PmS} {a : Nat} {x : ByteArray} (t : ¬ lntook s (a : Int) x) : ¬ took s a x = true := by unfold took; rw [decide_eq_false t]; simp

theorem spare_Bank_retire.L1.c {i : Nat} {B : ByteArray} (hi : i < p.pl) : ∀ (m : Nat) (h : Heap) (s : PmS) (l : List Nat), l.length + m = p.ps → DB F G h d b p s l →
    (∀ h', DB F G h' d b p (sretire p i B m s l).2.1 (sretire p i B m s l).2.2 → Step (FG F G) h (FG F G) h' → Q (.int .i64 (sretire p i B m s l).1) h') → spare_Bank_retire.L1 (some ⟨b, 0, none⟩) (i : Int) B h Q := by
  intro m
  induction m with
  | zero =>
    intro h s l hm w hq
    apply spare_Bank_retire.L1.ok
    refine spare_Bank_Left.c w.bk ⟨_, rfl, xsIf_f (decide_eq_false (by omega)) (hq h w (Step.refl _ _))⟩
  | succ m ih =>
    intro h s l hm w hq
    obtain ⟨r, ml, cc, wb⟩ := w.bk
    have hs := wb.pb.s2
    have hl2 := wb.pb.l2
    apply spare_Bank_retire.L1.ok
    refine spare_Bank_Left.c w.bk ⟨_, rfl, xsIf_t (decide_eq_true (by omega)) ⟨b, 0, rfl, b, 0, rfl, _, wb.c1, _, wb.c2, _, wb.c3, _, wb.c4, spare_Plan_spare.c wb.pb (by omega) ⟨_, rfl, b, 0, rfl, _, wb.c0, line_Put.c w.dv w.lf fun h1 w1 st1 => ⟨_, rfl, ?_⟩⟩⟩⟩
    unfold sretire at hq
    have db1 := w.dev w1 st1
    have wb1 := wb.keep (st1.same w.ap)
    refine xsIf_intro (fun e => ?_) fun e => ?_
    · have e := of_decide_eq_true e
      rw [if_neg e] at hq
      exact hq h1 db1 st1.left
    · have e : (lnput s (sparN p l.length : Nat) B).1 = 0 := by simpa using e
      rw [if_pos e] at hq
      generalize (lnput s (sparN p l.length : Nat) B).2 = s1 at hq w1 db1
      refine ⟨b, 0, rfl, _, wb1.c0, line_Took.c w1 (fun t => ⟨_, rfl, xsIf_t rfl ?_⟩) fun t => ⟨_, rfl, xsIf_f rfl ?_⟩⟩
      · rw [if_pos (took_yes t)] at hq
        rw [show IntKind.u64.wrap (IntKind.u64.wrap (i : Int) + 1) = ((i + 1 : Nat) : Int) by rw [u64_nat' (by omega), show ((i : Int) + 1) = ((i + 1 : Nat) : Int) by omega, u64_nat' (by omega)]]
        exact spare_Bank_say.c db1 (by omega) (.inr ⟨by omega, by omega⟩) fun h2 db2 st2 => ⟨_, rfl, hq h2 db2 (st1.left.trans st2)⟩
      · rw [if_neg (took_no t)] at hq
        refine spare_Bank_say.c (x := 65535) db1 (by omega) (.inl rfl) fun h2 db2 st2 => ⟨_, rfl, ?_⟩
        refine xsIf_intro (fun e2 => ?_) fun e2 => ?_
        · have e2 := of_decide_eq_true e2
          rw [if_neg e2] at hq db2
          exact hq h2 db2 (st1.left.trans st2)
        · have e2 : (lnputw s1 (p.pa + l.length / 8 : Nat) (l.length % 8 : Nat) (guardN 65535 : Nat)).1 = 0 := by simpa using e2
          rw [if_pos e2] at hq db2
          exact ih h2 _ _ (by simp; omega) db2 fun h3 db3 st3 => hq h3 db3 ((st1.left.trans st2).trans st3)

theorem spare_Bank_retire.c {i : Nat} {B : ByteArray} (hi : i < p.pl) (w : DB F G h d b p s l)
    (hq : ∀ h', DB F G h' d b p (sretire p i B (p.ps - l.length) s l).2.1 (sretire p i B (p.ps - l.length) s l).2.2 → Step (FG F G) h (FG F G) h' → Q (.int .i64 (sretire p i B (p.ps - l.length) s l).1) h') :
    C Tryz.prog 61 #[.pointer (some ⟨b, 0, none⟩), .int .i64 (i : Int), .string B] h Q := by
  obtain ⟨r, ml, cc, wb⟩ := w.bk
  have := wb.len
  apply spare_Bank_retire.ok
  exact spare_Bank_retire.L1.c hi (p.ps - l.length) h s l (by omega) w hq

/-- Write as a whole. -/
noncomputable def sWrite (p : Pl) (l : List Nat) (s : PmS) (i : Int) (b : ByteArray) : Int × PmS × List Nat :=
  if b.size = 64 then (if 0 ≤ i ∧ i < p.pl then swrite p l s i.toNat b else (3, s, l)) else (2, s, l)
noncomputable def sWriteWord (p : Pl) (l : List Nat) (s : PmS) (i k : Int) (v : Nat) : Int × PmS × List Nat :=
  if 0 ≤ k ∧ k < 8 then (if 0 ≤ i ∧ i < p.pl then swritew p l s i.toNat k.toNat v else (3, s, l)) else (2, s, l)

theorem spare_Bank_Write.c {i : Int} {B : ByteArray} (w : DB F G h d b p s l)
    (hq : ∀ h', DB F G h' d b p (sWrite p l s i B).2.1 (sWrite p l s i B).2.2 → Step (FG F G) h (FG F G) h' → Q (.int .i64 (sWrite p l s i B).1) h') :
    C Tryz.prog 15 #[.pointer (some ⟨b, 0, none⟩), .int .i64 i, .string B] h Q := by
  obtain ⟨r, ml, cc, wb⟩ := w.bk
  apply spare_Bank_Write.ok
  unfold sWrite at hq
  refine spare_Bank_Where.c w.bk (fun h0 h1 => ⟨_, _, rfl, xsIf_f rfl ?_⟩) fun h0 => ⟨_, _, rfl, xsIf_f rfl ?_⟩
  · by_cases hb : B.size = 64
    · rw [if_pos hb, if_pos ⟨h0, h1⟩] at hq
      obtain ⟨i, rfl⟩ : ∃ k : Nat, i = k := ⟨i.toNat, by omega⟩
      rw [Int.toNat_natCast] at hq ⊢
      unfold swrite at hq
      refine xsIf_f (decide_eq_false (by omega)) (xsIf_f rfl ⟨b, 0, rfl, _, wb.c0, line_Put.c w.dv w.lf fun h1 w1 st1 => ⟨_, rfl, ?_⟩⟩)
      have db1 := w.dev w1 st1
      have wb1 := wb.keep (st1.same w.ap)
      refine xsIf_intro (fun e => ?_) fun e => ?_
      · have e := of_decide_eq_true e
        rw [if_neg e] at hq
        exact hq _ db1 st1.left
      · have e : (lnput s (whN p l i : Nat) B).1 = 0 := by simpa using e
        rw [if_pos e] at hq
        generalize (lnput s (whN p l i : Nat) B).2 = s1 at hq w1 db1
        refine ⟨b, 0, rfl, _, wb1.c0, line_Took.c w1 (fun t => ⟨_, rfl, xsIf_t rfl ?_⟩) fun t => ⟨_, rfl, xsIf_f rfl ?_⟩⟩
        · rw [if_pos (took_yes t)] at hq
          exact hq _ db1 st1.left
        · rw [if_neg (took_no t)] at hq
          exact spare_Bank_retire.c (by omega) db1 fun h2 db2 st2 => ⟨_, rfl, hq h2 db2 (st1.left.trans st2)⟩
    · rw [if_neg hb] at hq
      exact xsIf_t (decide_eq_true (by omega)) (hq h w (Step.refl _ _))
  · by_cases hb : B.size = 64
    · rw [if_pos hb, if_neg h0] at hq
      exact xsIf_f (decide_eq_false (by omega)) (xsIf_t rfl (hq h w (Step.refl _ _)))
    · rw [if_neg hb] at hq
      exact xsIf_t (decide_eq_true (by omega)) (hq h w (Step.refl _ _))

theorem lnget_size {a : Nat} (h0 : (lnget s (a : Int)).2 = 0) : (lnget s (a : Int)).1.size = 64 := by
  unfold lnget at h0 ⊢
  split
  · rename_i h; rw [if_pos h] at h0; cases h0
  · rename_i h
    rw [if_neg h] at h0
    split
    · exact lnbytes_size _
    · rename_i h2; rw [if_neg h2] at h0; cases h0

end
end Go.Gb
namespace Go.Gb
open Go.Proofs IntWalk

/-! ## gabionlaw05: a new bank; wakes -/

theorem getL_zero : ∀ n, getL (List.replicate n (0 : UInt8)) = 0
  | 0 => rfl
  | n + 1 => by rw [List.replicate_succ]; show (0 : UInt8).toNat + 256 * getL (List.replicate n 0) = 0; rw [getL_zero n]; rfl
theorem zero64_list : zero64.data.toList = List.replicate 64 (0 : UInt8) := by
  unfold zero64
  have : ∀ n, List.replicate n (0 : UInt8) = Lib.repeatL [UInt8.ofNat 0] n := by
    intro n
    induction n with
    | zero => rfl
    | succ n ih => rw [List.replicate_succ, ih]; rfl
  rw [this 64]
theorem zero64_word (k : Nat) : wordAt zero64 k = 0 := by
  unfold wordAt chunk
  rw [zero64_list, List.drop_replicate, List.take_replicate]
  exact getL_zero _

theorem sfmt_clean {p : Pl} : ∀ (j k : Nat) (s : PmS), Cl s → (∀ w, w < 8 * s.nl → s.media w = 0) → p.pa + k + j ≤ s.nl → s.count + 10 * j < 900000000 → PmOk s →
    ∃ s', sfmt p zero64 j k s = (0, s') ∧ Cl s' ∧ (∀ w, w < 8 * s.nl → s'.media w = 0) ∧ s'.nl = s.nl ∧ s'.bad = s.bad ∧ s'.count = s.count + 10 * j ∧ PmOk s'
  | 0, k, s, c, m, _, _, o => ⟨s, rfl, c, m, rfl, rfl, by omega, o⟩
  | j + 1, k, s, c, m, hf, hc, o => by
    have c0 := c.c0
    obtain ⟨s1, e1, c1, n1, b1, k1, m1⟩ := lnput_clean (b := zero64) c (show p.pa + k < s.nl by omega) zero64_size
    have o1 : PmOk s1 := by have := o.put (p.pa + k : Nat) zero64; rw [e1] at this; exact this
    have hm1 : ∀ w, w < 8 * s.nl → s1.media w = 0 := fun w hw => by
      rw [m1 w hw]
      split
      · rw [zero64_word]; rfl
      · exact m w hw
    obtain ⟨s2, e2, c2, m2, n2, b2, k2, o2⟩ := sfmt_clean (p := p) j (k + 1) s1 (c1.of (by omega) (by omega)) (by rw [n1]; exact hm1) (by rw [n1]; omega) (by omega) o1
    refine ⟨s2, ?_, c2, by rw [← n1]; exact m2, n2.trans n1, b2.trans b1, by omega, o2⟩
    unfold sfmt
    rw [e1, if_pos rfl]; exact e2

theorem Cl.on {s : PmS} (c : Cl s) : On s := ⟨c.off, by rw [c.fuse]; exact Int.le_refl _, c.buf⟩

/-- A new bank on a new device. -/
theorem sformat_new {p : Pl} {n : Nat} (ok : PlOk p n) : ∃ s, sformat p (pnew n) = (0, s) ∧ Cl s ∧ SpI p s [] ∧ s.nl = n ∧ s.bad = (fun _ => false) ∧ (∀ w, w < 8 * n → s.media w = 0) ∧ s.count ≤ 20000 := by
  have fit := ok.fit
  have l2 := ok.l2
  have ht := tblN_le ok.b
  unfold sizeN at fit
  obtain ⟨s, e, c, m, n1, b, k, o⟩ := sfmt_clean (p := p) (tblN p + p.pl) 0 (pnew n) (Cl.new n) (fun _ _ => rfl) (by show p.pa + 0 + (tblN p + p.pl) ≤ n; omega) (by show (0 : Int) + _ < _; omega) (PmOk.new n)
  have n1 : s.nl = n := n1
  have m : ∀ w, w < 8 * n → s.media w = 0 := m
  have k : s.count = 0 + 10 * ((tblN p + p.pl : Nat) : Int) := k
  refine ⟨s, e, c, ⟨ok.of n1, c.on, ?_, fun _ _ _ => by rw [b]; rfl, o⟩, n1, b, m, by omega⟩
  unfold sents
  refine entsTo_zeros (c := 0) rfl p.ps (Nat.zero_le _) fun j _ hj => ?_
  unfold twd
  have f := (tbl_fit ok hj).1
  rw [c.on.val (by rw [n1]; exact f), m _ f]; rfl

theorem gabionlaw05_full.c {s : ByteArray} {h : Heap} {Q : Value → Heap → Prop} (hs : s.size ≤ 140737488351232) (hq : Q (.string (fullB s)) h) : C Tryz.prog 16 #[.string s] h Q := by
  apply gabionlaw05_full.ok
  refine strings_Repeat.c (c := 64) (by omega) (by show 1 ≤ 1000000; omega) ⟨_, rfl, ?_, ?_, hq⟩
  · show ((s.size + zero64.size : Nat) : Int) ≤ _
    rw [zero64_size]; omega
  · show (0 : Int) ≤ 64 ∧ (64 : Int) ≤ ((s ++ zero64).size : Int)
    rw [ByteArray.size_append, zero64_size]; omega

abbrev pw : Pl := ⟨0, 4, 2⟩
theorem pw_ok : PlOk pw 7 := ⟨by decide, by decide, by decide, by decide, by decide⟩

theorem wakes_write {s : PmS} {B : ByteArray} (c : Cl s) (o : PmOk s) (nl : s.nl = 7) (b1 : s.bad 1 = true) (b0 : s.bad 0 = false) (b5 : s.bad 5 = false) (m : ∀ w, w < 56 → s.media w = 0) (hc : s.count ≤ 30000) (hB : B.size = 64) (hw : wordAt B 0 ≠ 0) :
    ∃ s', sWrite pw [] s 0 B = (0, s', [1]) ∧ On s' ∧ PmOk s' ∧ s'.nl = 7 ∧ lnget s' ((5 : Nat) : Int) = (B, 0) := by
  have c0 := c.c0
  obtain ⟨s1, e1, cl1, n1, bb1, k1, m1⟩ := lnput_clean (b := B) c (show 1 < s.nl by omega) hB
  have cl1 := cl1.of (by omega) (by omega)
  have o1 : PmOk s1 := by have := o.put (1 : Nat) B; rw [e1] at this; exact this
  obtain ⟨s2, e2, cl2, n2, bb2, k2, m2⟩ := lnput_clean (b := B) cl1 (show 5 < s1.nl by omega) hB
  have cl2 := cl2.of (by omega) (by omega)
  have o2 : PmOk s2 := by have := o1.put (5 : Nat) B; rw [e2] at this; exact this
  have g1 := guardN_lt 1
  obtain ⟨s3, e3, cl3, n3, bb3, k3, m3⟩ := lnputw_clean (v := ((guardN 1 : Nat) : Int)) cl2 (show 0 < s2.nl by omega) (show 0 < 8 by omega)
  have cl3 := cl3.of (by omega) (by omega)
  have o3 : PmOk s3 := by have := o2.putw (0 : Nat) (0 : Nat) (v := ((guardN 1 : Nat) : Int)) ⟨by omega, by omega⟩; rw [e3] at this; exact this
  have t1 : ¬ took s1 1 B = true := took_no fun t => by
    have h1 := t.2.2 0 (by omega)
    rw [show 8 * ((1 : Nat) : Int).toNat + 0 = 8 from rfl, m1 8 (by omega), if_neg (fun h => by rw [b1] at h; cases h.2), m 8 (by omega)] at h1
    omega
  have hm2 : ∀ k, k < 8 → s2.media (8 * 5 + k) = ((wordAt B k : Nat) : Int) := fun k hk => by
    rw [m2 _ (by omega), if_pos ⟨by omega, by rw [bb1]; exact b5⟩, show (8 * 5 + k) % 8 = k by omega]
  have t2 : took s2 5 B = true := took_yes ⟨hB, by unfold lthere; exact if_pos (by omega), fun k hk => hm2 k hk⟩
  refine ⟨s3, ?_, cl3.on, o3, by omega, lnget_clean cl3 o3 (by omega) hB fun k hk => by rw [m3 _ (by omega), if_neg (fun h => by omega)]; exact hm2 k hk⟩
  unfold sWrite
  rw [if_pos hB, if_pos ⟨by omega, by show (0 : Int) < 4; omega⟩]
  show swrite pw [] s 0 B = _
  unfold swrite
  have ew : whN pw [] 0 = 1 := rfl
  rw [ew, e1, if_pos rfl, if_neg t1]
  show sretire pw 0 B 2 s1 [] = _
  unfold sretire
  have es : sparN pw ([] : List Nat).length = 5 := rfl
  rw [es, e2, if_pos rfl, if_pos t2]
  show ((lnputw s2 ((0 : Nat) : Int) ((0 : Nat) : Int) (guardN (0 + 1) : Nat)).1, (lnputw s2 ((0 : Nat) : Int) ((0 : Nat) : Int) (guardN (0 + 1) : Nat)).2, if (lnputw s2 ((0 : Nat) : Int) ((0 : Nat) : Int) (guardN (0 + 1) : Nat)).1 = 0 then [] ++ [0 + 1] else []) = _
  rw [e3]; rfl

theorem gabionlaw05_wakes.c {h : Heap} {Q : Value → Heap → Prop} (hq : ∀ h', Part h h' → Q (.bool true) h') : C Tryz.prog 13 #[] h Q := by
  apply gabionlaw05_wakes.ok
  obtain ⟨s1, e1, c1, i1, n1, b1, m1, k1⟩ := sformat_new pw_ok
  refine pm_New.c (n := 7) (by omega) (by omega) fun d F h1 w1 fr lv1 p1 => ⟨_, _, rfl, ?_⟩
  refine spare_Format.c (p := pw) w1 lv1 pw_ok fun h2 w2 st2 => ⟨_, rfl, ?_⟩
  rw [e1] at w2 ⊢
  have lv2 := st2.dom lv1
  have P2 : Part h h2 := st2.part p1 fun k hk hf => hk (fr k hf)
  refine spare_Open.c (p := pw) w2 lv2 i1 fun b G h3 wb w3 frG lf lg p3 => ⟨_, _, rfl, xsIf_f rfl (xsIf_f rfl (xsIf_f rfl (spare_Plan_Size.c ⟨_, rfl, xsIf_f (by decide) ?_⟩)))⟩
  have P3 := P2.trans p3
  have ap : Apart F G := fun k hg hf => lv2 k hf (frG k hg)
  have db3 : DB F G h3 d b pw s1 [] := ⟨w3, wb, lf, lg, ap⟩
  apply gabionlaw05_wakes.J7.ok
  refine pm_Device_Break.c w3 fun h4 w4 st4 => ?_
  rw [if_pos (show (0 : Int) ≤ 1 ∧ (1 : Int) < (s1.nl : Int) by omega)] at w4
  have db4 := db3.dev w4 st4
  obtain ⟨s2, hs2⟩ : ∃ s2 : PmS, s2 = { s1 with bad := fset s1.bad (Int.toNat 1) true } := ⟨_, rfl⟩
  rw [← hs2] at db4
  have fs := fullB_size ⟨#[UInt8.ofNat 97, UInt8.ofNat 98, UInt8.ofNat 99]⟩
  have w0 := abc_word
  refine gabionlaw05_full.c (by show 3 ≤ _; omega) ⟨_, rfl, ?_⟩
  obtain ⟨s3, e3, on3, o3, n3, g3⟩ := wakes_write (s := s2) (B := fullB ⟨#[UInt8.ofNat 97, UInt8.ofNat 98, UInt8.ofNat 99]⟩) (by rw [hs2]; exact ⟨c1.off, c1.fuse, c1.buf, c1.c0, c1.c1⟩) (by rw [hs2]; exact i1.w.of rfl rfl) (by rw [hs2]; exact n1) (by rw [hs2]; rfl) (by rw [hs2]; show fset s1.bad 1 true 0 = false; rw [b1]; rfl)
    (by rw [hs2]; show fset s1.bad 1 true 5 = false; rw [b1]; rfl) (by rw [hs2]; exact m1) (by rw [hs2]; show s1.count ≤ _; omega) fs w0
  refine spare_Bank_Write.c db4 fun h5 db5 st5 => ⟨_, rfl, ?_⟩
  rw [e3] at db5 ⊢
  have g3' : lnget s3 ((whN pw [1] (0 : Int).toNat : Nat) : Int) = (fullB ⟨#[UInt8.ofNat 97, UInt8.ofNat 98, UInt8.ofNat 99]⟩, 0) := g3
  refine spare_Bank_Where.c db5.bk (fun _ _ => ⟨_, _, rfl, ?_⟩) fun h => absurd ⟨by omega, by show (0 : Int) < 4; omega⟩ h
  refine spare_Bank_Read.c db5 o3 (fun _ _ => ⟨_, _, rfl, ?_⟩) fun h => absurd ⟨by omega, by show (0 : Int) < 4; omega⟩ h
  rw [g3']
  refine xsIf_t rfl (xsIf_t rfl (xsIf_t rfl (xsIf_t rfl (gabionlaw05_full.c (by show 3 ≤ _; omega) ⟨_, rfl, xsIf_t (decide_eq_true rfl) (spare_Bank_Left.c db5.bk ⟨_, rfl, xsIf_t rfl (spare_Bank_Lines.c db5.bk ⟨_, rfl, ?_⟩)⟩)⟩))))
  have P4 : Part h h4 := st4.part P3 fun k hk hf => hk (fr k hf)
  refine hq h5 (st5.part P4 fun k hk hf => ?_)
  rcases hf with hf | hg
  · exact hk (fr k hf)
  · have h2n := frG k hg
    cases e : h k with
    | none => exact hk e
    | some o => rw [P2 k o e] at h2n; cases h2n
end Go.Gb
namespace Go.Gb
open Go.Proofs IntWalk

/-! ## gabionref05 over the same pure state -/

section
variable {h : Heap} {Q : Value → Heap → Prop} {a l s n : Int} {p : Pl}

theorem gabionref05_table.c (hb : PlB p) (hq : Q (.int .i64 (tblN p : Nat)) h) : C Tryz.prog 69 #[plV p] h Q := by
  apply gabionref05_table.ok
  unfold gabionref05_table.wp
  have := hb.s2
  rw [i64_in _ (by omega), iquo_i64 (by omega) (by omega) (by omega), show ((p.ps : Int) + 7) / 8 = ((tblN p : Nat) : Int) by unfold tblN; omega]
  exact hq
theorem gabionref05_Size.c (hb : PlB p) (hq : Q (.int .i64 (sizeN p : Nat)) h) : C Tryz.prog 23 #[plV p] h Q := by
  apply gabionref05_Size.ok
  have := tblN_le hb
  have := hb.l2
  have := hb.s2
  refine gabionref05_table.c hb ⟨_, rfl, ?_⟩
  rw [i64_in ((tblN p : Nat) + (p.pl : Int)) (by omega), i64_in _ (by omega), show ((tblN p : Nat) : Int) + (p.pl : Int) + (p.ps : Int) = ((sizeN p : Nat) : Int) by unfold sizeN; omega]
  exact hq
theorem gabionref05_Check.c (hq : Q (.int .i64 (checkI a l s n)) h) : C Tryz.prog 22 #[.agg #[.int .i64 a, .int .i64 l, .int .i64 s], .int .i64 n] h Q := by
  apply gabionref05_Check.ok
  unfold checkI at hq
  by_cases hr : rightI a l s
  · rw [if_pos hr] at hq
    obtain ⟨p, hb, rfl, rfl, rfl⟩ := rightI_pl hr
    rw [plI_nat] at hq
    have := hb.l1
    have := hb.l2
    have := hb.s2
    have := hb.a2
    have := tblN_le hb
    have hs : sizeN p ≤ 2000 := by unfold sizeN; omega
    refine xsIf_f (decide_eq_false (by omega)) (xsIf_f (decide_eq_false (by omega)) (xsIf_f (decide_eq_false (by omega)) (xsIf_f (decide_eq_false (by omega)) (xsIf_f (decide_eq_false (by omega)) (xsIf_f (decide_eq_false (by omega)) (gabionref05_Size.c hb ⟨_, rfl, ?_⟩))))))
    rw [i64_in _ (by omega)]
    refine xsIf_intro (fun h1 => ?_) fun h1 => ?_
    · rw [if_pos (of_decide_eq_true h1)] at hq; exact hq
    · rw [if_neg (of_decide_eq_false h1)] at hq; exact hq
  · rw [if_neg hr] at hq
    unfold rightI at hr
    refine xsIf_intro (fun _ => hq) fun h1 => xsIf_intro (fun _ => hq) fun h2 => xsIf_intro (fun _ => hq) fun h3 => xsIf_intro (fun _ => hq) fun h4 => xsIf_intro (fun _ => hq) fun h5 => xsIf_intro (fun _ => hq) fun h6 => ?_
    simp only [decide_eq_false_iff_not] at *
    omega
end

section
variable {F : Nat → Prop} {h : Heap} {m : Nat} {s : PmS} {p : Pl} {l : List Nat} {Q : Value → Heap → Prop}

abbrev natsI (l : List Nat) : List Int := l.map fun (k : Nat) => (k : Int)

end
end Go.Gb
namespace Go.Gb
open Go.Proofs IntWalk

section
variable {F : Nat → Prop} {m : Nat} {p : Pl} {Q : Value → Heap → Prop}

/-- What lasts is these bytes. -/
theorem media_took {s : PmS} {a : Nat} {B : ByteArray} (ok : PmOk s) (ha : a < s.nl) (hb : B.size = 64) : (lnbytes (fun k => (s.media (8 * a + k)).toNat) = B) ↔ took s a B = true := by
  have hv : ∀ k, (s.media (8 * a + k)).toNat < 18446744073709551616 ∧ s.media (8 * a + k) = (((s.media (8 * a + k)).toNat : Nat) : Int) := fun k => by
    have := ok.media (8 * a + k); unfold R64 at this; omega
  have wx : ∀ k, k < 8 → wordAt (lnbytes fun k => (s.media (8 * a + k)).toNat) k = (s.media (8 * a + k)).toNat := fun k hk => wordAt_text hk (hv k).1
  have lt : lthere s (a : Int) = 0 := by unfold lthere; exact if_pos (by omega)
  constructor
  · intro e
    refine took_yes ⟨hb, lt, fun k hk => ?_⟩
    rw [Int.toNat_natCast, ← e, wx k hk]; exact (hv k).2
  · intro t
    have t : lntook s (a : Int) B := Classical.byContradiction fun n => took_no n t
    refine bytes_word_eq (lnbytes_size _) hb fun k hk => ?_
    rw [wx k hk]
    have h1 := t.2.2 k hk
    rw [Int.toNat_natCast] at h1
    have h2 := (hv k).2
    omega

variable {h : Heap} {s : PmS} {l : List Nat}

theorem ents_small (sp : SpI p s l) : ∀ x ∈ l, x < 1000000 := fun x hx => by
  obtain ⟨k, hk, rfl⟩ := List.getElem_of_mem hx
  have := (entsTo_some _ _ sp.en).2.2.2 k hk
  have hl := sp.ok.l2
  obtain ⟨h1, h2, _⟩ := this
  rw [List.getD_eq_getElem?_getD, List.getElem?_eq_getElem hk] at h1
  have h1 : l[k] = twd s p k % 281474976710656 := h1
  have := (of_decide_eq_true h2).2
  omega

theorem zero64_eq : (⟨(List.replicate 64 (0 : UInt8)).toArray⟩ : ByteArray) = zero64 := by
  unfold zero64
  have : ∀ n, List.replicate n (0 : UInt8) = Lib.repeatL [UInt8.ofNat 0] n := by
    intro n
    induction n with
    | zero => rfl
    | succ n ih => rw [List.replicate_succ, ih]; rfl
  rw [this]

theorem gabionref05_Format.c (w : RfD F h m s) (lv : Live F h) (ok : PlOk p s.nl) (hq : ∀ h', RfD F h' m (sformat p s).2 → Step F h F h' → Q (.int .i64 (sformat p s).1) h') :
    C Tryz.prog 57 #[.pointer (some ⟨m, 0, none⟩), plV p] h Q := by
  have w0 := w
  obtain ⟨wb, rb, bb, q, w⟩ := w
  apply gabionref05_Format.ok
  have hb := ok.b
  have ht := tblN_le hb
  have hl2 := hb.l2
  have ha := hb.a2
  refine ⟨m, 0, rfl, _, _, _, w.c1, gabionref05_Check.c ⟨_, rfl, ?_⟩⟩
  rw [ok.check]
  refine xsMk_i (by omega) (by omega) (by rw [show cellBytes Tryz.prog 5 = 1 by kernel_rfl]; omega) fun b hbn => ?_
  have zz : zeros Tryz.prog 5 (64 : Int).toNat = byteVals (List.replicate 64 (0 : UInt8)) := by
    rw [zeros_row (z := .int .u8 0) (by kernel_rfl)]
    rfl
  rw [zz]
  refine ⟨List.replicate 64 0, rfl, readsAt_new 5 _, ?_⟩
  rw [zero64_eq]
  refine gabionref05_table.c hb ⟨_, rfl, ?_⟩
  have st0 : Step F h F (upd h b (Obj.cells (byteVals (List.replicate 64 (0 : UInt8))).toArray 5 (0, 0))) := Step.lost hbn _
  have nF : ¬ F b := fun hf => lv b hf hbn
  have w1 : RfD F (upd h b (Obj.cells (byteVals (List.replicate 64 (0 : UInt8))).toArray 5 (0, 0))) m s := w0.keep fun k hk _ => upd_ne fun e => nF (e ▸ hk)
  generalize upd h b (Obj.cells (byteVals (List.replicate 64 (0 : UInt8))).toArray 5 (0, 0)) = h1 at st0 w1
  have loop : ∀ (j k : Nat) (h' : Heap) (s' : PmS), k + j = tblN p + p.pl → RfD F h' m s' → Live F h' → (∀ h'', RfD F h'' m (sfmt p zero64 j k s').2 → Step F h' F h'' → Q (.int .i64 (sfmt p zero64 j k s').1) h'') →
      gabionref05_Format.L5 (some ⟨m, 0, none⟩) 0 zero64 (tblN p : Nat) (k : Int) p.pa p.pl p.ps h' Q := by
    intro j
    induction j with
    | zero =>
      intro k h' s' hk w lv hq
      apply gabionref05_Format.L5.ok
      unfold gabionref05_Format.L5.wp
      rw [i64_in (((tblN p : Nat) : Int) + (p.pl : Int)) (by omega)]
      exact xsIf_f (decide_eq_false (by omega)) (hq h' w (Step.refl _ _))
    | succ j ih =>
      intro k h' s' hk w lv hq
      apply gabionref05_Format.L5.ok
      unfold gabionref05_Format.L5.wp
      rw [i64_in (((tblN p : Nat) : Int) + (p.pl : Int)) (by omega), show IntKind.i64.wrap ((k : Int) + 1) = ((k + 1 : Nat) : Int) by rw [i64_in _ (by omega)]; omega, show IntKind.i64.wrap ((p.pa : Int) + (k : Int)) = ((p.pa + k : Nat) : Int) by rw [i64_in _ (by omega)]; omega]
      refine xsIf_t (decide_eq_true (by omega)) (xsIf_t rfl (gabionref04_Put.c w lv fun h1 w1 st1 => ⟨_, rfl, ?_⟩))
      unfold sfmt at hq
      by_cases e : (lnput s' (p.pa + k : Nat) zero64).1 = 0
      · rw [if_pos e] at hq
        rw [e]
        exact ih (k + 1) h1 _ (by omega) w1 (st1.dom lv) fun h'' w'' st => hq h'' w'' (st1.trans st)
      · rw [if_neg e] at hq
        apply gabionref05_Format.L5.ok
        unfold gabionref05_Format.L5.wp
        exact xsIf_intro (fun _ => xsIf_f (decide_eq_false e) (hq h1 w1 st1)) fun _ => hq h1 w1 st1
  exact loop (tblN p + p.pl) 0 h1 s (by omega) w1 (st0.dom lv) fun h'' w'' st => hq h'' w'' (st0.trans st)
end
end Go.Gb
namespace Go.Gb
open Go.Proofs IntWalk

/-! ## SparePlays: both devices and the bank -/

/-- Between two acts: on, and the bank agrees; or the power failed. -/
def StB (p : Pl) (s : PmS) (l : List Nat) : Prop := SpI p s l ∨ (s.off = true ∧ PmOk s ∧ ∀ ks, ∃ l', SpI p (pboot s ks) l')

theorem StB.ok {p : Pl} {s : PmS} {l : List Nat} (t : StB p s l) : PmOk s := by
  rcases t with t | t
  · exact t.w
  · exact t.2.1
theorem Res.st {p : Pl} {n : Nat} {r : Int × PmS × List Nat} (t : Res p n r) : StB p r.2.1 r.2.2 := by
  rcases t.2 with h | h
  · exact .inl h.2
  · exact .inr h.2

theorem sWrite_st {p : Pl} {s : PmS} {l : List Nat} (w : SpI p s l) (i : Int) (B : ByteArray) : StB p (sWrite p l s i B).2.1 (sWrite p l s i B).2.2 ∧ (sWrite p l s i B).2.1.nl = s.nl := by
  unfold sWrite
  split
  · rename_i hb
    split
    · rename_i hi
      have := swrite_res w (i := i.toNat) (by omega) hb
      exact ⟨this.st, this.1⟩
    · exact ⟨.inl w, rfl⟩
  · exact ⟨.inl w, rfl⟩
theorem sWriteWord_st {p : Pl} {s : PmS} {l : List Nat} (w : SpI p s l) (i k : Int) {v : Nat} (hv : v < 18446744073709551616) : StB p (sWriteWord p l s i k v).2.1 (sWriteWord p l s i k v).2.2 ∧ (sWriteWord p l s i k v).2.1.nl = s.nl := by
  unfold sWriteWord
  split
  · split
    · have := swritew_res w (i := i.toNat) (k := k.toNat) (by omega) (by omega) hv
      exact ⟨this.st, this.1⟩
    · exact ⟨.inl w, rfl⟩
  · exact ⟨.inl w, rfl⟩

structure Tr (h0 h : Heap) (F G M : Nat → Prop) (d b m : Nat) (p : Pl) (s : PmS) (l : List Nat) : Prop where
  db : DB F G h d b p s l
  rf : RfD M h m s
  lm : Live M h
  ap : Apart (FG F G) M
  pt : Part h0 h
  ff : ∀ k, h0 k ≠ none → ¬ FG F G k
  fm : ∀ k, h0 k ≠ none → ¬ M k

section
variable {h0 h h1 h2 : Heap} {F G M : Nat → Prop} {d b m : Nat} {p : Pl} {s s' : PmS} {l l' : List Nat} {Q : Value → Heap → Prop}

theorem Tr.next (i : Tr h0 h F G M d b m p s l) (w1 : DB F G h1 d b p s' l') (st1 : Step (FG F G) h (FG F G) h1) (w2 : RfD M h2 m s') (st2 : Step M h1 M h2) : Tr h0 h2 F G M d b m p s' l' := by
  have e : ∀ k, FG F G k → h1 k ≠ none → h2 k = h1 k := st2.same i.ap.symm
  exact ⟨⟨w1.dv.keep fun k hk => e k (.inl hk), w1.bk.keep fun k hk => e k (.inr hk), st2.alive w1.lf, st2.alive w1.lg, w1.ap⟩, w2, st2.dom (st1.alive i.lm), i.ap, st2.part (st1.part i.pt i.ff) i.fm, i.ff, i.fm⟩
theorem Tr.part (i : Tr h0 h F G M d b m p s l) (pt : Part h h1) : Tr h0 h1 F G M d b m p s l :=
  ⟨i.db.part pt, i.rf.keep fun _ _ hk => part_live pt hk, (Step.of_part pt).dom i.lm, i.ap, i.pt.trans pt, i.ff, i.fm⟩

/-- The bank is opened anew. -/
theorem Tr.open {G' : Nat → Prop} {b' : Nat} (i : Tr h0 h F G M d b m p s l) (wb : BankD G' h1 b' d p l') (wd : PmD F h1 d s) (fr : ∀ k, G' k → h k = none) (lf : Live F h1) (lg : Live G' h1) (pt : Part h h1) : Tr h0 h1 F G' M d b' m p s l' := by
  refine ⟨⟨wd, wb, lf, lg, fun k hg hf => i.db.lf k hf (fr k hg)⟩, i.rf.keep fun _ _ hk => part_live pt hk, (Step.of_part pt).dom i.lm, fun k hm hfg => ?_, i.pt.trans pt, fun k hk hfg => ?_, i.fm⟩
  · rcases hfg with hf | hg
    · exact i.ap k hm (.inl hf)
    · exact i.lm k hm (fr k hg)
  · rcases hfg with hf | hg
    · exact i.ff k hk (.inl hf)
    · have := fr k hg
      rw [part_live i.pt hk] at this
      exact hk this

theorem gabionlaw05_pair.c {h : Heap} (hb : PlB p) (h92 : sizeN p + p.pa + 1 ≤ 8192) (hq : ∀ F G M d b m h' s, Tr h h' F G M d b m p s [] → SpI p s [] → Cl s → s.nl = sizeN p + p.pa + 1 → s.bad = (fun _ => false) → s.count ≤ 20000 → (∀ w, w < 8 * s.nl → s.media w = 0) →
    Q (.tuple #[.pointer (some ⟨d, 0, none⟩), .pointer (some ⟨b, 0, none⟩), .pointer (some ⟨m, 0, none⟩), .bool true]) h') : C Tryz.prog 12 #[plV p] h Q := by
  have ha := hb.a2
  have hl := hb.l2
  have hs := hb.s2
  have ht := tblN_le hb
  have hz : sizeN p ≤ 1098 := by unfold sizeN; omega
  have h1 : sizeN p + p.pa + 1 ≤ 9291 := by omega
  apply gabionlaw05_pair.ok
  have ok : PlOk p (sizeN p + p.pa + 1) := ⟨hb.l1, hb.l2, hb.s2, hb.a2, by omega⟩
  obtain ⟨s1, e1, c1, i1, n1, b1, m1, k1⟩ := sformat_new ok
  refine gabionref05_Size.c hb ⟨_, rfl, ?_⟩
  have en : IntKind.i64.wrap (IntKind.i64.wrap (((sizeN p : Nat) : Int) + (p.pa : Int)) + 1) = ((sizeN p + p.pa + 1 : Nat) : Int) := by
    rw [i64_in (((sizeN p : Nat) : Int) + (p.pa : Int)) (by omega), i64_in _ (by omega)]; omega
  rw [en]
  refine pm_New.c (n := sizeN p + p.pa + 1) (by omega) h92 fun d F ha wd fd ld pa => ⟨_, _, rfl, gabionref03_New.c (n := sizeN p + p.pa + 1) (by omega) h92 fun m M hm wm fm lm pm => ⟨_, rfl, ?_⟩⟩
  have apM : Apart F M := fun k hk hf => ld k hf (fm k hk)
  have wd2 : PmD F hm d (pnew (sizeN p + p.pa + 1)) := wd.keep fun _ _ hk => part_live pm hk
  have ld2 : Live F hm := (Step.of_part pm).dom ld
  refine spare_Format.c (p := p) wd2 ld2 ok fun h3 w3 st3 => ⟨_, rfl, gabionref05_Format.c (p := p) (wm.keep (st3.same apM)) (st3.alive lm) ok fun h4 w4 st4 => ⟨_, rfl, ?_⟩⟩
  rw [e1] at w3 w4 ⊢
  have wd4 : PmD F h4 d s1 := w3.keep (st4.same apM.symm)
  have ld4 : Live F h4 := st4.alive (st3.dom ld2)
  have lm4 : Live M h4 := st4.dom (st3.alive lm)
  have fF : ∀ k, h k ≠ none → ¬ F k := fun k hk hf => hk (fd k hf)
  have fM : ∀ k, h k ≠ none → ¬ M k := fun k hk hf => by
    have := fm k hf
    rw [part_live pa hk] at this; exact hk this
  have P4 : Part h h4 := st4.part (st3.part (pa.trans pm) fF) fM
  refine spare_Open.c (p := p) wd4 ld4 i1 fun b G h5 wb w5 fG lf lg p5 => ⟨_, _, rfl, xsIf_t rfl (xsIf_t rfl (xsIf_t rfl ?_))⟩
  refine hq F G M d b m h5 s1 ⟨⟨w5, wb, lf, lg, fun k hg hf => ld4 k hf (fG k hg)⟩, w4.keep fun _ _ hk => part_live p5 hk, (Step.of_part p5).dom lm4, fun k hk hfg => ?_, P4.trans p5, fun k hk hfg => ?_, fM⟩ i1 c1 n1 b1 k1 (by rw [n1]; exact m1)
  · rcases hfg with hf | hg
    · exact apM k hk hf
    · exact lm4 k hk (fG k hg)
  · rcases hfg with hf | hg
    · exact fF k hk hf
    · have := fG k hg
      rw [part_live P4 hk] at this; exact hk this

/-- A small plan. -/
theorem small_pl (x0 x1 x2 : Int) : ∃ p : Pl, PlB p ∧ p.pa ≤ 2 ∧ p.pl ≤ 4 ∧ p.ps ≤ 10 ∧ irem (imax 0 x0) 3 = p.pa ∧ IntKind.i64.wrap (1 + irem (imax 0 x1) 4) = p.pl ∧ irem (imax 0 x2) 11 = p.ps := by
  obtain ⟨a, ha⟩ : ∃ q : Nat, imax 0 x0 = q := ⟨(imax 0 x0).toNat, by rw [imax_eq]; omega⟩
  obtain ⟨l, hl⟩ : ∃ q : Nat, imax 0 x1 = q := ⟨(imax 0 x1).toNat, by rw [imax_eq]; omega⟩
  obtain ⟨s, hs⟩ : ∃ q : Nat, imax 0 x2 = q := ⟨(imax 0 x2).toNat, by rw [imax_eq]; omega⟩
  refine ⟨⟨a % 3, 1 + l % 4, s % 11⟩, ⟨by show 1 ≤ 1 + l % 4; omega, by show 1 + l % 4 ≤ 1026; omega, by show s % 11 ≤ 64; omega, by show a % 3 ≤ 8192; omega⟩, by show a % 3 ≤ 2; omega, by show 1 + l % 4 ≤ 4; omega, by show s % 11 ≤ 10; omega, ?_, ?_, ?_⟩
  · rw [ha]; exact irem_nat a 3
  · rw [hl, show irem ((l : Nat) : Int) 4 = ((l % 4 : Nat) : Int) from irem_nat l 4, i64_in _ (by omega)]
    show (1 : Int) + ((l % 4 : Nat) : Int) = ((1 + l % 4 : Nat) : Int); omega
  · rw [hs]; exact irem_nat s 11
end
end Go.Gb
namespace Go.Gb
open Go.Proofs IntWalk

/-! ## LinePlays -/

theorem sext_le (s : ByteArray) (r : Int) : (sext s 0 r).size ≤ r.toNat := by
  unfold sext; rw [ByteArray.size_extract]; omega

theorem PmOk.brk {s : PmS} (o : PmOk s) (f : Nat → Bool) : PmOk { s with bad := f } := o.of rfl rfl

/-- Both devices, of three lines. -/
structure Tri (h0 h : Heap) (F G : Nat → Prop) (d m : Nat) (s : PmS) : Prop where
  t : Two h0 h F G d m s
  nl : s.nl = 3
  ok : PmOk s

structure Act6 where
  a0 : Int
  a1 : Int
  a2 : Int
  a3 : Int
  s : ByteArray
  ka : Option Addr
  kc : Nat
  ks : List Bool
def Act6.row (x : Act6) : List Value := [.int .i64 x.a0, .int .i64 x.a1, .int .i64 x.a2, .int .u64 x.a3, .string x.s, .slice x.ka x.ks.length x.kc]
theorem Act6.row_length (x : Act6) : x.row.length = 6 := rfl

section
variable {h0 h : Heap} {F G : Nat → Prop} {d m : Nat} {s : PmS} {Q : Value → Heap → Prop} {a : Option Addr} {n cp : Nat} {N t : Int} {b : ByteArray}

end

end Go.Gb
namespace Go.Gb
open Go.Proofs IntWalk

/-! ## A device without a fuse; SpareAgain -/

structure F0 (s : PmS) : Prop where
  off : s.off = false
  fuse : s.fuse = 0

theorem F0.store {s : PmS} (f : F0 s) {k : Nat} {v : Int} (hk : k < 8 * s.nl) : (pstore s (k : Int) v).1 = 0 ∧ F0 (pstore s (k : Int) v).2 := by
  rw [pstore_nf f.off f.fuse hk]; exact ⟨rfl, f.off, ptick_fuse f.fuse⟩
theorem F0.llast {s : PmS} (f : F0 s) {a : Nat} (ha : a < s.nl) : (llast s (a : Int)).1 = 0 ∧ F0 (llast s (a : Int)).2 := by
  unfold Gb.llast
  rw [pflush_nf f.off f.fuse ha, if_pos rfl]
  have f2 : F0 { ptick s with buf := fbuf s.buf a 8 } := ⟨f.off, ptick_fuse f.fuse⟩
  rw [pfence_run f2.off (by rw [f2.fuse]; decide)]
  exact ⟨rfl, f2.off, ptick_fuse f2.fuse⟩
theorem F0.stores {a : Nat} {g : Nat → Nat} : ∀ (j k : Nat) (s : PmS), k + j = 8 → F0 s → a < s.nl → (lstores a g j k s).1 = 0 ∧ F0 (lstores a g j k s).2
  | 0, k, s, _, f, ha => f.llast ha
  | j + 1, k, s, hk, f, ha => by
    have h := f.store (v := ((g k : Nat) : Int)) (show 8 * a + k < 8 * s.nl by omega)
    unfold lstores
    rw [if_pos h.1]
    exact F0.stores j (k + 1) _ (by omega) h.2 (by rw [pstore_nl]; exact ha)
theorem F0.put {s : PmS} (f : F0 s) {a : Nat} {b : ByteArray} (ha : a < s.nl) (hb : b.size = 64) : (lnput s (a : Int) b).1 = 0 ∧ F0 (lnput s (a : Int) b).2 := by
  unfold lnput
  rw [if_pos hb, if_pos (by unfold lthere; exact if_pos (by omega)), Int.toNat_natCast]
  exact F0.stores 8 0 s (by omega) f ha
theorem F0.putw {s : PmS} (f : F0 s) {a k : Nat} {v : Int} (ha : a < s.nl) (hk : k < 8) : (lnputw s (a : Int) (k : Int) v).1 = 0 ∧ F0 (lnputw s (a : Int) (k : Int) v).2 := by
  have h := f.store (v := v) (show 8 * a + k < 8 * s.nl by omega)
  unfold lnputw
  rw [if_pos (by omega), if_pos (by unfold lthere; exact if_pos (by omega)), show (8 * (a : Int) + (k : Int)) = ((8 * a + k : Nat) : Int) by omega, if_pos h.1]
  exact h.2.llast (by rw [pstore_nl]; exact ha)

theorem sretire_f0 {p : Pl} {i : Nat} {b : ByteArray} (hi : i < p.pl) (hb : b.size = 64) : ∀ (m : Nat) (s : PmS) (l : List Nat), l.length + m = p.ps → SpI p s l → F0 s →
    ((sretire p i b m s l).1 = 0 ∨ (sretire p i b m s l).1 = 10) ∧ F0 (sretire p i b m s l).2.1
  | 0, s, l, _, _, f => ⟨.inr rfl, f⟩
  | m + 1, s, l, hm, w, f => by
    obtain ⟨f1, f2⟩ := spar_fit w.ok (show l.length < p.ps by omega)
    have h1 := f.put f1 hb
    have w1 := w.put f2 f1 hb h1.1
    have nl1 := lnput_nl s (sparN p l.length : Nat) b
    unfold sretire
    rw [if_pos h1.1]
    have h2 := h1.2
    generalize (lnput s (sparN p l.length : Nat) b).2 = s1 at w1 nl1 h2
    obtain ⟨g1, g2, g3, g4⟩ := say_at w1.ok (show l.length < p.ps by omega)
    by_cases ht : took s1 (sparN p l.length) b = true
    · rw [if_pos ht]
      have h3 := h2.putw (v := ((guardN (i + 1) : Nat) : Int)) g1 (Nat.mod_lt l.length (show 0 < 8 by omega))
      exact ⟨.inl h3.1, h3.2⟩
    · rw [if_neg ht]
      have h3 := h2.putw (v := ((guardN 65535 : Nat) : Int)) g1 (Nat.mod_lt l.length (show 0 < 8 by omega))
      rw [if_pos h3.1]
      exact sretire_f0 hi hb m _ _ (by simp; omega) (w1.say (.inl rfl) (by omega) h3.1) h3.2

theorem swrite_f0 {p : Pl} {s : PmS} {l : List Nat} (w : SpI p s l) (f : F0 s) {i : Nat} {b : ByteArray} (hi : i < p.pl) (hb : b.size = 64) : ((swrite p l s i b).1 = 0 ∨ (swrite p l s i b).1 = 10) ∧ F0 (swrite p l s i b).2.1 := by
  obtain ⟨f1, f2⟩ := whN_lt w.ok w.len hi
  have hlen := w.len
  have h1 := f.put f1 hb
  have w1 := w.put f2 f1 hb h1.1
  unfold swrite
  rw [if_pos h1.1]
  by_cases ht : took (lnput s (whN p l i : Nat) b).2 (whN p l i) b = true
  · rw [if_pos ht]; exact ⟨.inl rfl, h1.2⟩
  · rw [if_neg ht]; exact sretire_f0 hi hb (p.ps - l.length) _ l (by omega) w1 h1.2

theorem swrite_spi {p : Pl} {s : PmS} {l : List Nat} (w : SpI p s l) (f : F0 s) {i : Nat} {b : ByteArray} (hi : i < p.pl) (hb : b.size = 64) : SpI p (swrite p l s i b).2.1 (swrite p l s i b).2.2 := by
  have r := swrite_res w hi hb
  have z := swrite_f0 w f hi hb
  rcases r.2 with h | h
  · exact h.2
  · have := h.1
    rcases z.1 with z | z
    · rw [z] at this; cases this
    · rw [z] at this; cases this

/-- A device and a bank, beside what there was. -/
structure Dq (h0 h : Heap) (F G : Nat → Prop) (d b : Nat) (p : Pl) (s : PmS) (l : List Nat) : Prop where
  db : DB F G h d b p s l
  pt : Part h0 h
  ff : ∀ k, h0 k ≠ none → ¬ FG F G k

section
variable {h0 h h1 : Heap} {F G : Nat → Prop} {d b : Nat} {p : Pl} {s s' : PmS} {l l' : List Nat} {Q : Value → Heap → Prop} {a : Option Addr} {n cp : Nat} {N t : Int}

theorem Dq.next (i : Dq h0 h F G d b p s l) (w : DB F G h1 d b p s' l') (st : Step (FG F G) h (FG F G) h1) : Dq h0 h1 F G d b p s' l' := ⟨w, st.part i.pt i.ff, i.ff⟩
theorem Dq.part (i : Dq h0 h F G d b p s l) (pt : Part h h1) : Dq h0 h1 F G d b p s l := ⟨i.db.part pt, i.pt.trans pt, i.ff⟩

theorem SpI.brk {k : Nat} (sp : SpI p s l) (hk : p.pa + tblN p ≤ k) : SpI p { s with bad := fset s.bad k true } l :=
  ⟨sp.ok, ⟨sp.on.off, sp.on.f0, sp.on.buf⟩, sp.en, fun t g1 g2 => by show fset s.bad k true t = false; unfold fset; rw [if_neg (by omega)]; exact sp.tb t g1 g2, sp.w.of rfl rfl⟩

theorem gabionlaw05_SpareAgain.J11.c {x0 x1 x2 x3 : Int} {xs : ByteArray} {ka : Option Addr} {kn kc : Nat} {tb : Int} (i : Dq h0 h F G d b p s l) (sp : SpI p s l) (f : F0 s)
    (hq : ∀ h' s' l', Dq h0 h' F G d b p s' l' → SpI p s' l' → F0 s' → s'.nl = s.nl → gabionlaw05_SpareAgain.L7 (some ⟨d, 0, none⟩) (some ⟨b, 0, none⟩) tb a n cp N (IntKind.i64.wrap (t + 1)) p.pa p.pl p.ps h' Q) :
    gabionlaw05_SpareAgain.J11 (some ⟨d, 0, none⟩) (some ⟨b, 0, none⟩) tb a n cp N t p.pa p.pl p.ps x0 x1 x2 x3 xs ka kn kc h Q := by
  apply gabionlaw05_SpareAgain.J11.ok
  have pl1 := sp.ok.l1
  have pl2 := sp.ok.l2
  obtain ⟨j, hj⟩ : ∃ q : Nat, imax 0 x1 = q := ⟨(imax 0 x1).toNat, by rw [imax_eq]; omega⟩
  have ej : irem (imax 0 x1) (p.pl : Int) = ((j % p.pl : Nat) : Int) := by rw [hj]; exact irem_nat j p.pl
  have hjp : j % p.pl < p.pl := Nat.mod_lt _ (by omega)
  unfold gabionlaw05_SpareAgain.J11.wp
  rw [ej]
  generalize j % p.pl = i0 at hjp
  have hS : (sext xs 0 (imin (xs.size : Int) 64)).size ≤ 80 := by
    have := sext_le xs (imin (xs.size : Int) 64)
    rw [imin_eq] at this ⊢
    omega
  refine ⟨by omega, by rw [imin_eq]; omega, gabionlaw05_full.c (by omega) ⟨_, rfl, spare_Bank_Write.c i.db fun h1 w1 st1 => ⟨_, rfl, ?_⟩⟩⟩
  have hB := fullB_size (sext xs 0 (imin (xs.size : Int) 64))
  generalize fullB (sext xs 0 (imin (xs.size : Int) 64)) = B at w1 hB
  have e : sWrite p l s ((i0 : Nat) : Int) B = swrite p l s i0 B := by unfold sWrite; rw [if_pos hB, if_pos (by omega), Int.toNat_natCast]
  rw [e] at w1
  have sp1 := swrite_spi sp f hjp hB
  have f1 := (swrite_f0 sp f hjp hB).2
  have nl1 := (swrite_res sp hjp hB).1
  have i1 := i.next w1 st1
  generalize (swrite p l s i0 B).2.1 = s1 at sp1 f1 nl1 i1
  generalize (swrite p l s i0 B).2.2 = l1 at sp1 i1
  refine spare_Open.c i1.db.dv i1.db.lf sp1 fun c G' h2 wc wd2 fr2 lf2 lg2 p2 => ⟨_, _, rfl, xsIf_f rfl ?_⟩
  have i2 := i1.part p2
  have dc : DB F G' h2 d c p s1 l1 := ⟨wd2, wc, lf2, lg2, fun k hg hf => i1.db.lf k hf (fr2 k hg)⟩
  have ne : ∀ {x : Int}, decide (x ≠ x) = false := decide_eq_false (fun h => h rfl)
  have nes : ∀ {x : ByteArray}, decide (x ≠ x) = false := decide_eq_false (fun h => h rfl)
  refine spare_Bank_Left.c wc ⟨_, rfl, spare_Bank_Left.c i2.db.bk ⟨_, rfl, xsIf_f ne (spare_Bank_Lines.c wc ⟨_, rfl, spare_Bank_Lines.c i2.db.bk ⟨_, rfl, xsIf_f ne ?_⟩⟩)⟩⟩
  apply gabionlaw05_SpareAgain.J15.ok
  have loop : ∀ (jj k : Nat), k + jj = p.pl → gabionlaw05_SpareAgain.L16 (some ⟨d, 0, none⟩) (some ⟨b, 0, none⟩) tb (some ⟨c, 0, none⟩) a n cp N t (p.pl : Int) (k : Int) p.pa p.pl p.ps h2 Q := by
    intro jj
    induction jj with
    | zero =>
      intro k hk
      apply gabionlaw05_SpareAgain.L16.ok
      exact xsIf_f (decide_eq_false (by omega)) (hq h2 s1 l1 i2 sp1 f1 nl1)
    | succ jj ih =>
      intro k hk
      apply gabionlaw05_SpareAgain.L16.ok
      have hkp : k < p.pl := by omega
      have kk : 0 ≤ (k : Int) ∧ (k : Int) < (p.pl : Int) := by omega
      obtain ⟨g1, g2⟩ := whN_lt sp1.ok sp1.len hkp
      refine xsIf_t (decide_eq_true (by omega)) (spare_Bank_Read.c i2.db sp1.w (fun _ _ => ⟨_, _, rfl, spare_Bank_Read.c dc sp1.w (fun _ _ => ⟨_, _, rfl, spare_Bank_Where.c i2.db.bk (fun _ _ => ⟨_, _, rfl, spare_Bank_Where.c wc (fun _ _ => ⟨_, _, rfl, ?_⟩) fun hno => absurd kk hno⟩) fun hno => absurd kk hno⟩) fun hno => absurd kk hno⟩) fun hno => absurd kk hno)
      rw [Int.toNat_natCast, lnget_on sp1.on g1]
      refine xsIf_f nes (xsIf_f ne (xsIf_f rfl (xsIf_f rfl (xsIf_f rfl (xsIf_f rfl ?_)))))
      rw [show IntKind.i64.wrap ((k : Int) + 1) = ((k + 1 : Nat) : Int) by rw [i64_in _ (by omega)]; omega]
      exact ih (k + 1) (by omega)
  exact loop p.pl 0 (by omega)
end

set_option maxRecDepth 100000 in
theorem gabionlaw05_SpareAgain.law (ns : List Int) (hl : ns.length = 3) (hx : ∀ x ∈ ns, IntKind.i64.min ≤ x ∧ x ≤ IntKind.i64.max) (v : Value) (h : Heap) (hv : Okc Tryz.prog h 8 23 [v]) :
    C Tryz.prog 3 #[.agg (ns.map (Value.int .i64)).toArray, v] h fun v h' => v = .bool true ∧ Part h h' := by
  match ns, hl with
  | [y0, y1, y2], _ =>
  obtain ⟨a, n, c, dss, rfl, hnc, hcm, hl, hb, hr⟩ := okc_slice (e := 36) (sz := 6) (by kernel_rfl) (by kernel_rfl) (by omega) hv
  obtain ⟨acts, rfl, hacts⟩ := typed (f := Act6.row) (p := fun _ => True) dss (fun ds hds => by
    obtain ⟨h1, h2⟩ := hb ds hds
    obtain ⟨e1, e2⟩ := okc_each (d := 2) 5 36 [3, 3, 3, 33, 9, 34] ds (by kernel_rfl) h2 (by rw [h1]; rfl)
    match ds, h1 with
    | [p, q, r, s, u, v], _ =>
      obtain ⟨x0, rfl, -⟩ := okc_int (k := .i64) (by kernel_rfl) (e2 0 _ _ rfl rfl)
      obtain ⟨x1, rfl, -⟩ := okc_int (k := .i64) (by kernel_rfl) (e2 1 _ _ rfl rfl)
      obtain ⟨x2, rfl, -⟩ := okc_int (k := .i64) (by kernel_rfl) (e2 2 _ _ rfl rfl)
      obtain ⟨x3, rfl, -⟩ := okc_int (k := .u64) (by kernel_rfl) (e2 3 _ _ rfl rfl)
      obtain ⟨x4, rfl, -⟩ := okc_str (by kernel_rfl) (e2 4 _ _ rfl rfl)
      obtain ⟨ka, kn, kc, ks, rfl, h4, h5, rfl, h6⟩ := okc_bools (d := 0) (e := 4) (by kernel_rfl) (by kernel_rfl) (by kernel_rfl) (e2 5 _ _ rfl rfl)
      exact ⟨⟨x0, x1, x2, x3, x4, ka, kc, ks⟩, rfl, trivial⟩)
  rw [List.length_map] at hl
  rw [← List.flatMap_def] at hr
  apply gabionlaw05_SpareAgain.ok
  apply gabionlaw05_small.ok
  obtain ⟨p, pb, q1, q2, q3, e1, e2, e3⟩ := small_pl y0 y1 y2
  unfold gabionlaw05_small.wp
  rw [e1, e2, e3]
  refine ⟨_, _, _, rfl, ?_⟩
  have hz : sizeN p ≤ 100 := by unfold sizeN tblN; omega
  refine gabionlaw05_pair.c pb (by omega) fun F G M d b m h1 s i sp cl nl bad cnt md => ⟨_, _, _, _, rfl, gabionlaw05_wakes.c fun h2 p2 => ⟨_, rfl, xsIf_f rfl (xsIf_f rfl ?_)⟩⟩
  have i2 := i.part p2
  have d2 : Dq h h2 F G d b p s [] := ⟨i2.db, i2.pt, i2.ff⟩
  apply gabionlaw05_SpareAgain.J5.ok
  unfold gabionlaw05_SpareAgain.J5.wp
  have hmn : imin (n : Int) 20 = ((min n 20 : Nat) : Int) := by rw [imin_eq]; omega
  rw [hmn, slBase0]
  refine ⟨by omega, ?_⟩
  have g1 : (((min n 20 : Nat) : Int) - 0).toNat = min n 20 := by omega
  have g2 : iquo .i64 (IntKind.i64.wrap ((p.ps : Int) + 7)) 8 = ((tblN p : Nat) : Int) := by
    rw [i64_in _ (by omega), iquo_i64 (by omega) (by omega) (by omega)]; unfold tblN; omega
  rw [g1, g2]
  have loop : ∀ (jj j : Nat) (h' : Heap) (s' : PmS) (l' : List Nat), j + jj = min n 20 → Dq h h' F G d b p s' l' → SpI p s' l' → F0 s' → s'.nl = s.nl →
      gabionlaw05_SpareAgain.L7 (some ⟨d, 0, none⟩) (some ⟨b, 0, none⟩) (tblN p : Nat) a (min n 20) ((c : Int) - 0).toNat ((min n 20 : Nat) : Int) j p.pa p.pl p.ps h' fun v h' => v = .bool true ∧ Part h h' := by
    intro jj
    induction jj with
    | zero =>
      intro j h' s' l' hj i sp f e
      apply gabionlaw05_SpareAgain.L7.ok
      exact xsIf_f (decide_eq_false (by omega)) ⟨rfl, i.pt⟩
    | succ jj ih =>
      intro j h' s' l' hj i sp f e
      have hjl : j < acts.length := by omega
      have hg : acts[j]? = some acts[j] := List.getElem?_eq_getElem hjl
      apply gabionlaw05_SpareAgain.L7.ok
      refine xsIf_t (decide_eq_true (by omega)) ⟨by omega, ?_⟩
      refine reads_base (readsAt_part hr i.pt) (by rw [flat_length Act6.row_length]; omega) fun b0 o hcell => ?_
      have key : ∀ q, q < 6 → h'.cell b0 (o + (j * 6 + q)) = (acts[j].row)[q]? := fun q hq => by
        have := hcell (j * 6 + q) (by rw [flat_length Act6.row_length]; omega)
        rw [Nat.mul_one, flat_get Act6.row_length acts j q _ hg hq] at this
        exact this
      rw [Int.toNat_natCast]
      have nx : ∀ h2 s2 l2, Dq h h2 F G d b p s2 l2 → SpI p s2 l2 → F0 s2 → s2.nl = s'.nl → gabionlaw05_SpareAgain.L7 (some ⟨d, 0, none⟩) (some ⟨b, 0, none⟩) (tblN p : Nat) a (min n 20) ((c : Int) - 0).toNat ((min n 20 : Nat) : Int) (IntKind.i64.wrap ((j : Int) + 1)) p.pa p.pl p.ps h2 fun v h' => v = .bool true ∧ Part h h' := fun h2 s2 l2 i2 sp2 f2 e2 => by
        rw [show IntKind.i64.wrap ((j : Int) + 1) = ((j + 1 : Nat) : Int) by rw [i64_in _ (by omega)]; omega]
        exact ih (j + 1) h2 s2 l2 (by omega) i2 sp2 f2 (e2.trans e)
      refine ⟨_, key 0 (by omega), _, key 1 (by omega), _, key 2 (by omega), _, key 3 (by omega), _, key 4 (by omega), _, _, _, key 5 (by omega), xsIf_intro (fun _ => ?_) fun _ => gabionlaw05_SpareAgain.J11.c i sp f nx⟩
      have pl1 := sp.ok.l1
      have fitp := sp.ok.fit
      have ew : IntKind.i64.wrap ((p.pl : Int) + (p.ps : Int)) = ((p.pl + p.ps : Nat) : Int) := by rw [i64_in _ (by omega)]; omega
      obtain ⟨q, hq⟩ : ∃ q : Nat, imax 0 acts[j].a1 = q := ⟨(imax 0 acts[j].a1).toNat, by rw [imax_eq]; omega⟩
      have hmod : q % (p.pl + p.ps) < p.pl + p.ps := Nat.mod_lt _ (by omega)
      have ei : IntKind.i64.wrap (IntKind.i64.wrap ((p.pa : Int) + ((tblN p : Nat) : Int)) + irem (imax 0 acts[j].a1) (IntKind.i64.wrap ((p.pl : Int) + (p.ps : Int)))) = ((p.pa + tblN p + q % (p.pl + p.ps) : Nat) : Int) := by
        rw [ew, hq, irem_nat, i64_in ((p.pa : Int) + ((tblN p : Nat) : Int)) (by unfold tblN; omega), i64_in _ (by unfold tblN; omega)]; omega
      refine ⟨by rw [ew]; omega, ?_⟩
      rw [ei]
      generalize hk0 : p.pa + tblN p + q % (p.pl + p.ps) = kk
      have hkk : kk < s'.nl := by unfold sizeN at fitp; omega
      refine pm_Device_Break.c i.db.dv fun h1 w1 st1 => ?_
      rw [if_pos (show (0 : Int) ≤ ((kk : Nat) : Int) ∧ ((kk : Nat) : Int) < (s'.nl : Int) by omega), Int.toNat_natCast] at w1
      exact gabionlaw05_SpareAgain.J11.c (i.next (i.db.dev w1 st1) st1.left) (sp.brk (by omega)) ⟨f.off, f.fuse⟩ nx
  exact loop (min n 20) 0 h2 s [] (by omega) d2 sp ⟨cl.off, cl.fuse⟩ rfl
end Go.Gb
