/- Own texts for the seat: Ln3 Sp2 Sp3 Sp4 Ln4 Sp5 Rs1 Rs2 Ln5 Sc1 Sq1 Sq3 Ln6 Sg1 Ln7 Ln8 Sc2 Sn1 Sc3 Sn2. -/
import Derived.Test.YtgfaiaibdgljjaaB5
import Derived.Test.YtgfaiaibdgljjaaB4
import Derived.Test.YtgfaiaibdgljjaaB3
import Derived.Test.YtgfaiaibdgljjaaB2
set_option linter.unusedVariables false
set_option linter.unusedSimpArgs false
set_option linter.unnecessarySimpa false
set_option linter.deprecated false
namespace Go.Gb
open Go.Proofs IntWalk

/-! ## gabionlaw04: full; puts on a device that works -/

def zero64 : ByteArray := ⟨(Lib.repeatL [UInt8.ofNat 0] 64).toArray⟩
def fullB (s : ByteArray) : ByteArray := sext (s ++ zero64) 0 64

theorem zero64_size : zero64.size = 64 := by
  show (Lib.repeatL [UInt8.ofNat 0] 64).toArray.size = 64
  rw [List.size_toArray, Lib.repeatL_length]; rfl
theorem fullB_size (s : ByteArray) : (fullB s).size = 64 := by
  unfold fullB sext
  rw [ByteArray.size_extract, ByteArray.size_append, zero64_size]
  show min 64 _ - 0 = 64
  omega

/-- A device that works, with nothing pending. -/
structure Cl (s : PmS) : Prop where
  off : s.off = false
  fuse : s.fuse = 0
  buf : ∀ w, w < 8 * s.nl → s.buf w = none
  c0 : 0 ≤ s.count
  c1 : s.count < 1000000000

theorem pflush_nf {s : PmS} {a : Nat} (h0 : s.off = false) (h1 : s.fuse = 0) (ha : a < s.nl) : pflush s (a : Int) = (0, { ptick s with buf := fbuf s.buf a 8 }) := by
  have := pflush_run (s := s) (k := (a : Int)) h0 (by rw [h1]; decide) (by omega) (by omega)
  rw [Int.toNat_natCast] at this; exact this
theorem pstore_nf {s : PmS} {k : Nat} {v : Int} (h0 : s.off = false) (h1 : s.fuse = 0) (hk : k < 8 * s.nl) : pstore s (k : Int) v = (0, { ptick s with buf := fset s.buf k (some (v, false)) }) := by
  have := pstore_run (s := s) (k := (k : Int)) (v := v) h0 (by rw [h1]; decide) (by omega) (by omega)
  rw [Int.toNat_natCast] at this; exact this
theorem ptick_fuse {s : PmS} (h : s.fuse = 0) : (ptick s).fuse = 0 := by show (if 0 < s.fuse then s.fuse - 1 else s.fuse) = 0; rw [h]; rfl
theorem ptick_count {s : PmS} (h : 0 ≤ s.count) (h1 : s.count < 2000000000) : (ptick s).count = s.count + 1 := by show IntKind.wrap .i64 (s.count + 1) = _; rw [i64_in _ (by omega)]

/-- What is stored lasts. -/
theorem llast_clean {s : PmS} {a : Nat} {p : Nat → Bool} {f : Nat → Int} (h0 : s.off = false) (h1 : s.fuse = 0) (ha : a < s.nl) (c0 : 0 ≤ s.count) (c1 : s.count < 1000001000)
    (hb : ∀ w, w < 8 * s.nl → s.buf w = if w / 8 = a ∧ p (w % 8) = true then some (f (w % 8), false) else none) :
    ∃ s', llast s (a : Int) = (0, s') ∧ s'.nl = s.nl ∧ s'.off = false ∧ s'.fuse = 0 ∧ s'.bad = s.bad ∧ s'.count = s.count + 2 ∧ (∀ w, w < 8 * s.nl → s'.buf w = none) ∧
      ∀ w, w < 8 * s.nl → s'.media w = if w / 8 = a ∧ p (w % 8) = true ∧ s.bad a = false then f (w % 8) else s.media w := by
  unfold llast
  rw [pflush_nf h0 h1 ha, if_pos rfl]
  generalize hs2 : ({ ptick s with buf := fbuf s.buf a 8 } : PmS) = s2
  have o2 : s2.off = false := by rw [← hs2]; exact h0
  have f2 : s2.fuse = 0 := by rw [← hs2]; exact ptick_fuse h1
  have nl2 : s2.nl = s.nl := by rw [← hs2]; rfl
  have b2 : s2.buf = fbuf s.buf a 8 := by rw [← hs2]
  have cc : s2.count = s.count + 1 := by rw [← hs2]; exact ptick_count c0 (by omega)
  have m2 : s2.media = s.media := by rw [← hs2]; rfl
  have bd2 : s2.bad = s.bad := by rw [← hs2]; rfl
  rw [pfence_run o2 (by rw [f2]; decide)]
  have hb2 : ∀ w, w < 8 * s.nl → s2.buf w = if w / 8 = a ∧ p (w % 8) = true then some (f (w % 8), true) else none := by
    intro w hw
    rw [b2]
    unfold fbuf
    rw [hb w hw]
    by_cases e : w / 8 = a ∧ p (w % 8) = true
    · rw [if_pos e, if_pos e, if_pos (by omega)]; rfl
    · rw [if_neg e, if_neg e]; split <;> rfl
  have hf : ∀ w, w < 8 * s.nl → (w ∈ flushed s2 ↔ w / 8 = a ∧ p (w % 8) = true) := by
    intro w hw
    rw [flushed_mem, nl2, hb2 w hw]
    by_cases e : w / 8 = a ∧ p (w % 8) = true
    · rw [if_pos e]; exact ⟨fun _ => e, fun _ => ⟨hw, _, rfl⟩⟩
    · rw [if_neg e]; exact ⟨fun h => (by obtain ⟨_, v, h⟩ := h; cases h), fun h => absurd h e⟩
  refine ⟨_, rfl, nl2, o2, ptick_fuse f2, bd2, ?_, fun w hw => ?_, fun w hw => ?_⟩
  · show (ptick s2).count = _
    rw [ptick_count (by omega) (by omega), cc]; omega
  · show lbuf (ptick s2) (flushed s2) w = none
    unfold lbuf
    by_cases e : w ∈ flushed s2
    · rw [if_pos e]
    · rw [if_neg e]
      show s2.buf w = none
      rw [hb2 w hw, if_neg (fun h => e ((hf w hw).2 h))]
  · show lmedia (ptick s2) (flushed s2) w = _
    unfold lmedia
    show (if w ∈ flushed s2 ∧ s2.bad (w / 8) = false then (match s2.buf w with | some x => x.1 | none => 0) else s2.media w) = _
    rw [m2, bd2]
    by_cases e : w / 8 = a ∧ p (w % 8) = true
    · by_cases eb : s.bad a = false
      · rw [if_pos ⟨(hf w hw).2 e, by rw [e.1]; exact eb⟩, if_pos ⟨e.1, e.2, eb⟩, hb2 w hw, if_pos e]
      · rw [if_neg (fun h => eb (by rw [← e.1]; exact h.2)), if_neg (fun h => eb h.2.2)]
    · rw [if_neg (fun h => e ((hf w hw).1 h.1)), if_neg (fun h => e ⟨h.1, h.2.1⟩)]

theorem lstores_clean {a : Nat} {f : Nat → Nat} : ∀ (j k : Nat) (s : PmS), k + j = 8 → s.off = false → s.fuse = 0 → a < s.nl → 0 ≤ s.count → s.count + j < 1000000500 →
    (∀ w, w < 8 * s.nl → s.buf w = if w / 8 = a ∧ w % 8 < k then some (((f (w % 8) : Nat) : Int), false) else none) →
    ∃ s', lstores a f j k s = (0, s') ∧ s'.nl = s.nl ∧ s'.off = false ∧ s'.fuse = 0 ∧ s'.bad = s.bad ∧ s'.count = s.count + j + 2 ∧ (∀ w, w < 8 * s.nl → s'.buf w = none) ∧
      ∀ w, w < 8 * s.nl → s'.media w = if w / 8 = a ∧ s.bad a = false then ((f (w % 8) : Nat) : Int) else s.media w := by
  intro j
  induction j with
  | zero =>
    intro k s hk h0 h1 ha c0 c1 hb
    obtain ⟨s', g1, g2, g3, g4, g5, g6, g7, g8⟩ := llast_clean (p := fun _ => true) (f := fun i => ((f i : Nat) : Int)) h0 h1 ha c0 (by omega) (fun w hw => by
      rw [hb w hw]
      by_cases e : w / 8 = a
      · rw [if_pos ⟨e, by omega⟩, if_pos ⟨e, rfl⟩]
      · rw [if_neg (fun h => e h.1), if_neg (fun h => e h.1)])
    refine ⟨s', g1, g2, g3, g4, g5, by omega, g7, fun w hw => ?_⟩
    rw [g8 w hw]
    by_cases e : w / 8 = a ∧ s.bad a = false
    · rw [if_pos ⟨e.1, rfl, e.2⟩, if_pos e]
    · rw [if_neg (fun h => e ⟨h.1, h.2.2⟩), if_neg e]
  | succ j ih =>
    intro k s hk h0 h1 ha c0 c1 hb
    unfold lstores
    rw [pstore_nf h0 h1 (by omega), if_pos rfl]
    obtain ⟨s', g1, g2, g3, g4, g5, g6, g7, g8⟩ := ih (k + 1) { ptick s with buf := fset s.buf (8 * a + k) (some (((f k : Nat) : Int), false)) } (by omega) h0 (ptick_fuse h1) ha (by show 0 ≤ (ptick s).count; rw [ptick_count c0 (by omega)]; omega) (by show (ptick s).count + j < _; rw [ptick_count c0 (by omega)]; omega) (fun w hw => by
      have hw : w < 8 * s.nl := hw
      show fset s.buf (8 * a + k) (some (((f k : Nat) : Int), false)) w = _
      unfold fset
      by_cases e : w = 8 * a + k
      · rw [if_pos e, if_pos (by omega), show w % 8 = k by omega]
      · rw [if_neg e, hb w hw]
        by_cases e2 : w / 8 = a ∧ w % 8 < k
        · rw [if_pos e2, if_pos (by omega)]
        · rw [if_neg e2, if_neg (by omega)])
    refine ⟨s', g1, g2, g3, g4, g5, ?_, g7, g8⟩
    rw [g6]
    show (ptick s).count + j + 2 = _
    rw [ptick_count c0 (by omega)]; omega

theorem lnput_clean {s : PmS} {a : Nat} {b : ByteArray} (cl : Cl s) (ha : a < s.nl) (hb : b.size = 64) : ∃ s', lnput s (a : Int) b = (0, s') ∧ Cl { s' with count := 0 } ∧ s'.nl = s.nl ∧ s'.bad = s.bad ∧ s'.count = s.count + 10 ∧
      ∀ w, w < 8 * s.nl → s'.media w = if w / 8 = a ∧ s.bad a = false then ((wordAt b (w % 8) : Nat) : Int) else s.media w := by
  have c0 := cl.c0
  have c1 := cl.c1
  obtain ⟨s', g1, g2, g3, g4, g5, g6, g7, g8⟩ := lstores_clean (a := a) (f := wordAt b) 8 0 s (by omega) cl.off cl.fuse ha cl.c0 (by omega) (fun w hw => by rw [cl.buf w hw, if_neg (by omega)])
  unfold lnput
  rw [if_pos hb, if_pos (by unfold lthere; rw [if_pos (by omega)]), Int.toNat_natCast]
  exact ⟨s', g1, ⟨g3, g4, by show ∀ w, w < 8 * s'.nl → s'.buf w = none; rw [g2]; exact g7, Int.le_refl _, by show (0 : Int) < _; omega⟩, g2, g5, by omega, g8⟩

theorem lnputw_clean {s : PmS} {a k : Nat} {v : Int} (cl : Cl s) (ha : a < s.nl) (hk : k < 8) : ∃ s', lnputw s (a : Int) (k : Int) v = (0, s') ∧ Cl { s' with count := 0 } ∧ s'.nl = s.nl ∧ s'.bad = s.bad ∧ s'.count = s.count + 3 ∧
      ∀ w, w < 8 * s.nl → s'.media w = if w = 8 * a + k ∧ s.bad a = false then v else s.media w := by
  have c0 := cl.c0
  have c1 := cl.c1
  unfold lnputw
  have e : (8 * (a : Int) + (k : Int)) = ((8 * a + k : Nat) : Int) := by omega
  rw [if_pos (by omega), if_pos (by unfold lthere; rw [if_pos (by omega)]), e, pstore_nf cl.off cl.fuse (by omega), if_pos rfl]
  have cc : (ptick s).count = s.count + 1 := ptick_count c0 (by omega)
  obtain ⟨s', g1, g2, g3, g4, g5, g6, g7, g8⟩ := llast_clean (s := { ptick s with buf := fset s.buf (8 * a + k) (some (v, false)) }) (a := a) (p := fun i => decide (i = k)) (f := fun _ => v) cl.off (ptick_fuse cl.fuse) ha (by show 0 ≤ (ptick s).count; omega) (by show (ptick s).count < _; omega) (fun w hw => by
    have hw : w < 8 * s.nl := hw
    show fset s.buf (8 * a + k) (some (v, false)) w = _
    unfold fset
    by_cases e : w = 8 * a + k
    · rw [if_pos e, if_pos ⟨by omega, decide_eq_true (by omega)⟩]
    · rw [if_neg e, cl.buf w hw, if_neg]
      rintro ⟨h1, h2⟩
      have := of_decide_eq_true h2
      omega)
  refine ⟨s', g1, ⟨g3, g4, by show ∀ w, w < 8 * s'.nl → s'.buf w = none; rw [g2]; exact g7, Int.le_refl _, by show (0 : Int) < _; omega⟩, g2, g5, ?_, fun w hw => ?_⟩
  · rw [g6]; show (ptick s).count + 2 = _; omega
  · rw [g8 w hw]
    by_cases e : w = 8 * a + k ∧ s.bad a = false
    · rw [if_pos e, if_pos ⟨by omega, decide_eq_true (by omega), e.2⟩]
    · rw [if_neg e, if_neg]
      · rfl
      · rintro ⟨h1, h2, h3⟩
        have := of_decide_eq_true h2
        exact e ⟨by omega, h3⟩
end Go.Gb
namespace Go.Gb
open Go.Proofs IntWalk

/-! ## spare: plans, the bank's cells, entry, Open, Where, Read -/

def rightI (a l s : Int) : Prop := 0 ≤ a ∧ a ≤ 8192 ∧ 1 ≤ l ∧ l ≤ 1026 ∧ 0 ≤ s ∧ s ≤ 64
instance (a l s : Int) : Decidable (rightI a l s) := by unfold rightI; infer_instance
def plI (a l s : Int) : Pl := ⟨a.toNat, l.toNat, s.toNat⟩
def checkI (a l s n : Int) : Int := if rightI a l s then (if n < a + (sizeN (plI a l s) : Nat) then 3 else 0) else 2

/-- The numbers of a plan that may be. -/
structure PlB (p : Pl) : Prop where
  l1 : 1 ≤ p.pl
  l2 : p.pl ≤ 1026
  s2 : p.ps ≤ 64
  a2 : p.pa ≤ 8192
theorem PlOk.b {p : Pl} {n : Nat} (o : PlOk p n) : PlB p := ⟨o.l1, o.l2, o.s2, o.a2⟩
abbrev plV (p : Pl) : Value := .agg #[.int .i64 p.pa, .int .i64 p.pl, .int .i64 p.ps]
theorem PlB.right {p : Pl} (o : PlB p) : rightI p.pa p.pl p.ps := by
  have := o.l1; have := o.l2; have := o.s2; have := o.a2
  unfold rightI; omega
theorem plI_nat (p : Pl) : plI p.pa p.pl p.ps = p := by unfold plI; simp
theorem PlOk.check {p : Pl} {n : Nat} (o : PlOk p n) : checkI p.pa p.pl p.ps n = 0 := by
  unfold checkI
  have := o.fit
  rw [if_pos o.b.right, plI_nat, if_neg (by omega)]

section
variable {h : Heap} {Q : Value → Heap → Prop} {a l s n : Int} {p : Pl}

theorem spare_Plan_right.c (hq : Q (.bool (decide (rightI a l s))) h) : C Try.prog 38 #[.agg #[.int .i64 a, .int .i64 l, .int .i64 s]] h Q := by
  apply spare_Plan_right.ok
  refine xsIf_intro (fun h1 => xsIf_intro (fun h2 => xsIf_intro (fun h3 => xsIf_intro (fun h4 => xsIf_intro (fun h5 => ?_) fun h5 => ?_) fun h4 => ?_) fun h3 => ?_) fun h2 => ?_) fun h1 => ?_
  all_goals simp only [decide_eq_true_eq, decide_eq_false_iff_not] at *
  · have e : decide (rightI a l s) = decide (s ≤ 64) := by
      by_cases h6 : s ≤ 64
      · rw [decide_eq_true h6, decide_eq_true (by unfold rightI; omega)]
      · rw [decide_eq_false h6, decide_eq_false (by unfold rightI; omega)]
    rw [e] at hq; exact hq
  all_goals (rw [decide_eq_false (show ¬ rightI a l s by unfold rightI; omega)] at hq; exact hq)

theorem spare_Plan_table.c (hb : PlB p) (hq : Q (.int .i64 (tblN p : Nat)) h) : C Try.prog 13 #[plV p] h Q := by
  apply spare_Plan_table.ok
  unfold spare_Plan_table.wp
  have := hb.s2
  rw [i64_in ((p.ps : Int) + 8) (by omega), i64_in _ (by omega), iquo_i64 (by omega) (by omega) (by omega)]
  rw [show ((p.ps : Int) + 8 - 1) / 8 = ((tblN p : Nat) : Int) by unfold tblN; omega]
  exact hq

theorem rightI_pl (hr : rightI a l s) : ∃ p : Pl, PlB p ∧ a = p.pa ∧ l = p.pl ∧ s = p.ps := by
  unfold rightI at hr
  exact ⟨⟨a.toNat, l.toNat, s.toNat⟩, ⟨by show 1 ≤ l.toNat; omega, by show l.toNat ≤ _; omega, by show s.toNat ≤ _; omega, by show a.toNat ≤ _; omega⟩, by show a = (a.toNat : Int); omega, by show l = (l.toNat : Int); omega, by show s = (s.toNat : Int); omega⟩

theorem tblN_le (hb : PlB p) : tblN p ≤ 8 := by have := hb.s2; unfold tblN; omega

theorem spare_Plan_Size.c (hq : Q (.int .i64 (if rightI a l s then (sizeN (plI a l s) : Nat) else 0 : Int)) h) : C Try.prog 16 #[.agg #[.int .i64 a, .int .i64 l, .int .i64 s]] h Q := by
  apply spare_Plan_Size.ok
  refine spare_Plan_right.c ⟨_, rfl, ?_⟩
  by_cases hr : rightI a l s
  · rw [if_pos hr] at hq
    obtain ⟨p, hb, rfl, rfl, rfl⟩ := rightI_pl hr
    rw [plI_nat] at hq
    have := tblN_le hb
    have := hb.l2
    have := hb.s2
    refine xsIf_f (by rw [decide_eq_true hr]; rfl) (spare_Plan_table.c hb ⟨_, rfl, ?_⟩)
    rw [i64_in ((tblN p : Nat) + (p.pl : Int)) (by omega), i64_in _ (by omega), show ((tblN p : Nat) : Int) + (p.pl : Int) + (p.ps : Int) = ((sizeN p : Nat) : Int) by unfold sizeN; omega]
    exact hq
  · rw [if_neg hr] at hq
    exact xsIf_t (by rw [decide_eq_false hr]; rfl) hq

theorem spare_Plan_Check.c (hq : Q (.int .i64 (checkI a l s n)) h) : C Try.prog 26 #[.agg #[.int .i64 a, .int .i64 l, .int .i64 s], .int .i64 n] h Q := by
  apply spare_Plan_Check.ok
  refine spare_Plan_right.c ⟨_, rfl, ?_⟩
  unfold checkI at hq
  by_cases hr : rightI a l s
  · rw [if_pos hr] at hq
    refine xsIf_f (by rw [decide_eq_true hr]; rfl) (spare_Plan_Size.c ⟨_, rfl, ?_⟩)
    rw [if_pos hr]
    obtain ⟨p, hb, rfl, rfl, rfl⟩ := rightI_pl hr
    rw [plI_nat] at hq ⊢
    have := tblN_le hb
    have := hb.l2
    have := hb.s2
    have := hb.a2
    have hs : sizeN p ≤ 2000 := by unfold sizeN; omega
    rw [i64_in _ (by omega)]
    refine xsIf_intro (fun h1 => ?_) fun h1 => ?_
    · rw [if_pos (of_decide_eq_true h1)] at hq; exact hq
    · rw [if_neg (of_decide_eq_false h1)] at hq; exact hq
  · rw [if_neg hr] at hq
    exact xsIf_t (by rw [decide_eq_false hr]; rfl) hq

theorem spare_Plan_own.c {i : Nat} (hb : PlB p) (hi : i ≤ 100000) (hq : Q (.int .i64 (ownN p i : Nat)) h) : C Try.prog 40 #[plV p, .int .i64 (i : Int)] h Q := by
  apply spare_Plan_own.ok
  refine spare_Plan_table.c hb ⟨_, rfl, ?_⟩
  have := tblN_le hb
  have := hb.a2
  rw [i64_in ((p.pa : Int) + (tblN p : Nat)) (by omega), i64_in _ (by omega), show (p.pa : Int) + ((tblN p : Nat) : Int) + (i : Int) = ((ownN p i : Nat) : Int) by unfold ownN; omega]
  exact hq

theorem spare_Plan_spare.c {k : Nat} (hb : PlB p) (hk : k ≤ 1000) (hq : Q (.int .i64 (sparN p k : Nat)) h) : C Try.prog 39 #[plV p, .int .i64 (k : Int)] h Q := by
  apply spare_Plan_spare.ok
  have := tblN_le hb
  have := hb.a2
  have := hb.l2
  refine spare_Plan_own.c hb (by omega) ⟨_, rfl, ?_⟩
  have e : ownN p p.pl ≤ 20000 := by unfold ownN; omega
  rw [i64_in _ (by omega), show ((ownN p p.pl : Nat) : Int) + (k : Int) = ((sparN p k : Nat) : Int) by unfold ownN sparN; omega]
  exact hq
end

/-- The spares that stand for lines. -/
def standsP (p : Pl) (l : List Nat) : Nat → Option Nat := fun i => if i < p.pl then stands l i else none

/-- The bank's cells. -/
structure BankC (G : Nat → Prop) (h : Heap) (b d r : Nat) (p : Pl) (l : List Nat) (ml : List (Int × Value × Nat)) (c : Nat) : Prop where
  pb : PlB p
  len : l.length ≤ p.ps
  gb : G b
  gr : G r
  ne : b ≠ r
  hb : Blk h b [.pointer (some ⟨d, 0, none⟩), .int .i64 p.pa, .int .i64 p.pl, .int .i64 p.ps, .int .i64 (l.length : Nat), .map (some r)]
  hr : h r = some (mapO (Value.int .i64) ml c)
  mm : MapG (fun k : Nat => Value.int .i64 (k : Int)) p.pl (standsP p l) ml c
def BankD (G : Nat → Prop) (h : Heap) (b d : Nat) (p : Pl) (l : List Nat) : Prop := ∃ r ml c, BankC G h b d r p l ml c

theorem BankC.keep {G : Nat → Prop} {h h' : Heap} {b d r : Nat} {p : Pl} {l : List Nat} {ml : List (Int × Value × Nat)} {c : Nat} (w : BankC G h b d r p l ml c) (e : ∀ k, G k → h k ≠ none → h' k = h k) : BankC G h' b d r p l ml c :=
  ⟨w.pb, w.len, w.gb, w.gr, w.ne, w.hb.keep (e _ w.gb w.hb.ne), by rw [e _ w.gr (by rw [w.hr]; simp), w.hr], w.mm⟩
theorem BankD.keep {G : Nat → Prop} {h h' : Heap} {b d : Nat} {p : Pl} {l : List Nat} (w : BankD G h b d p l) (e : ∀ k, G k → h k ≠ none → h' k = h k) : BankD G h' b d p l := by
  obtain ⟨r, ml, c, w⟩ := w; exact ⟨r, ml, c, w.keep e⟩

section
variable {G : Nat → Prop} {h : Heap} {b d r : Nat} {p : Pl} {l : List Nat} {ml : List (Int × Value × Nat)} {cc : Nat} {Q : Value → Heap → Prop}

theorem BankC.c0 (w : BankC G h b d r p l ml cc) : h.cell b (0 + 0) = some (.pointer (some ⟨d, 0, none⟩)) := w.hb.cell 0
theorem BankC.c1 (w : BankC G h b d r p l ml cc) : h.cell b (0 + 1) = some (.int .i64 p.pa) := w.hb.cell 1
theorem BankC.c2 (w : BankC G h b d r p l ml cc) : h.cell b (0 + 1 + 1) = some (.int .i64 p.pl) := w.hb.cell 2
theorem BankC.c3 (w : BankC G h b d r p l ml cc) : h.cell b (0 + 1 + 1 + 1) = some (.int .i64 p.ps) := w.hb.cell 3
theorem BankC.c4 (w : BankC G h b d r p l ml cc) : h.cell b (0 + 4) = some (.int .i64 (l.length : Nat)) := w.hb.cell 4
theorem BankC.c5 (w : BankC G h b d r p l ml cc) : h.cell b (0 + 5) = some (.map (some r)) := w.hb.cell 5

theorem spare_Bank_Lines.c (w : BankD G h b d p l) (hq : Q (.int .i64 p.pl) h) : C Try.prog 19 #[.pointer (some ⟨b, 0, none⟩)] h Q := by
  obtain ⟨r, ml, cc, w⟩ := w
  apply spare_Bank_Lines.ok
  exact xsIf_f rfl ⟨b, 0, rfl, _, w.c2, hq⟩
theorem spare_Bank_Left.c (w : BankD G h b d p l) (hq : Q (.int .i64 ((p.ps : Int) - (l.length : Nat))) h) : C Try.prog 18 #[.pointer (some ⟨b, 0, none⟩)] h Q := by
  obtain ⟨r, ml, cc, w⟩ := w
  have := w.pb.s2
  have := w.len
  apply spare_Bank_Left.ok
  refine xsIf_f rfl ⟨b, 0, rfl, b, 0, rfl, _, w.hb.cell 3, _, w.c4, ?_⟩
  rw [i64_in _ (by omega)]; exact hq

theorem spare_Bank_Where.c {i : Int} (w : BankD G h b d p l) (hy : 0 ≤ i → i < p.pl → Q (.tuple #[.int .i64 (whN p l i.toNat : Nat), .int .i64 0]) h) (hn : ¬ (0 ≤ i ∧ i < p.pl) → Q (.tuple #[.int .i64 0, .int .i64 3]) h) :
    C Try.prog 17 #[.pointer (some ⟨b, 0, none⟩), .int .i64 i] h Q := by
  obtain ⟨r, ml, cc, w⟩ := w
  have hs := w.pb.s2
  have hl := w.len
  have hl2 := w.pb.l2
  apply spare_Bank_Where.ok
  refine xsIf_f rfl (xsIf_intro (fun h1 => hn (by have := of_decide_eq_true h1; omega)) fun h1 => ⟨b, 0, rfl, _, w.c2, xsIf_intro (fun h2 => hn (by have := of_decide_eq_true h2; omega)) fun h2 => ?_⟩)
  have h1 := of_decide_eq_false h1
  have h2 := of_decide_eq_false h2
  have hy := hy (by omega) (by omega)
  obtain ⟨i, rfl⟩ : ∃ k : Nat, i = k := ⟨i.toNat, by omega⟩
  rw [Int.toNat_natCast] at hy
  refine ⟨b, 0, rfl, _, w.c5, r, rfl, ml, cc, w.hr, fun j v b3 hj => ?_, fun hno => ?_⟩
  · obtain ⟨k, hk, rfl⟩ := w.mm.found hj
    unfold standsP at hk
    rw [if_pos (by omega)] at hk
    have e : whN p l i = sparN p k := by unfold whN; rw [hk]
    rw [e] at hy
    have := (stN_lt _ hk).1
    exact ⟨_, rfl, b, 0, rfl, _, w.c1, _, w.c2, _, w.c3, spare_Plan_spare.c w.pb (by omega) ⟨_, rfl, hy⟩⟩
  · have hk := w.mm.lacks hno
    unfold standsP at hk
    rw [if_pos (by omega)] at hk
    have e : whN p l i = ownN p i := by unfold whN; rw [hk]
    rw [e] at hy
    exact ⟨b, 0, rfl, _, w.c1, _, w.c2, _, w.c3, spare_Plan_own.c w.pb (by omega) ⟨_, rfl, hy⟩⟩

/-- One more spare is used. -/
theorem BankC.grow {n : Nat} (w : BankC G h b d r p l ml cc) (hl : l.length < p.ps) (hd : n = 65535 ∨ (1 ≤ n ∧ n ≤ p.pl)) (hq : ∀ h', BankD G h' b d p (l ++ [n]) → Step G h G h' → Q (.int .i64 0) h') :
    spare_Bank_entry.J6 (some ⟨b, 0, none⟩) (l.length : Nat) (n : Nat) h Q := by
  have hs := w.pb.s2
  have hl2 := w.pb.l2
  apply spare_Bank_entry.J6.ok
  have e1 : IntKind.i64.wrap (((l.length : Nat) : Int) + 1) = (((l ++ [n]).length : Nat) : Int) := by rw [i64_in _ (by omega)]; simp
  unfold spare_Bank_entry.J6.wp
  rw [e1]
  have b1 := w.hb.put (0 + 4) [.int .i64 (((l ++ [n]).length : Nat) : Int)]
  have hk1 : ∀ k, k ≠ b → h.put b (0 + 4) [.int .i64 (((l ++ [n]).length : Nat) : Int)] k = h k := fun k hk => put_other h _ _ hk
  have hr1 : h.put b (0 + 4) [.int .i64 (((l ++ [n]).length : Nat) : Int)] r = some (mapO (Value.int .i64) ml cc) := by rw [hk1 _ (Ne.symm w.ne)]; exact w.hr
  have len' : (l ++ [n]).length ≤ p.ps := by simp; omega
  refine ⟨b, 0, rfl, w.hb.can (by simp), ?_⟩
  rcases hd with rfl | hd
  · refine xsIf_f rfl (hq _ ⟨r, ml, cc, w.pb, len', w.gb, w.gr, w.ne, b1, hr1, ?_⟩ (Step.put w.gb _ _))
    have := w.mm
    have e : standsP p (l ++ [65535]) = standsP p l := by
      unfold standsP
      rw [stands_snoc]
      funext i
      dsimp only
      by_cases ei : i < p.pl
      · rw [if_pos ei, if_pos ei, if_neg (by omega)]
      · rw [if_neg ei, if_neg ei]
    rw [e]; exact this
  · have e2 : IntKind.i64.wrap (IntKind.i64.wrap ((n : Nat) : Int) - 1) = ((n - 1 : Nat) : Int) := by rw [i64_in ((n : Nat) : Int) (by omega), i64_in _ (by omega)]; omega
    rw [e2]
    have es : standsP p (l ++ [n]) = fset (standsP p l) (n - 1) (some l.length) := by
      unfold standsP
      rw [stands_snoc]
      funext i
      unfold fset
      dsimp only
      by_cases ei : i = n - 1
      · rw [if_pos ei, if_pos (by omega), if_pos (by omega)]
      · rw [if_neg ei]
        by_cases e3 : i < p.pl
        · rw [if_pos e3, if_pos e3, if_neg (by omega)]
        · rw [if_neg e3, if_neg e3]
    refine xsIf_t (decide_eq_true (by omega)) ⟨b, 0, rfl, _, b1.cell 5, r, rfl, ml, cc, hr1, fun j v b3 hj => ?_, fun hno => ?_⟩
    · refine hq _ ⟨r, _, _, w.pb, len', w.gb, w.gr, w.ne, b1.keep (upd_ne w.ne), by rw [upd_same], ?_⟩ ((Step.put w.gb _ _).trans (Step.set w.gr _))
      rw [es]; exact w.mm.set (by omega) hj l.length
    · refine hq _ ⟨r, _, _, w.pb, len', w.gb, w.gr, w.ne, b1.keep (upd_ne w.ne), by rw [upd_same], ?_⟩ ((Step.put w.gb _ _).trans (Step.set w.gr _))
      rw [es]; exact w.mm.add (by omega) (by omega) hno l.length
end
end Go.Gb
namespace Go.Gb
open Go.Proofs IntWalk

/-! ## spare: entry, Format, Open -/

theorem Step.left {F G : Nat → Prop} {h h' : Heap} (s : Step F h F h') : Step (fun k => F k ∨ G k) h (fun k => F k ∨ G k) h' := s.widen
theorem Step.right {F G : Nat → Prop} {h h' : Heap} (s : Step G h G h') : Step (fun k => F k ∨ G k) h (fun k => F k ∨ G k) h' :=
  ⟨fun k hf hk => s.keep k (fun h => hf (.inr h)) hk, fun k hk => .inl hk, s.live, fun hl k hk => s.live k (hl k hk)⟩

section
variable {G : Nat → Prop} {h : Heap} {b d : Nat} {p : Pl} {l : List Nat} {Q : Value → Heap → Prop}

theorem spare_Bank_entry.zero {k : Int} (hq : Q (.int .i64 0) h) : C Try.prog 21 #[.pointer (some ⟨b, 0, none⟩), .int .i64 k, .int .u64 0] h Q := by
  apply spare_Bank_entry.ok
  exact xsIf_t rfl hq

theorem spare_Bank_entry.c {v : Nat} (w : BankD G h b d p l) (hl : l.length < p.ps) (hv : validW p.pl v = true) (h64 : v < 18446744073709551616) (h0 : v ≠ 0) (hq : ∀ h', BankD G h' b d p (l ++ [v % 281474976710656]) → Step G h G h' → Q (.int .i64 0) h') :
    C Try.prog 21 #[.pointer (some ⟨b, 0, none⟩), .int .i64 (l.length : Nat), .int .u64 (v : Nat)] h Q := by
  obtain ⟨r, ml, cc, w⟩ := w
  have hl2 := w.pb.l2
  obtain ⟨g1, g2⟩ := of_decide_eq_true hv
  apply spare_Bank_entry.ok
  refine xsIf_f (decide_eq_false (by omega)) (crc_Guarded.c h64 ⟨_, _, rfl, ?_⟩)
  rw [if_pos g1, decide_eq_true g1]
  have j6 : spare_Bank_entry.J6 (some ⟨b, 0, none⟩) (l.length : Nat) ((v % 281474976710656 : Nat) : Int) h Q := w.grow hl g2 hq
  generalize v % 281474976710656 = n at g2 j6
  have used : ∀ {x : Int}, decide (x ≠ x) = false := decide_eq_false (fun h => h rfl)
  refine xsIf_f rfl (xsIf_intro (fun e1 => xsIf_f (decide_eq_false ?_) ⟨b, 0, rfl, _, w.c2, xsIf_f (decide_eq_false ?_) ⟨b, 0, rfl, _, w.c4, xsIf_f used j6⟩⟩) fun _ => ⟨b, 0, rfl, _, w.c4, xsIf_f used j6⟩)
  · have e1 : ((n : Nat) : Int) ≠ 65535 := of_decide_eq_true e1
    omega
  · have e1 : ((n : Nat) : Int) ≠ 65535 := of_decide_eq_true e1
    rw [u64_nat' (by omega)]; omega
end

section
variable {F : Nat → Prop} {h : Heap} {d : Nat} {s : PmS} {Q : Value → Heap → Prop} {a l n : Int} {p : Pl}

theorem spare_check.c (w : PmD F h d s) (hq : Q (.int .i64 (checkI a l n s.nl)) h) : C Try.prog 12 #[.pointer (some ⟨d, 0, none⟩), .agg #[.int .i64 a, .int .i64 l, .int .i64 n]] h Q := by
  apply spare_check.ok
  exact xsIf_f rfl (pm_Device_Lines.c w ⟨_, rfl, spare_Plan_Check.c ⟨_, rfl, hq⟩⟩)
theorem spare_check.nil (hq : Q (.int .i64 1) h) : C Try.prog 12 #[.pointer none, .agg #[.int .i64 a, .int .i64 l, .int .i64 n]] h Q := by
  apply spare_check.ok
  exact xsIf_t rfl hq

/-- Lines are put as noughts. -/
def sfmt (p : Pl) (z : ByteArray) : Nat → Nat → PmS → Int × PmS
  | 0, _, s => (0, s)
  | j + 1, k, s => if (lnput s (p.pa + k : Nat) z).1 = 0 then sfmt p z j (k + 1) (lnput s (p.pa + k : Nat) z).2 else lnput s (p.pa + k : Nat) z

theorem spare_Format.L5.c (hb : PlB p) {m : Nat} (hm : m ≤ 100000) : ∀ (j k : Nat) (h : Heap) (s : PmS), k + j = m → PmD F h d s → Live F h → (∀ h', PmD F h' d (sfmt p zero64 j k s).2 → Step F h F h' → Q (.int .i64 (sfmt p zero64 j k s).1) h') →
    spare_Format.L5 (some ⟨d, 0, none⟩) (m : Int) (k : Int) p.pa p.pl p.ps h Q := by
  intro j
  induction j with
  | zero =>
    intro k h s hk w lv hq
    apply spare_Format.L5.ok
    exact xsIf_f (decide_eq_false (by omega)) (hq h w (Step.refl _ _))
  | succ j ih =>
    intro k h s hk w lv hq
    apply spare_Format.L5.ok
    unfold spare_Format.L5.wp
    have := hb.a2
    rw [show IntKind.i64.wrap ((k : Int) + 1) = ((k + 1 : Nat) : Int) by rw [i64_in _ (by omega)]; omega, show IntKind.i64.wrap ((p.pa : Int) + (k : Int)) = ((p.pa + k : Nat) : Int) by rw [i64_in _ (by omega)]; omega]
    refine xsIf_t (decide_eq_true (by omega)) (strings_Repeat.c (c := 64) (by omega) (by show 1 ≤ 1000000; omega) ⟨_, rfl, ?_⟩)
    show C Try.prog 14 #[.pointer (some ⟨d, 0, none⟩), .int .i64 ((p.pa + k : Nat) : Int), .string zero64] h _
    refine line_Put.c w lv fun h1 w1 st1 => ⟨_, rfl, ?_⟩
    unfold sfmt at hq
    refine xsIf_intro (fun e => ?_) fun e => ?_
    · have e := of_decide_eq_true e
      rw [if_neg e] at hq
      exact hq h1 w1 st1
    · have e : (lnput s (p.pa + k : Nat) zero64).1 = 0 := by simpa using e
      rw [if_pos e] at hq
      exact ih (k + 1) h1 _ (by omega) w1 (st1.dom lv) fun h' w' st => hq h' w' (st1.trans st)

def sformat (p : Pl) (s : PmS) : Int × PmS := sfmt p zero64 (tblN p + p.pl) 0 s

theorem spare_Format.c (w : PmD F h d s) (lv : Live F h) (ok : PlOk p s.nl) (hq : ∀ h', PmD F h' d (sformat p s).2 → Step F h F h' → Q (.int .i64 (sformat p s).1) h') : C Try.prog 5 #[.pointer (some ⟨d, 0, none⟩), plV p] h Q := by
  apply spare_Format.ok
  refine spare_check.c w ⟨_, rfl, ?_⟩
  rw [ok.check]
  have hb := ok.b
  have := tblN_le hb
  have := hb.l2
  refine xsIf_f rfl (spare_Plan_table.c hb ⟨_, rfl, ?_⟩)
  rw [i64_in _ (by omega), show ((tblN p : Nat) : Int) + (p.pl : Int) = ((tblN p + p.pl : Nat) : Int) by omega]
  exact spare_Format.L5.c hb (by omega) (tblN p + p.pl) 0 h s (by omega) w lv hq

theorem spare_Format.no (w : PmD F h d s) (he : checkI a l n s.nl ≠ 0) (hq : Q (.int .i64 (checkI a l n s.nl)) h) : C Try.prog 5 #[.pointer (some ⟨d, 0, none⟩), .agg #[.int .i64 a, .int .i64 l, .int .i64 n]] h Q := by
  apply spare_Format.ok
  exact spare_check.c w ⟨_, rfl, xsIf_t (decide_eq_true he) hq⟩
theorem spare_Format.nil (hq : Q (.int .i64 1) h) : C Try.prog 5 #[.pointer none, .agg #[.int .i64 a, .int .i64 l, .int .i64 n]] h Q := by
  apply spare_Format.ok
  exact spare_check.nil ⟨_, rfl, xsIf_t rfl hq⟩
theorem spare_Open.no (w : PmD F h d s) (he : checkI a l n s.nl ≠ 0) (hq : Q (.tuple #[.pointer none, .int .i64 (checkI a l n s.nl)]) h) : C Try.prog 7 #[.pointer (some ⟨d, 0, none⟩), .agg #[.int .i64 a, .int .i64 l, .int .i64 n]] h Q := by
  apply spare_Open.ok
  exact spare_check.c w ⟨_, rfl, xsIf_t (decide_eq_true he) hq⟩
theorem spare_Open.nil (hq : Q (.tuple #[.pointer none, .int .i64 1]) h) : C Try.prog 7 #[.pointer none, .agg #[.int .i64 a, .int .i64 l, .int .i64 n]] h Q := by
  apply spare_Open.ok
  exact spare_check.nil ⟨_, rfl, xsIf_t rfl hq⟩

theorem entsTo_step {lines : Nat} {f : Nat → Nat} {m k : Nat} {l : List Nat} (h : entsTo lines f m = some l) (hk : k ≤ m) : ∃ l', entsTo lines f k = some l' := by
  induction m generalizing l with
  | zero => obtain rfl : k = 0 := by omega
            exact ⟨_, rfl⟩
  | succ m ih =>
    by_cases e : k = m + 1
    · rw [e]; exact ⟨l, h⟩
    · unfold entsTo at h
      cases e2 : entsTo lines f m with
      | none => rw [e2] at h; cases h
      | some l2 => exact ih e2 (by omega)

theorem spare_Open.L6.c {G : Nat → Prop} {b : Nat} {l0 : List Nat} (hb : PlB p) (w : PmD F h d s) (ho : s.off = false) (hf : 8 * p.pa + p.ps ≤ 8 * s.nl) (wok : PmOk s) (he : sents s p = some l0) (ap : Apart F G) : ∀ (j k : Nat) (h' : Heap) (l : List Nat), k + j = p.ps → entsTo p.pl (twd s p) k = some l → BankD G h' b d p l → PmD F h' d s →
    (∀ h'', BankD G h'' b d p l0 → Step G h' G h'' → Q (.tuple #[.pointer (some ⟨b, 0, none⟩), .int .i64 0]) h'') →
    spare_Open.L6 (some ⟨d, 0, none⟩) (some ⟨b, 0, none⟩) (p.ps : Int) (k : Int) p.pa p.pl p.ps h' Q := by
  have hs := hb.s2
  have ha := hb.a2
  intro j
  induction j with
  | zero =>
    intro k h' l hk hl wb wd hq
    apply spare_Open.L6.ok
    have : k = p.ps := by omega
    subst this
    have : l = l0 := by unfold sents at he; rw [hl] at he; cases he; rfl
    subst this
    exact xsIf_f (decide_eq_false (by omega)) (hq h' wb (Step.refl _ _))
  | succ j ih =>
    intro k h' l hk hl wb wd hq
    apply spare_Open.L6.ok
    unfold spare_Open.L6.wp
    rw [show IntKind.i64.wrap ((k : Int) + 1) = ((k + 1 : Nat) : Int) by rw [i64_in _ (by omega)]; omega, show IntKind.i64.wrap (IntKind.i64.wrap ((p.pa : Int) * 8) + (k : Int)) = ((8 * p.pa + k : Nat) : Int) by rw [i64_in ((p.pa : Int) * 8) (by omega), i64_in _ (by omega)]; omega]
    refine xsIf_t (decide_eq_true (by omega)) (pm_Device_Load.c wd ⟨_, _, rfl, ?_⟩)
    have hld : pload s ((8 * p.pa + k : Nat) : Int) = (pval s (8 * p.pa + k), 0) := by
      have e : pready s ((8 * p.pa + k : Nat) : Int) ((8 * s.nl : Nat) : Int) = 0 := by unfold pready; rw [ho, if_neg (by simp)]; exact if_pos (by omega)
      unfold pload pval; rw [if_pos e, Int.toNat_natCast]; first | done | (cases s.buf (8 * p.pa + k) <;> rfl)
    rw [hld]
    refine xsIf_f rfl ?_
    have hv := wok.val (8 * p.pa + k)
    unfold R64 at hv
    have ev : pval s (8 * p.pa + k) = ((twd s p k : Nat) : Int) := by unfold twd; omega
    show C Try.prog 21 #[.pointer (some ⟨b, 0, none⟩), .int .i64 (k : Int), .int .u64 (pval s (8 * p.pa + k))] h' _
    rw [ev]
    obtain ⟨l2, h2⟩ := entsTo_step (k := k + 1) he (by omega)
    have h3 := h2
    unfold entsTo at h3
    rw [hl] at h3
    dsimp only at h3
    by_cases e0 : twd s p k = 0
    · rw [if_pos e0] at h3
      cases h3
      rw [e0]
      exact spare_Bank_entry.zero ⟨_, rfl, xsIf_f rfl (ih (k + 1) h' l (by omega) h2 wb wd hq)⟩
    · rw [if_neg e0] at h3
      by_cases e1 : validW p.pl (twd s p k) = true ∧ l.length = k
      · rw [if_pos e1] at h3
        cases h3
        obtain ⟨e1, rfl⟩ := e1
        refine spare_Bank_entry.c wb (by omega) e1 (by omega) e0 fun h'' wb' st => ⟨_, rfl, xsIf_f rfl ?_⟩
        exact ih (l.length + 1) h'' _ (by omega) h2 wb' (wd.keep (st.same ap.symm)) fun h3 wb3 st3 => hq h3 wb3 (st.trans st3)
      · rw [if_neg e1] at h3; cases h3

/-- The bank as it lasts, in new blocks. -/
theorem spare_Open.c {l0 : List Nat} (w : PmD F h d s) (lv : Live F h) (i : SpI p s l0)
    (hq : ∀ b G h', BankD G h' b d p l0 → PmD F h' d s → (∀ k, G k → h k = none) → Live F h' → Live G h' → Part h h' → Q (.tuple #[.pointer (some ⟨b, 0, none⟩), .int .i64 0]) h') :
    C Try.prog 7 #[.pointer (some ⟨d, 0, none⟩), plV p] h Q := by
  apply spare_Open.ok
  refine spare_check.c w ⟨_, rfl, ?_⟩
  rw [i.ok.check]
  refine xsIf_f rfl fun r hr b hb => ?_
  obtain ⟨nbr, hb0⟩ := fresh_ne hb
  generalize hh2 : upd (upd h r (Obj.map #[] 0)) b (Obj.cells #[.pointer (some ⟨d, 0, none⟩), .int .i64 p.pa, .int .i64 p.pl, .int .i64 p.ps, .int .i64 0, .map (some r)] 52 (0, 0)) = h2
  have hk2 : ∀ k, h k ≠ none → h2 k = h k := fun k hk => by
    rw [← hh2, upd_ne (fun e => hk (by rw [e]; exact hb0)), upd_ne (fun e => hk (by rw [e]; exact hr))]
  have w2 : PmD F h2 d s := w.keep fun k _ hk => hk2 k hk
  have wb : BankD (fun k => k = b ∨ k = r) h2 b d p [] := by
    refine ⟨r, [], 0, i.ok.b, Nat.zero_le _, .inl rfl, .inr rfl, nbr, ?_, ?_, ?_⟩
    · rw [← hh2]; exact Blk.new _ _ _ _
    · rw [← hh2, upd_ne (Ne.symm nbr), upd_same]; rfl
    · have : standsP p [] = fun _ => none := by
        funext i; unfold standsP; split <;> rfl
      rw [this]; exact MapG.empty
  have fit := i.ok.fit
  have hfit : 8 * p.pa + p.ps ≤ 8 * s.nl := by unfold sizeN tblN at fit; omega
  have ap : Apart F (fun k => k = b ∨ k = r) := fun k hk hf => by
    rcases hk with rfl | rfl
    · exact lv _ hf hb0
    · exact lv _ hf hr
  have lf2 : Live F h2 := fun k hk => by rw [hk2 k (lv k hk)]; exact lv k hk
  have lg2 : Live (fun k => k = b ∨ k = r) h2 := fun k hk => by
    rcases hk with rfl | rfl
    · rw [← hh2, upd_same]; simp
    · rw [← hh2, upd_ne (Ne.symm nbr), upd_same]; simp
  refine spare_Open.L6.c (h := h2) (l0 := l0) i.ok.b w2 i.on.off hfit i.w i.en ap p.ps 0 h2 [] (by omega) rfl wb w2 fun h3 wb3 st3 => ?_
  refine hq b _ h3 wb3 (w2.keep (st3.same ap.symm)) (fun k hk => ?_) (st3.alive lf2) (st3.dom lg2) fun k o hko => ?_
  · rcases hk with rfl | rfl
    · exact hb0
    · exact hr
  · have hkn : h k ≠ none := by rw [hko]; simp
    have : ¬ (k = b ∨ k = r) := fun e => by
      rcases e with rfl | rfl
      · exact hkn hb0
      · exact hkn hr
    rw [st3.keep k this (by rw [hk2 k hkn]; exact hkn), hk2 k hkn]; exact hko
end
end Go.Gb
namespace Go.Gb
open Go.Proofs IntWalk

/-! ## spare: Read, say, retire, Write, WriteWord -/

/-- A device and a bank on it. -/
structure DB (F G : Nat → Prop) (h : Heap) (d b : Nat) (p : Pl) (s : PmS) (l : List Nat) : Prop where
  dv : PmD F h d s
  bk : BankD G h b d p l
  lf : Live F h
  lg : Live G h
  ap : Apart F G

abbrev FG (F G : Nat → Prop) : Nat → Prop := fun k => F k ∨ G k

section
variable {F G : Nat → Prop} {h : Heap} {d b : Nat} {p : Pl} {s : PmS} {l : List Nat} {Q : Value → Heap → Prop}

theorem DB.dev {s' : PmS} {h' : Heap} (w : DB F G h d b p s l) (w' : PmD F h' d s') (st : Step F h F h') : DB F G h' d b p s' l :=
  ⟨w', w.bk.keep (st.same w.ap), st.dom w.lf, st.alive w.lg, w.ap⟩
theorem DB.bank {l' : List Nat} {h' : Heap} (w : DB F G h d b p s l) (w' : BankD G h' b d p l') (st : Step G h G h') : DB F G h' d b p s l' :=
  ⟨w.dv.keep (st.same w.ap.symm), w', st.alive w.lf, st.dom w.lg, w.ap⟩
theorem DB.part {h' : Heap} (w : DB F G h d b p s l) (pt : Part h h') : DB F G h' d b p s l :=
  ⟨w.dv.keep fun _ _ hk => part_live pt hk, w.bk.keep fun _ _ hk => part_live pt hk, (Step.of_part pt).dom w.lf, (Step.of_part pt).dom w.lg, w.ap⟩

theorem spare_Bank_Read.c {i : Int} (w : DB F G h d b p s l) (ok : PmOk s) (hy : 0 ≤ i → i < p.pl → Q (.tuple #[.string (lnget s (whN p l i.toNat : Nat)).1, .int .i64 (lnget s (whN p l i.toNat : Nat)).2]) h) (hn : ¬ (0 ≤ i ∧ i < p.pl) → Q (.tuple #[.string ⟨#[]⟩, .int .i64 3]) h) :
    C Try.prog 11 #[.pointer (some ⟨b, 0, none⟩), .int .i64 i] h Q := by
  apply spare_Bank_Read.ok
  refine spare_Bank_Where.c w.bk (fun h0 h1 => ⟨_, _, rfl, xsIf_f rfl ?_⟩) fun h0 => ⟨_, _, rfl, xsIf_t rfl (hn h0)⟩
  obtain ⟨r, ml, cc, wb⟩ := w.bk
  exact ⟨b, 0, rfl, _, wb.c0, line_Get.c w.dv ok ⟨_, _, rfl, hy h0 h1⟩⟩

set_option maxRecDepth 100000 in
theorem spare_Bank_say.c {x : Nat} (w : DB F G h d b p s l) (hl : l.length < p.ps) (hx : x = 65535 ∨ (1 ≤ x ∧ x ≤ p.pl))
    (hq : ∀ h', DB F G h' d b p (lnputw s (p.pa + l.length / 8 : Nat) (l.length % 8 : Nat) (guardN x : Nat)).2 (if (lnputw s (p.pa + l.length / 8 : Nat) (l.length % 8 : Nat) (guardN x : Nat)).1 = 0 then l ++ [x] else l) → Step (FG F G) h (FG F G) h' →
      Q (.int .i64 (lnputw s (p.pa + l.length / 8 : Nat) (l.length % 8 : Nat) (guardN x : Nat)).1) h') :
    C Try.prog 45 #[.pointer (some ⟨b, 0, none⟩), .int .u64 (x : Nat)] h Q := by
  obtain ⟨r, ml, cc, wb⟩ := w.bk
  have hs := wb.pb.s2
  have ha := wb.pb.a2
  have hl2 := wb.pb.l2
  obtain ⟨v1, v2, v3⟩ := guardN_valid hx hl2
  apply spare_Bank_say.ok
  have e1 : IntKind.i64.wrap ((p.pa : Int) + iquo .i64 ((l.length : Nat) : Int) 8) = ((p.pa + l.length / 8 : Nat) : Int) := by
    rw [iquo_i64 (by omega) (by omega) (by omega), i64_in _ (by omega)]; omega
  have e2 : irem ((l.length : Nat) : Int) 8 = ((l.length % 8 : Nat) : Int) := irem_nat _ 8
  have main : C Try.prog 60 #[.pointer (some ⟨d, 0, none⟩), .int .i64 (IntKind.i64.wrap ((p.pa : Int) + iquo .i64 ((l.length : Nat) : Int) 8)), .int .i64 (irem ((l.length : Nat) : Int) 8), .int .u64 (guardN x : Nat)] h fun (r : Value) (h' : Heap) =>
      ∃ (e : Int), r = .int .i64 e ∧ spare_Bank_say.J2 (some ⟨b, 0, none⟩) (x : Nat) e h' Q := by
    rw [e1, e2]
    refine line_PutWord.c w.dv w.lf fun h1 w1 st1 => ⟨_, rfl, ?_⟩
    apply spare_Bank_say.J2.ok
    have db1 := w.dev w1 st1
    have wb1 := wb.keep (st1.same w.ap)
    refine xsIf_intro (fun e => ?_) fun e => ?_
    · have e := of_decide_eq_true e
      rw [e, if_pos rfl] at hq
      have en : C Try.prog 21 #[.pointer (some ⟨b, 0, none⟩), .int .i64 (l.length : Nat), .int .u64 (guardN x : Nat)] h1 fun (r : Value) (h' : Heap) => ∃ (x : Int), r = .int .i64 x ∧ Q (.int .i64 x) h' := by
        refine spare_Bank_entry.c ⟨r, ml, cc, wb1⟩ hl v1 (guardN_lt x) v2 fun h2 wb2 st2 => ⟨_, rfl, hq h2 ?_ (st1.left.trans st2.right)⟩
        rw [v3] at wb2
        exact db1.bank wb2 st2
      exact ⟨b, 0, rfl, ⟨_, wb1.c4, crc_Guard.c (by omega) ⟨_, rfl, en⟩⟩, crc_Guard.c (by omega) ⟨_, rfl, _, wb1.c4, en⟩⟩
    · have e := of_decide_eq_false e
      rw [if_neg e] at hq
      exact hq h1 db1 st1.left
  have gd : ∀ {K : Int → Prop}, K (guardN x : Nat) → C Try.prog 59 #[.int .u64 (x : Nat)] h fun (r : Value) (h' : Heap) => ∃ (y : Int), r = .int .u64 y ∧ (h' = h ∧ K y) := fun hk => crc_Guard.c (by omega) ⟨_, rfl, rfl, hk⟩
  refine ⟨b, 0, rfl, b, 0, rfl, b, 0, rfl, b, 0, rfl, ?_⟩
  have c1 : h.cell b (0 + 1 + 0) = some (.int .i64 p.pa) := wb.c1
  repeat' (first | exact main | (refine And.intro ?_ ?_) | (refine ⟨_, wb.c0, ?_⟩) | (refine ⟨_, c1, ?_⟩) | (refine ⟨_, wb.c4, ?_⟩) | (refine crc_Guard.c (by omega) ⟨_, rfl, ?_⟩))
end
end Go.Gb
namespace Go.Gb
open Go.Proofs IntWalk

/-! ## gabionlaw04: wakes, LineNone, LineCosts -/

section
variable {h : Heap} {Q : Value → Heap → Prop} {a : Int}

theorem pm_Device_Off.nil (hq : Q (.bool false) h) : C Try.prog 46 #[.pointer none] h Q := by
  apply pm_Device_Off.ok
  exact xsIf_f rfl hq

theorem line_there.nil (hq : Q (.int .i64 1) h) : C Try.prog 29 #[.pointer none, .int .i64 a] h Q := by
  apply line_there.ok
  exact xsIf_t rfl hq
theorem line_Get.nil (hq : Q (.tuple #[.string ⟨#[]⟩, .int .i64 1]) h) : C Try.prog 25 #[.pointer none, .int .i64 a] h Q := by
  apply line_Get.ok
  exact line_there.nil ⟨_, rfl, xsIf_t (by decide) (pm_Device_Off.nil ⟨_, rfl, xsIf_t rfl hq⟩)⟩
theorem line_Put.nil {b : ByteArray} (hq : Q (.int .i64 1) h) : C Try.prog 14 #[.pointer none, .int .i64 a, .string b] h Q := by
  apply line_Put.ok
  exact le_Words.c2 fun f _ => ⟨_, _, _, _, _, _, _, _, _, rfl, line_there.nil ⟨_, rfl, xsIf_t (by decide) hq⟩⟩
theorem line_PutWord.nil {k v : Int} (hq : Q (.int .i64 1) h) : C Try.prog 60 #[.pointer none, .int .i64 a, .int .i64 k, .int .u64 v] h Q := by
  apply line_PutWord.ok
  exact line_there.nil ⟨_, rfl, xsIf_t (by decide) hq⟩
theorem line_Took.nil {b : ByteArray} (hq : Q (.bool false) h) : C Try.prog 23 #[.pointer none, .int .i64 a, .string b] h Q := by
  apply line_Took.ok
  refine le_Words.c2 fun f _ => ⟨_, _, _, _, _, _, _, _, _, rfl, xsIf_intro (fun _ => hq) fun _ => line_there.nil ⟨_, rfl, xsIf_t (by decide) hq⟩⟩
end

theorem Cl.of {s : PmS} (c : Cl { s with count := 0 }) (h0 : 0 ≤ s.count) (h1 : s.count < 1000000000) : Cl s := ⟨c.off, c.fuse, c.buf, h0, h1⟩
theorem Cl.new (n : Nat) : Cl (pnew n) := ⟨rfl, rfl, fun _ _ => rfl, Int.le_refl _, by show (0 : Int) < _; omega⟩

theorem bytes_word_eq {b c : ByteArray} (hb : b.size = 64) (hc : c.size = 64) (h : ∀ k, k < 8 → wordAt b k = wordAt c k) : b = c := by
  rw [← lnbytes_words b hb, ← lnbytes_words c hc]
  unfold lnbytes
  rw [textN_congr 8 h]

theorem lnget_clean {s : PmS} {a : Nat} {b : ByteArray} (cl : Cl s) (ok : PmOk s) (ha : a < s.nl) (hb : b.size = 64) (hm : ∀ k, k < 8 → s.media (8 * a + k) = ((wordAt b k : Nat) : Int)) : lnget s (a : Int) = (b, 0) := by
  unfold lnget
  rw [cl.off, if_neg (by simp), if_pos (by unfold lthere; rw [if_pos (by omega)]), Int.toNat_natCast]
  congr 1
  refine Eq.trans ?_ (lnbytes_words b hb)
  unfold lnbytes
  rw [textN_congr 8]
  intro k hk
  show (pval s (8 * a + k)).toNat = _
  unfold pval
  rw [cl.buf _ (by omega)]
  show (s.media (8 * a + k)).toNat = _
  rw [hm k hk]; omega

set_option maxRecDepth 100000 in
theorem abc_word : wordAt (fullB ⟨#[UInt8.ofNat 97, UInt8.ofNat 98, UInt8.ofNat 99]⟩) 0 ≠ 0 := by
  have : wordAt (fullB ⟨#[UInt8.ofNat 97, UInt8.ofNat 98, UInt8.ofNat 99]⟩) 0 = 6513249 := by kernel_rfl
  rw [this]; decide

/-- What a put costs. -/
theorem lnput_cost {s : PmS} {b : ByteArray} (cl : Cl s) (x : Int) (hb : b.size = 64) (hc : s.count < 10000) : ∃ f s', lnput s x b = (f, s') ∧ Cl s' ∧ s'.nl = s.nl ∧ ((f = 0 ∧ s'.count = s.count + 10) ∨ (f = 3 ∧ s'.count = s.count)) := by
  have c0 := cl.c0
  by_cases ht : lthere s x = 0
  · obtain ⟨n, rfl, hn⟩ := lthere_ok ht
    obtain ⟨s', e, c, n', _, k, _⟩ := lnput_clean cl hn hb
    exact ⟨0, s', e, c.of (by omega) (by omega), n', .inl ⟨rfl, k⟩⟩
  · refine ⟨3, s, ?_, cl, rfl, .inr ⟨rfl, rfl⟩⟩
    unfold lnput; rw [if_pos hb, if_neg ht]
theorem lnputw_cost {s : PmS} (cl : Cl s) (x k v : Int) (hc : s.count < 10000) : ∃ f s', lnputw s x k v = (f, s') ∧ Cl s' ∧ s'.nl = s.nl ∧ ((f = 0 ∧ s'.count = s.count + 3) ∨ ((f = 2 ∨ f = 3) ∧ s'.count = s.count)) := by
  have c0 := cl.c0
  by_cases hk : 0 ≤ k ∧ k < 8
  · by_cases ht : lthere s x = 0
    · obtain ⟨n, rfl, hn⟩ := lthere_ok ht
      obtain ⟨k, rfl⟩ : ∃ j : Nat, k = j := ⟨k.toNat, by omega⟩
      obtain ⟨s', e, c, n', _, k, _⟩ := lnputw_clean (v := v) cl hn (show k < 8 by omega)
      exact ⟨0, s', e, c.of (by omega) (by omega), n', .inl ⟨rfl, k⟩⟩
    · refine ⟨3, s, ?_, cl, rfl, .inr ⟨.inr rfl, rfl⟩⟩
      unfold lnputw; rw [if_pos hk, if_neg ht]
  · refine ⟨2, s, ?_, cl, rfl, .inr ⟨.inl rfl, rfl⟩⟩
    unfold lnputw; rw [if_neg hk]

end Go.Gb
namespace Go.Gb
open Go.Proofs IntWalk

/-! ## spare: retire, Write, WriteWord -/

theorem chunk_left {a b : List UInt8} {j : Nat} (h : 8 * j + 8 ≤ a.length) : chunk (a ++ b) j = chunk a j := by
  unfold chunk
  rw [List.drop_append_of_le_length (by omega), List.take_append_of_le_length (by rw [List.length_drop]; omega)]
theorem chunk_right {a b : List UInt8} {j n : Nat} (h : a.length = 8 * n) (hj : n ≤ j) : chunk (a ++ b) j = chunk b (j - n) := by
  unfold chunk
  have e : 8 * j = a.length + 8 * (j - n) := by omega
  rw [e, List.drop_append, List.drop_of_length_le (show a.length ≤ a.length + 8 * (j - n) by omega), Nat.add_sub_cancel_left, List.nil_append]
theorem chunk_take {a : List UInt8} {j n : Nat} (hj : j < n) : chunk (a.take (8 * n)) j = chunk a j := by
  unfold chunk
  rw [List.drop_take, List.take_take, show min 8 (8 * n - 8 * j) = 8 by omega]
theorem chunk_drop {a : List UInt8} {j n : Nat} : chunk (a.drop (8 * n)) j = chunk a (n + j) := by
  unfold chunk
  rw [List.drop_drop, show 8 * n + 8 * j = 8 * (n + j) by omega]

theorem with_text {w : ByteArray} {k v : Nat} (hw : w.size = 64) (hk : k < 8) (hv : v < 18446744073709551616) :
    sext w 0 ((8 * k : Nat) : Int) ++ ⟨(putL v 8).toArray⟩ ++ sext w ((8 * (k + 1) : Nat) : Int) (w.size : Int) = withW w k v := by
  have hl : w.data.toList.length = 64 := by
    have : w.data.toList.length = w.size := by simp
    omega
  have e1 : sext w 0 ((8 * k : Nat) : Int) = ⟨(w.data.toList.take (8 * k)).toArray⟩ := by
    unfold sext
    apply ByteArray.ext
    rw [Int.toNat_natCast, ByteArray.data_extract]
    apply Array.ext'
    rw [Array.toList_extract, List.extract_eq_take_drop]
    show (w.data.toList.drop 0).take (8 * k - 0) = _
    simp
  have e2 : sext w ((8 * (k + 1) : Nat) : Int) (w.size : Int) = ⟨(w.data.toList.drop (8 * (k + 1))).toArray⟩ := by
    unfold sext
    apply ByteArray.ext
    rw [Int.toNat_natCast, Int.toNat_natCast, ByteArray.data_extract]
    apply Array.ext'
    rw [Array.toList_extract, List.extract_eq_take_drop, List.take_of_length_le]
    rw [List.length_drop, hl]; omega
  have hb : ∀ j, (if j = k then v else wordAt w j) < 18446744073709551616 := fun j => by split; exact hv; exact wordAt_lt _ _
  rw [e1, e2, bytes_append, bytes_append]
  have ta : (w.data.toList.take (8 * k)).length = 8 * k := by rw [List.length_take, hl]; omega
  refine bytes_word_eq ?_ (withW_size _ _ _) fun j hj => ?_
  · rw [bytes_size, List.length_append, List.length_append, ta, putL_length, List.length_drop, hl]; omega
  · unfold withW
    rw [wordAt_text hj (hb j)]
    show getL (chunk (w.data.toList.take (8 * k) ++ putL v 8 ++ w.data.toList.drop (8 * (k + 1))) j) = _
    rw [List.append_assoc]
    by_cases h1 : j < k
    · rw [chunk_left (by rw [ta]; omega), chunk_take h1, if_neg (by omega)]; rfl
    · rw [chunk_right ta (by omega)]
      by_cases h2 : j = k
      · subst h2
        rw [Nat.sub_self, chunk_left (by rw [putL_length]; omega), if_pos rfl]
        unfold chunk
        rw [List.drop_zero, List.take_of_length_le (by rw [putL_length]; omega), getL_put]
        exact Nat.mod_eq_of_lt hv
      · rw [chunk_right (n := 1) (by rw [putL_length]) (by omega), chunk_drop, if_neg h2, show k + 1 + (j - k - 1) = j by omega]; rfl

section
variable {F G : Nat → Prop} {h : Heap} {d b : Nat} {p : Pl} {s : PmS} {l : List Nat} {Q : Value → Heap → Prop}

open Classical in
theorem took_yes {s : PmS} {a : Nat} {x : ByteArray} (t : lntook s (a : Int) x) : took s a x = true := by unfold took; exact decide_eq_true t
open Classical in
theorem took_no {s : PmS} {a : Nat} {x : ByteArray} (t : ¬ lntook s (a : Int) x) : ¬ took s a x = true := by unfold took; rw [decide_eq_false t]; simp

theorem spare_Bank_retire.L1.c {i : Nat} {B : ByteArray} (hi : i < p.pl) : ∀ (m : Nat) (h : Heap) (s : PmS) (l : List Nat), l.length + m = p.ps → DB F G h d b p s l →
    (∀ h', DB F G h' d b p (sretire p i B m s l).2.1 (sretire p i B m s l).2.2 → Step (FG F G) h (FG F G) h' → Q (.int .i64 (sretire p i B m s l).1) h') → spare_Bank_retire.L1 (some ⟨b, 0, none⟩) (i : Int) B h Q := by
  intro m
  induction m with
  | zero =>
    intro h s l hm w hq
    apply spare_Bank_retire.L1.ok
    refine spare_Bank_Left.c w.bk ⟨_, rfl, xsIf_f (decide_eq_false (by omega)) (hq h w (Step.refl _ _))⟩
  | succ m ih =>
    intro h s l hm w hq
    obtain ⟨r, ml, cc, wb⟩ := w.bk
    have hs := wb.pb.s2
    have hl2 := wb.pb.l2
    apply spare_Bank_retire.L1.ok
    refine spare_Bank_Left.c w.bk ⟨_, rfl, xsIf_t (decide_eq_true (by omega)) ⟨b, 0, rfl, b, 0, rfl, _, wb.c1, _, wb.c2, _, wb.c3, _, wb.c4, spare_Plan_spare.c wb.pb (by omega) ⟨_, rfl, b, 0, rfl, _, wb.c0, line_Put.c w.dv w.lf fun h1 w1 st1 => ⟨_, rfl, ?_⟩⟩⟩⟩
    unfold sretire at hq
    have db1 := w.dev w1 st1
    have wb1 := wb.keep (st1.same w.ap)
    refine xsIf_intro (fun e => ?_) fun e => ?_
    · have e := of_decide_eq_true e
      rw [if_neg e] at hq
      exact hq h1 db1 st1.left
    · have e : (lnput s (sparN p l.length : Nat) B).1 = 0 := by simpa using e
      rw [if_pos e] at hq
      generalize (lnput s (sparN p l.length : Nat) B).2 = s1 at hq w1 db1
      refine ⟨b, 0, rfl, _, wb1.c0, line_Took.c w1 (fun t => ⟨_, rfl, xsIf_t rfl ?_⟩) fun t => ⟨_, rfl, xsIf_f rfl ?_⟩⟩
      · rw [if_pos (took_yes t)] at hq
        rw [show IntKind.u64.wrap (IntKind.u64.wrap (i : Int) + 1) = ((i + 1 : Nat) : Int) by rw [u64_nat' (by omega), show ((i : Int) + 1) = ((i + 1 : Nat) : Int) by omega, u64_nat' (by omega)]]
        exact spare_Bank_say.c db1 (by omega) (.inr ⟨by omega, by omega⟩) fun h2 db2 st2 => ⟨_, rfl, hq h2 db2 (st1.left.trans st2)⟩
      · rw [if_neg (took_no t)] at hq
        refine spare_Bank_say.c (x := 65535) db1 (by omega) (.inl rfl) fun h2 db2 st2 => ⟨_, rfl, ?_⟩
        refine xsIf_intro (fun e2 => ?_) fun e2 => ?_
        · have e2 := of_decide_eq_true e2
          rw [if_neg e2] at hq db2
          exact hq h2 db2 (st1.left.trans st2)
        · have e2 : (lnputw s1 (p.pa + l.length / 8 : Nat) (l.length % 8 : Nat) (guardN 65535 : Nat)).1 = 0 := by simpa using e2
          rw [if_pos e2] at hq db2
          exact ih h2 _ _ (by simp; omega) db2 fun h3 db3 st3 => hq h3 db3 ((st1.left.trans st2).trans st3)

theorem spare_Bank_retire.c {i : Nat} {B : ByteArray} (hi : i < p.pl) (w : DB F G h d b p s l)
    (hq : ∀ h', DB F G h' d b p (sretire p i B (p.ps - l.length) s l).2.1 (sretire p i B (p.ps - l.length) s l).2.2 → Step (FG F G) h (FG F G) h' → Q (.int .i64 (sretire p i B (p.ps - l.length) s l).1) h') :
    C Try.prog 24 #[.pointer (some ⟨b, 0, none⟩), .int .i64 (i : Int), .string B] h Q := by
  obtain ⟨r, ml, cc, wb⟩ := w.bk
  have := wb.len
  apply spare_Bank_retire.ok
  exact spare_Bank_retire.L1.c hi (p.ps - l.length) h s l (by omega) w hq

/-- Write as a whole. -/
noncomputable def sWrite (p : Pl) (l : List Nat) (s : PmS) (i : Int) (b : ByteArray) : Int × PmS × List Nat :=
  if b.size = 64 then (if 0 ≤ i ∧ i < p.pl then swrite p l s i.toNat b else (3, s, l)) else (2, s, l)
noncomputable def sWriteWord (p : Pl) (l : List Nat) (s : PmS) (i k : Int) (v : Nat) : Int × PmS × List Nat :=
  if 0 ≤ k ∧ k < 8 then (if 0 ≤ i ∧ i < p.pl then swritew p l s i.toNat k.toNat v else (3, s, l)) else (2, s, l)

theorem spare_Bank_Write.c {i : Int} {B : ByteArray} (w : DB F G h d b p s l)
    (hq : ∀ h', DB F G h' d b p (sWrite p l s i B).2.1 (sWrite p l s i B).2.2 → Step (FG F G) h (FG F G) h' → Q (.int .i64 (sWrite p l s i B).1) h') :
    C Try.prog 9 #[.pointer (some ⟨b, 0, none⟩), .int .i64 i, .string B] h Q := by
  obtain ⟨r, ml, cc, wb⟩ := w.bk
  apply spare_Bank_Write.ok
  unfold sWrite at hq
  refine spare_Bank_Where.c w.bk (fun h0 h1 => ⟨_, _, rfl, xsIf_f rfl ?_⟩) fun h0 => ⟨_, _, rfl, xsIf_f rfl ?_⟩
  · by_cases hb : B.size = 64
    · rw [if_pos hb, if_pos ⟨h0, h1⟩] at hq
      obtain ⟨i, rfl⟩ : ∃ k : Nat, i = k := ⟨i.toNat, by omega⟩
      rw [Int.toNat_natCast] at hq ⊢
      unfold swrite at hq
      refine xsIf_f (decide_eq_false (by omega)) (xsIf_f rfl ⟨b, 0, rfl, _, wb.c0, line_Put.c w.dv w.lf fun h1 w1 st1 => ⟨_, rfl, ?_⟩⟩)
      have db1 := w.dev w1 st1
      have wb1 := wb.keep (st1.same w.ap)
      refine xsIf_intro (fun e => ?_) fun e => ?_
      · have e := of_decide_eq_true e
        rw [if_neg e] at hq
        exact hq _ db1 st1.left
      · have e : (lnput s (whN p l i : Nat) B).1 = 0 := by simpa using e
        rw [if_pos e] at hq
        generalize (lnput s (whN p l i : Nat) B).2 = s1 at hq w1 db1
        refine ⟨b, 0, rfl, _, wb1.c0, line_Took.c w1 (fun t => ⟨_, rfl, xsIf_t rfl ?_⟩) fun t => ⟨_, rfl, xsIf_f rfl ?_⟩⟩
        · rw [if_pos (took_yes t)] at hq
          exact hq _ db1 st1.left
        · rw [if_neg (took_no t)] at hq
          exact spare_Bank_retire.c (by omega) db1 fun h2 db2 st2 => ⟨_, rfl, hq h2 db2 (st1.left.trans st2)⟩
    · rw [if_neg hb] at hq
      exact xsIf_t (decide_eq_true (by omega)) (hq h w (Step.refl _ _))
  · by_cases hb : B.size = 64
    · rw [if_pos hb, if_neg h0] at hq
      exact xsIf_f (decide_eq_false (by omega)) (xsIf_t rfl (hq h w (Step.refl _ _)))
    · rw [if_neg hb] at hq
      exact xsIf_t (decide_eq_true (by omega)) (hq h w (Step.refl _ _))

theorem lnget_size {a : Nat} (h0 : (lnget s (a : Int)).2 = 0) : (lnget s (a : Int)).1.size = 64 := by
  unfold lnget at h0 ⊢
  split
  · rename_i h; rw [if_pos h] at h0; cases h0
  · rename_i h
    rw [if_neg h] at h0
    split
    · exact lnbytes_size _
    · rename_i h2; rw [if_neg h2] at h0; cases h0

end
end Go.Gb
namespace Go.Gb
open Go.Proofs IntWalk

/-! ## gabionref05 over the same pure state -/

section
variable {h : Heap} {Q : Value → Heap → Prop} {a l s n : Int} {p : Pl}

end

section
variable {F : Nat → Prop} {h : Heap} {m : Nat} {s : PmS} {p : Pl} {l : List Nat} {Q : Value → Heap → Prop}

abbrev natsI (l : List Nat) : List Int := l.map fun (k : Nat) => (k : Int)

end
end Go.Gb
namespace Go.Gb
open Go.Proofs IntWalk

section
variable {F : Nat → Prop} {m : Nat} {p : Pl} {Q : Value → Heap → Prop}

/-- What lasts is these bytes. -/
theorem media_took {s : PmS} {a : Nat} {B : ByteArray} (ok : PmOk s) (ha : a < s.nl) (hb : B.size = 64) : (lnbytes (fun k => (s.media (8 * a + k)).toNat) = B) ↔ took s a B = true := by
  have hv : ∀ k, (s.media (8 * a + k)).toNat < 18446744073709551616 ∧ s.media (8 * a + k) = (((s.media (8 * a + k)).toNat : Nat) : Int) := fun k => by
    have := ok.media (8 * a + k); unfold R64 at this; omega
  have wx : ∀ k, k < 8 → wordAt (lnbytes fun k => (s.media (8 * a + k)).toNat) k = (s.media (8 * a + k)).toNat := fun k hk => wordAt_text hk (hv k).1
  have lt : lthere s (a : Int) = 0 := by unfold lthere; exact if_pos (by omega)
  constructor
  · intro e
    refine took_yes ⟨hb, lt, fun k hk => ?_⟩
    rw [Int.toNat_natCast, ← e, wx k hk]; exact (hv k).2
  · intro t
    have t : lntook s (a : Int) B := Classical.byContradiction fun n => took_no n t
    refine bytes_word_eq (lnbytes_size _) hb fun k hk => ?_
    rw [wx k hk]
    have h1 := t.2.2 k hk
    rw [Int.toNat_natCast] at h1
    have h2 := (hv k).2
    omega

variable {h : Heap} {s : PmS} {l : List Nat}

theorem ents_small (sp : SpI p s l) : ∀ x ∈ l, x < 1000000 := fun x hx => by
  obtain ⟨k, hk, rfl⟩ := List.getElem_of_mem hx
  have := (entsTo_some _ _ sp.en).2.2.2 k hk
  have hl := sp.ok.l2
  obtain ⟨h1, h2, _⟩ := this
  rw [List.getD_eq_getElem?_getD, List.getElem?_eq_getElem hk] at h1
  have h1 : l[k] = twd s p k % 281474976710656 := h1
  have := (of_decide_eq_true h2).2
  omega

theorem zero64_eq : (⟨(List.replicate 64 (0 : UInt8)).toArray⟩ : ByteArray) = zero64 := by
  unfold zero64
  have : ∀ n, List.replicate n (0 : UInt8) = Lib.repeatL [UInt8.ofNat 0] n := by
    intro n
    induction n with
    | zero => rfl
    | succ n ih => rw [List.replicate_succ, ih]; rfl
  rw [this]

end
end Go.Gb
namespace Go.Gb
open Go.Proofs IntWalk

/-! ## Mixed; LineMixes -/

def mixP (was is0 got : ByteArray) : Prop := was.size = 64 ∧ is0.size = 64 ∧ got.size = 64 ∧ ∀ k, k < 8 → wordAt got k = wordAt was k ∨ wordAt got k = wordAt is0 k

theorem sext_chunk (s : ByteArray) (k : Nat) : sext s ((8 * k : Nat) : Int) ((8 * k + 8 : Nat) : Int) = ⟨(chunk s.data.toList k).toArray⟩ := by
  unfold sext chunk
  apply ByteArray.ext
  rw [Int.toNat_natCast, Int.toNat_natCast, ByteArray.data_extract]
  apply Array.ext'
  rw [Array.toList_extract, List.extract_eq_take_drop, show 8 * k + 8 - 8 * k = 8 by omega]
theorem sext_word {s : ByteArray} {k : Nat} (hs : s.size = 64) (hk : k < 8) : sext s ((8 * k : Nat) : Int) ((8 * k + 8 : Nat) : Int) = ⟨(putL (wordAt s k) 8).toArray⟩ := by
  rw [sext_chunk, put_word s hs k hk]
theorem sext_eq {x y : ByteArray} {k : Nat} (hx : x.size = 64) (hy : y.size = 64) (hk : k < 8) : sext x ((8 * k : Nat) : Int) ((8 * k + 8 : Nat) : Int) = sext y ((8 * k : Nat) : Int) ((8 * k + 8 : Nat) : Int) ↔ wordAt x k = wordAt y k := by
  constructor
  · intro h
    rw [sext_chunk, sext_chunk] at h
    have h2 : (chunk x.data.toList k) = (chunk y.data.toList k) := by
      have := congrArg (fun b : ByteArray => b.data.toList) h
      simpa using this
    unfold wordAt; rw [h2]
  · intro h
    rw [sext_word hx hk, sext_word hy hk, h]

section
variable {h : Heap} {Q : Value → Heap → Prop} {was is0 got : ByteArray}

end

end Go.Gb
namespace Go.Gb
open Go.Proofs IntWalk

/-! ## What the lines of a bank read -/

def rdN (md : Nat → Int) (a : Nat) : ByteArray := lnbytes fun k => (md (8 * a + k)).toNat
def rd (p : Pl) (s : PmS) (l : List Nat) (j : Nat) : ByteArray := rdN s.media (whN p l j)

theorem rdN_congr {f g : Nat → Int} {a : Nat} (h : ∀ k, k < 8 → f (8 * a + k) = g (8 * a + k)) : rdN f a = rdN g a := by
  unfold rdN lnbytes
  rw [textN_congr 8]
  intro k hk
  rw [h k hk]
theorem rdN_size (f : Nat → Int) (a : Nat) : (rdN f a).size = 64 := lnbytes_size _
theorem rdN_eq {f : Nat → Int} {a : Nat} {B : ByteArray} (hB : B.size = 64) (h : ∀ k, k < 8 → f (8 * a + k) = ((wordAt B k : Nat) : Int)) : rdN f a = B := by
  refine Eq.trans ?_ (lnbytes_words B hB)
  unfold rdN lnbytes
  rw [textN_congr 8]
  intro k hk
  rw [h k hk]; omega

theorem wh_ne {p : Pl} {l : List Nat} {i j : Nat} (hi : i < p.pl) (hj : j < p.pl) (h : i ≠ j) : whN p l i ≠ whN p l j := by
  unfold whN
  cases ei : stands l i with
  | none =>
    cases ej : stands l j with
    | none => unfold ownN; dsimp only; omega
    | some k => unfold ownN sparN; dsimp only; omega
  | some k =>
    cases ej : stands l j with
    | none => unfold ownN sparN; dsimp only; omega
    | some k2 =>
      have h1 := (stN_lt _ ei).2
      have h2 := (stN_lt _ ej).2
      unfold sparN
      dsimp only
      intro e
      have : k = k2 := by omega
      subst this
      omega
theorem wh_spar {p : Pl} {l : List Nat} {j : Nat} (hj : j < p.pl) : whN p l j ≠ sparN p l.length := by
  unfold whN
  cases ej : stands l j with
  | none => unfold ownN sparN; dsimp only; omega
  | some k => have := (stN_lt _ ej).1; unfold sparN; dsimp only; omega
theorem wh_snoc {p : Pl} {l : List Nat} {x j : Nat} : whN p (l ++ [x]) j = if x = j + 1 then sparN p l.length else whN p l j := by
  unfold whN
  rw [stands_snoc]
  by_cases e : x = j + 1
  · simp only [if_pos e]
  · simp only [if_neg e]

/-- What a write comes to, by what the lines read. -/
def Out (p : Pl) (i : Nat) (B : ByteArray) (rd0 : Nat → ByteArray) (M : ByteArray → Prop) (r : Int × PmS × List Nat) : Prop :=
  (r.1 = 0 ∧ SpI p r.2.1 r.2.2 ∧ ∀ j, j < p.pl → rd p r.2.1 r.2.2 j = if j = i then B else rd0 j) ∨
  (r.1 = 10 ∧ SpI p r.2.1 r.2.2 ∧ ∀ j, j < p.pl → rd p r.2.1 r.2.2 j = rd0 j) ∨
  (r.1 = 6 ∧ r.2.1.off = true ∧ PmOk r.2.1 ∧ ∀ ks, ∃ l', SpI p (pboot r.2.1 ks) l' ∧ (∀ j, j < p.pl → j ≠ i → rd p (pboot r.2.1 ks) l' j = rd0 j) ∧ M (rd p (pboot r.2.1 ks) l' i))

section
variable {p : Pl} {s : PmS} {l : List Nat}

/-- A line that is put, as it reads. -/
theorem put_rd (o : On s) {a c : Nat} {B : ByteArray} (ha : a < s.nl) (hc : c < s.nl) (hB : B.size = 64) (h0 : (lnput s (a : Int) B).1 = 0) : rdN (lnput s (a : Int) B).2.media c = if c = a ∧ s.bad a = false then B else rdN s.media c := by
  obtain ⟨_, m⟩ := o.put0 ha hB h0
  by_cases e : c = a ∧ s.bad a = false
  · rw [if_pos e]
    refine rdN_eq hB fun k hk => ?_
    rw [m _ (by omega), if_pos ⟨by omega, e.2⟩, show (8 * c + k) % 8 = k by omega]
  · rw [if_neg e]
    refine rdN_congr fun k hk => ?_
    rw [m _ (by omega), if_neg (fun h => e ⟨by omega, h.2⟩)]
theorem put_boot_rd (o : On s) {a c : Nat} {B : ByteArray} (ha : a < s.nl) (hc : c < s.nl) (hne : c ≠ a) (hB : B.size = 64) (h0 : (lnput s (a : Int) B).1 ≠ 0) (ks : List Bool) : rdN (pboot (lnput s (a : Int) B).2 ks).media c = rdN s.media c := by
  obtain ⟨_, _, h⟩ := o.put6 ha hB h0
  obtain ⟨_, m⟩ := h ks
  refine rdN_congr fun k hk => ?_
  rcases m (8 * c + k) (by omega) with h | h
  · exact h
  · omega
theorem putw_rd (o : On s) {a k0 c : Nat} {v : Int} (ha : a < s.nl) (hk0 : k0 < 8) (hc : c < s.nl) (hne : c ≠ a) (h0 : (lnputw s (a : Int) (k0 : Int) v).1 = 0) : rdN (lnputw s (a : Int) (k0 : Int) v).2.media c = rdN s.media c := by
  obtain ⟨_, m⟩ := o.putw0 ha hk0 h0
  refine rdN_congr fun k hk => ?_
  rw [m _ (by omega), if_neg (fun h => by omega)]
theorem putw_boot_rd (o : On s) {a k0 c : Nat} {v : Int} (ha : a < s.nl) (hk0 : k0 < 8) (hc : c < s.nl) (hne : c ≠ a) (h0 : (lnputw s (a : Int) (k0 : Int) v).1 ≠ 0) (ks : List Bool) : rdN (pboot (lnputw s (a : Int) (k0 : Int) v).2 ks).media c = rdN s.media c := by
  obtain ⟨_, _, h⟩ := o.putw6 ha hk0 h0
  obtain ⟨_, m⟩ := h ks
  refine rdN_congr fun k hk => ?_
  rcases m (8 * c + k) (by omega) with h | h
  · exact h
  · omega

/-- A line that didn't take it is as it was. -/
theorem not_took (o : On s) (ok : PmOk s) {a : Nat} {B : ByteArray} (ha : a < s.nl) (hB : B.size = 64) (h0 : (lnput s (a : Int) B).1 = 0) (ht : ¬ took (lnput s (a : Int) B).2 a B = true) : s.bad a = true := by
  cases e : s.bad a with
  | true => rfl
  | false =>
    have h := put_rd o ha ha hB h0
    rw [if_pos ⟨rfl, e⟩] at h
    exact absurd ((media_took (ok.put _ _) (by rw [lnput_nl]; exact ha) hB).1 h) ht

theorem retire_out {i : Nat} {B : ByteArray} {rd0 : Nat → ByteArray} (hi : i < p.pl) (hB : B.size = 64) : ∀ (m : Nat) (s : PmS) (l : List Nat), l.length + m = p.ps → SpI p s l → (∀ j, j < p.pl → rd p s l j = rd0 j) →
    Out p i B rd0 (fun x => x = rd0 i ∨ x = B) (sretire p i B m s l)
  | 0, s, l, _, w, h => .inr (.inl ⟨rfl, w, h⟩)
  | m + 1, s, l, hm, w, hr => by
    have hll : l.length < p.ps := by omega
    obtain ⟨f1, f2⟩ := spar_fit w.ok hll
    have wl : ∀ {j}, j < p.pl → whN p l j < s.nl ∧ p.pa + tblN p ≤ whN p l j := fun hj => whN_lt w.ok w.len hj
    unfold sretire
    by_cases h0 : (lnput s (sparN p l.length : Nat) B).1 = 0
    · rw [if_pos h0]
      have w1 := w.put f2 f1 hB h0
      have r1 : ∀ j, j < p.pl → rd p (lnput s (sparN p l.length : Nat) B).2 l j = rd0 j := fun j hj => by
        unfold rd
        rw [put_rd w.on f1 (wl hj).1 hB h0, if_neg (fun h => wh_spar hj h.1)]
        exact hr j hj
      have nl1 := lnput_nl s (sparN p l.length : Nat) B
      generalize (lnput s (sparN p l.length : Nat) B).2 = s1 at w1 nl1 r1
      obtain ⟨g1, g2, g3, g4⟩ := say_at w1.ok hll
      have h8 : l.length % 8 < 8 := Nat.mod_lt _ (by omega)
      have far : ∀ {c}, p.pa + tblN p ≤ c → c ≠ p.pa + l.length / 8 := fun h e => by omega
      by_cases ht : took s1 (sparN p l.length) B = true
      · rw [if_pos ht]
        have hx : i + 1 = 65535 ∨ (1 ≤ i + 1 ∧ i + 1 ≤ p.pl) := .inr ⟨by omega, by omega⟩
        have hsp : rdN s1.media (sparN p l.length) = B := (media_took w1.w (by omega) hB).2 ht
        by_cases h2 : (lnputw s1 (p.pa + l.length / 8 : Nat) (l.length % 8 : Nat) (guardN (i + 1) : Nat)).1 = 0
        · rw [if_pos h2]
          refine .inl ⟨h2, w1.say hx hll h2, fun j hj => ?_⟩
          unfold rd
          rw [wh_snoc]
          by_cases e : j = i
          · rw [if_pos (by omega), if_pos e, putw_rd w1.on g1 h8 (by omega) (far f2) h2]; exact hsp
          · rw [if_neg (by omega), if_neg e, putw_rd w1.on g1 h8 (by rw [nl1]; exact (wl hj).1) (far (wl hj).2) h2]; exact r1 j hj
        · have h6 := w1.on.putw6 g1 h8 h2
          have hlt := guardN_lt (i + 1)
          refine .inr (.inr ⟨h6.1, h6.2.1, w1.w.putw _ _ ⟨by omega, by omega⟩, fun ks => ?_⟩)
          rcases w1.boot_say hx hll h2 ks with hs | hs
          · refine ⟨l, hs, fun j hj _ => ?_, .inl ?_⟩
            · unfold rd
              rw [putw_boot_rd w1.on g1 h8 (by rw [nl1]; exact (wl hj).1) (far (wl hj).2) h2]; exact r1 j hj
            · unfold rd
              rw [putw_boot_rd w1.on g1 h8 (by rw [nl1]; exact (wl hi).1) (far (wl hi).2) h2]; exact r1 i hi
          · refine ⟨_, hs, fun j hj hne => ?_, .inr ?_⟩
            · show rdN (pboot (lnputw s1 (p.pa + l.length / 8 : Nat) (l.length % 8 : Nat) (guardN (i + 1) : Nat)).2 ks).media (whN p (l ++ [i + 1]) j) = _
              rw [wh_snoc, if_neg (by omega), putw_boot_rd w1.on g1 h8 (by rw [nl1]; exact (wl hj).1) (far (wl hj).2) h2]; exact r1 j hj
            · show rdN (pboot (lnputw s1 (p.pa + l.length / 8 : Nat) (l.length % 8 : Nat) (guardN (i + 1) : Nat)).2 ks).media (whN p (l ++ [i + 1]) i) = _
              rw [wh_snoc, if_pos rfl, putw_boot_rd w1.on g1 h8 (by omega) (far f2) h2]; exact hsp
      · rw [if_neg ht]
        have hx : (65535 : Nat) = 65535 ∨ (1 ≤ (65535 : Nat) ∧ (65535 : Nat) ≤ p.pl) := .inl rfl
        have pl2 := w.ok.l2
        by_cases h2 : (lnputw s1 (p.pa + l.length / 8 : Nat) (l.length % 8 : Nat) (guardN 65535 : Nat)).1 = 0
        · rw [if_pos h2]
          refine retire_out hi hB m _ (l ++ [65535]) (by simp; omega) (w1.say hx hll h2) fun j hj => ?_
          unfold rd
          rw [wh_snoc, if_neg (by omega), putw_rd w1.on g1 h8 (by rw [nl1]; exact (wl hj).1) (far (wl hj).2) h2]; exact r1 j hj
        · rw [if_neg h2]
          have h6 := w1.on.putw6 g1 h8 h2
          have hlt := guardN_lt 65535
          refine .inr (.inr ⟨h6.1, h6.2.1, w1.w.putw _ _ ⟨by omega, by omega⟩, fun ks => ?_⟩)
          have both : ∀ j, j < p.pl → rdN (pboot (lnputw s1 (p.pa + l.length / 8 : Nat) (l.length % 8 : Nat) (guardN 65535 : Nat)).2 ks).media (whN p l j) = rd0 j := fun j hj => by
            rw [putw_boot_rd w1.on g1 h8 (by rw [nl1]; exact (wl hj).1) (far (wl hj).2) h2]; exact r1 j hj
          rcases w1.boot_say hx hll h2 ks with hs | hs
          · exact ⟨l, hs, fun j hj _ => both j hj, .inl (both i hi)⟩
          · refine ⟨_, hs, fun j hj _ => ?_, .inl ?_⟩
            · show rdN _ (whN p (l ++ [65535]) j) = _
              rw [wh_snoc, if_neg (by omega)]; exact both j hj
            · show rdN _ (whN p (l ++ [65535]) i) = _
              rw [wh_snoc, if_neg (by omega)]; exact both i hi
    · rw [if_neg h0]
      have h6 := w.on.put6 f1 hB h0
      refine .inr (.inr ⟨h6.1, h6.2.1, w.w.put _ _, fun ks => ⟨l, w.boot_put f2 f1 hB h0 ks, fun j hj _ => ?_, .inl ?_⟩⟩)
      · unfold rd
        rw [put_boot_rd w.on f1 (wl hj).1 (wh_spar hj) hB h0]; exact hr j hj
      · unfold rd
        rw [put_boot_rd w.on f1 (wl hi).1 (wh_spar hi) hB h0]; exact hr i hi

theorem Out.weaken {i : Nat} {B : ByteArray} {rd0 : Nat → ByteArray} {M M' : ByteArray → Prop} {r : Int × PmS × List Nat} (o : Out p i B rd0 M r) (h : ∀ x, M x → M' x) : Out p i B rd0 M' r := by
  rcases o with o | o | ⟨a, b, c, d⟩
  · exact .inl o
  · exact .inr (.inl o)
  · refine .inr (.inr ⟨a, b, c, fun ks => ?_⟩)
    obtain ⟨l', x, y, z⟩ := d ks
    exact ⟨l', x, y, h _ z⟩

theorem swrite_out (w : SpI p s l) {i : Nat} {B : ByteArray} (hi : i < p.pl) (hB : B.size = 64) : Out p i B (rd p s l) (fun x => mixP (rd p s l i) B x) (swrite p l s i B) := by
  have wl : ∀ {j}, j < p.pl → whN p l j < s.nl ∧ p.pa + tblN p ≤ whN p l j := fun hj => whN_lt w.ok w.len hj
  obtain ⟨f1, f2⟩ := wl hi
  have hlen := w.len
  have mixr : ∀ x, x = rd p s l i ∨ x = B → mixP (rd p s l i) B x := fun x hx => by
    rcases hx with rfl | rfl
    · exact ⟨rdN_size _ _, hB, rdN_size _ _, fun k _ => .inl rfl⟩
    · exact ⟨rdN_size _ _, hB, hB, fun k _ => .inr rfl⟩
  unfold swrite
  by_cases h0 : (lnput s (whN p l i : Nat) B).1 = 0
  · rw [if_pos h0]
    have w1 := w.put f2 f1 hB h0
    by_cases ht : took (lnput s (whN p l i : Nat) B).2 (whN p l i) B = true
    · rw [if_pos ht]
      refine .inl ⟨rfl, w1, fun j hj => ?_⟩
      by_cases e : j = i
      · rw [if_pos e, e]
        exact (media_took w1.w (by rw [lnput_nl]; exact f1) hB).2 ht
      · rw [if_neg e]
        unfold rd
        rw [put_rd w.on f1 (wl hj).1 hB h0, if_neg (fun h => wh_ne hj hi e h.1)]
    · rw [if_neg ht]
      have hbad := not_took w.on w.w f1 hB h0 ht
      refine (retire_out hi hB (p.ps - l.length) _ l (by omega) w1 fun j hj => ?_).weaken mixr
      unfold rd
      rw [put_rd w.on f1 (wl hj).1 hB h0, if_neg (fun h => by rw [hbad] at h; cases h.2)]
  · rw [if_neg h0]
    have h6 := w.on.put6 f1 hB h0
    refine .inr (.inr ⟨h6.1, h6.2.1, w.w.put _ _, fun ks => ⟨l, w.boot_put f2 f1 hB h0 ks, fun j hj hne => ?_, ?_⟩⟩)
    · unfold rd
      rw [put_boot_rd w.on f1 (wl hj).1 (wh_ne hj hi hne) hB h0]
    · obtain ⟨o, m⟩ := h6.2.2 ks
      have ok6 := (w.w.put (whN p l i : Nat) B).boot ks
      have hv : ∀ w', ((pboot (lnput s (whN p l i : Nat) B).2 ks).media w').toNat < 18446744073709551616 ∧ 0 ≤ (pboot (lnput s (whN p l i : Nat) B).2 ks).media w' := fun w' => by
        have := ok6.media w'; unfold R64 at this; omega
      have hv0 : ∀ w', (s.media w').toNat < 18446744073709551616 := fun w' => by have := w.w.media w'; unfold R64 at this; omega
      refine ⟨rdN_size _ _, hB, rdN_size _ _, fun k hk => ?_⟩
      unfold rd rdN
      rw [wordAt_text hk (hv _).1, wordAt_text hk (hv0 _)]
      rcases m (8 * whN p l i + k) (by omega) with h | ⟨_, _, h⟩
      · left; rw [h]
      · right; rw [h, show (8 * whN p l i + k) % 8 = k by omega]; omega

theorem swritew_out (w : SpI p s l) {i k v : Nat} (hi : i < p.pl) (hk : k < 8) (hv : v < 18446744073709551616) : Out p i (withW (rd p s l i) k v) (rd p s l) (fun x => x = rd p s l i ∨ x = withW (rd p s l i) k v) (swritew p l s i k v) := by
  have wl : ∀ {j}, j < p.pl → whN p l j < s.nl ∧ p.pa + tblN p ≤ whN p l j := fun hj => whN_lt w.ok w.len hj
  obtain ⟨f1, f2⟩ := wl hi
  have hlen := w.len
  have hr : R64 ((v : Nat) : Int) := ⟨by omega, by omega⟩
  have hB := withW_size (rd p s l i) k v
  unfold swritew
  rw [lnget_on w.on f1, if_pos rfl]
  show Out p i (withW (rd p s l i) k v) (rd p s l) _ (if (lnputw s (whN p l i : Nat) (k : Nat) (v : Nat)).1 = 0 then
      (if took (lnputw s (whN p l i : Nat) (k : Nat) (v : Nat)).2 (whN p l i) (withW (rd p s l i) k v) = true then (0, (lnputw s (whN p l i : Nat) (k : Nat) (v : Nat)).2, l)
        else sretire p i (withW (rd p s l i) k v) (p.ps - l.length) (lnputw s (whN p l i : Nat) (k : Nat) (v : Nat)).2 l)
    else ((lnputw s (whN p l i : Nat) (k : Nat) (v : Nat)).1, (lnputw s (whN p l i : Nat) (k : Nat) (v : Nat)).2, l))
  have hv0 : ∀ w', (s.media w').toNat < 18446744073709551616 ∧ s.media w' = (((s.media w').toNat : Nat) : Int) := fun w' => by have := w.w.media w'; unfold R64 at this; omega
  have wd : ∀ j, j < 8 → wordAt (rd p s l i) j = (s.media (8 * whN p l i + j)).toNat := fun j hj => wordAt_text hj (hv0 _).1
  have wb : ∀ j, j < 8 → wordAt (withW (rd p s l i) k v) j = if j = k then v else wordAt (rd p s l i) j := fun j hj => wordAt_text hj (by split; exact hv; exact wordAt_lt _ _)
  by_cases h0 : (lnputw s (whN p l i : Nat) (k : Nat) (v : Nat)).1 = 0
  · rw [if_pos h0]
    have w1 := w.putw f2 f1 hk hr h0
    obtain ⟨o, m⟩ := w.on.putw0 f1 hk h0
    by_cases ht : took (lnputw s (whN p l i : Nat) (k : Nat) (v : Nat)).2 (whN p l i) (withW (rd p s l i) k v) = true
    · rw [if_pos ht]
      refine .inl ⟨rfl, w1, fun j hj => ?_⟩
      by_cases e : j = i
      · rw [if_pos e, e]
        exact (media_took w1.w (by rw [lnputw_nl]; exact f1) hB).2 ht
      · rw [if_neg e]
        unfold rd
        rw [putw_rd w.on f1 hk (wl hj).1 (wh_ne hj hi e) h0]
    · rw [if_neg ht]
      have hbad : s.bad (whN p l i) = true := by
        cases e : s.bad (whN p l i) with
        | true => rfl
        | false =>
          refine absurd ((media_took w1.w (by rw [lnputw_nl]; exact f1) hB).1 ?_) ht
          refine rdN_eq hB fun j hj => ?_
          rw [m _ (by omega), wb j hj]
          by_cases ej : j = k
          · rw [if_pos ⟨by omega, e⟩, if_pos ej]
          · rw [if_neg (fun h => by omega), if_neg ej, wd j hj]; exact (hv0 _).2
      refine retire_out hi hB (p.ps - l.length) _ l (by omega) w1 fun j hj => ?_
      unfold rd
      refine rdN_congr fun q hq => ?_
      have := (wl hj).1
      rw [m _ (by omega), if_neg (fun h => by rw [hbad] at h; cases h.2)]
  · rw [if_neg h0]
    have h6 := w.on.putw6 f1 hk h0
    refine .inr (.inr ⟨h6.1, h6.2.1, w.w.putw _ _ hr, fun ks => ⟨l, w.boot_putw f2 f1 hk hr h0 ks, fun j hj hne => ?_, ?_⟩⟩)
    · unfold rd
      rw [putw_boot_rd w.on f1 hk (wl hj).1 (wh_ne hj hi hne) h0]
    · obtain ⟨o, m⟩ := h6.2.2 ks
      have hk8 := m (8 * whN p l i + k) (by omega)
      have oth : ∀ j, j < 8 → j ≠ k → (pboot (lnputw s (whN p l i : Nat) (k : Nat) (v : Nat)).2 ks).media (8 * whN p l i + j) = s.media (8 * whN p l i + j) := fun j hj hne => by
        rcases m (8 * whN p l i + j) (by omega) with h | ⟨h, _⟩
        · exact h
        · omega
      rcases hk8 with h | ⟨_, _, h⟩
      · left
        unfold rd
        refine rdN_congr fun j hj => ?_
        by_cases ej : j = k
        · rw [ej]; exact h
        · exact oth j hj ej
      · right
        refine rdN_eq hB fun j hj => ?_
        rw [wb j hj]
        by_cases ej : j = k
        · rw [if_pos ej, ej]; exact h
        · rw [if_neg ej, wd j hj, oth j hj ej]; exact (hv0 _).2
end
end Go.Gb
namespace Go.Gb
open Go.Proofs IntWalk

/-! ## gabionlaw05: a new bank; wakes -/

theorem getL_zero : ∀ n, getL (List.replicate n (0 : UInt8)) = 0
  | 0 => rfl
  | n + 1 => by rw [List.replicate_succ]; show (0 : UInt8).toNat + 256 * getL (List.replicate n 0) = 0; rw [getL_zero n]; rfl
theorem zero64_list : zero64.data.toList = List.replicate 64 (0 : UInt8) := by
  unfold zero64
  have : ∀ n, List.replicate n (0 : UInt8) = Lib.repeatL [UInt8.ofNat 0] n := by
    intro n
    induction n with
    | zero => rfl
    | succ n ih => rw [List.replicate_succ, ih]; rfl
  rw [this 64]
theorem zero64_word (k : Nat) : wordAt zero64 k = 0 := by
  unfold wordAt chunk
  rw [zero64_list, List.drop_replicate, List.take_replicate]
  exact getL_zero _

theorem sfmt_clean {p : Pl} : ∀ (j k : Nat) (s : PmS), Cl s → (∀ w, w < 8 * s.nl → s.media w = 0) → p.pa + k + j ≤ s.nl → s.count + 10 * j < 900000000 → PmOk s →
    ∃ s', sfmt p zero64 j k s = (0, s') ∧ Cl s' ∧ (∀ w, w < 8 * s.nl → s'.media w = 0) ∧ s'.nl = s.nl ∧ s'.bad = s.bad ∧ s'.count = s.count + 10 * j ∧ PmOk s'
  | 0, k, s, c, m, _, _, o => ⟨s, rfl, c, m, rfl, rfl, by omega, o⟩
  | j + 1, k, s, c, m, hf, hc, o => by
    have c0 := c.c0
    obtain ⟨s1, e1, c1, n1, b1, k1, m1⟩ := lnput_clean (b := zero64) c (show p.pa + k < s.nl by omega) zero64_size
    have o1 : PmOk s1 := by have := o.put (p.pa + k : Nat) zero64; rw [e1] at this; exact this
    have hm1 : ∀ w, w < 8 * s.nl → s1.media w = 0 := fun w hw => by
      rw [m1 w hw]
      split
      · rw [zero64_word]; rfl
      · exact m w hw
    obtain ⟨s2, e2, c2, m2, n2, b2, k2, o2⟩ := sfmt_clean (p := p) j (k + 1) s1 (c1.of (by omega) (by omega)) (by rw [n1]; exact hm1) (by rw [n1]; omega) (by omega) o1
    refine ⟨s2, ?_, c2, by rw [← n1]; exact m2, n2.trans n1, b2.trans b1, by omega, o2⟩
    unfold sfmt
    rw [e1, if_pos rfl]; exact e2

theorem Cl.on {s : PmS} (c : Cl s) : On s := ⟨c.off, by rw [c.fuse]; exact Int.le_refl _, c.buf⟩

/-- A new bank on a new device. -/
theorem sformat_new {p : Pl} {n : Nat} (ok : PlOk p n) : ∃ s, sformat p (pnew n) = (0, s) ∧ Cl s ∧ SpI p s [] ∧ s.nl = n ∧ s.bad = (fun _ => false) ∧ (∀ w, w < 8 * n → s.media w = 0) ∧ s.count ≤ 20000 := by
  have fit := ok.fit
  have l2 := ok.l2
  have ht := tblN_le ok.b
  unfold sizeN at fit
  obtain ⟨s, e, c, m, n1, b, k, o⟩ := sfmt_clean (p := p) (tblN p + p.pl) 0 (pnew n) (Cl.new n) (fun _ _ => rfl) (by show p.pa + 0 + (tblN p + p.pl) ≤ n; omega) (by show (0 : Int) + _ < _; omega) (PmOk.new n)
  have n1 : s.nl = n := n1
  have m : ∀ w, w < 8 * n → s.media w = 0 := m
  have k : s.count = 0 + 10 * ((tblN p + p.pl : Nat) : Int) := k
  refine ⟨s, e, c, ⟨ok.of n1, c.on, ?_, fun _ _ _ => by rw [b]; rfl, o⟩, n1, b, m, by omega⟩
  unfold sents
  refine entsTo_zeros (c := 0) rfl p.ps (Nat.zero_le _) fun j _ hj => ?_
  unfold twd
  have f := (tbl_fit ok hj).1
  rw [c.on.val (by rw [n1]; exact f), m _ f]; rfl

theorem gabionlaw05_full.c {s : ByteArray} {h : Heap} {Q : Value → Heap → Prop} (hs : s.size ≤ 140737488351232) (hq : Q (.string (fullB s)) h) : C Try.prog 10 #[.string s] h Q := by
  apply gabionlaw05_full.ok
  refine strings_Repeat.c (c := 64) (by omega) (by show 1 ≤ 1000000; omega) ⟨_, rfl, ?_, ?_, hq⟩
  · show ((s.size + zero64.size : Nat) : Int) ≤ _
    rw [zero64_size]; omega
  · show (0 : Int) ≤ 64 ∧ (64 : Int) ≤ ((s ++ zero64).size : Int)
    rw [ByteArray.size_append, zero64_size]; omega

abbrev pw : Pl := ⟨0, 4, 2⟩
theorem pw_ok : PlOk pw 7 := ⟨by decide, by decide, by decide, by decide, by decide⟩

theorem wakes_write {s : PmS} {B : ByteArray} (c : Cl s) (o : PmOk s) (nl : s.nl = 7) (b1 : s.bad 1 = true) (b0 : s.bad 0 = false) (b5 : s.bad 5 = false) (m : ∀ w, w < 56 → s.media w = 0) (hc : s.count ≤ 30000) (hB : B.size = 64) (hw : wordAt B 0 ≠ 0) :
    ∃ s', sWrite pw [] s 0 B = (0, s', [1]) ∧ On s' ∧ PmOk s' ∧ s'.nl = 7 ∧ lnget s' ((5 : Nat) : Int) = (B, 0) := by
  have c0 := c.c0
  obtain ⟨s1, e1, cl1, n1, bb1, k1, m1⟩ := lnput_clean (b := B) c (show 1 < s.nl by omega) hB
  have cl1 := cl1.of (by omega) (by omega)
  have o1 : PmOk s1 := by have := o.put (1 : Nat) B; rw [e1] at this; exact this
  obtain ⟨s2, e2, cl2, n2, bb2, k2, m2⟩ := lnput_clean (b := B) cl1 (show 5 < s1.nl by omega) hB
  have cl2 := cl2.of (by omega) (by omega)
  have o2 : PmOk s2 := by have := o1.put (5 : Nat) B; rw [e2] at this; exact this
  have g1 := guardN_lt 1
  obtain ⟨s3, e3, cl3, n3, bb3, k3, m3⟩ := lnputw_clean (v := ((guardN 1 : Nat) : Int)) cl2 (show 0 < s2.nl by omega) (show 0 < 8 by omega)
  have cl3 := cl3.of (by omega) (by omega)
  have o3 : PmOk s3 := by have := o2.putw (0 : Nat) (0 : Nat) (v := ((guardN 1 : Nat) : Int)) ⟨by omega, by omega⟩; rw [e3] at this; exact this
  have t1 : ¬ took s1 1 B = true := took_no fun t => by
    have h1 := t.2.2 0 (by omega)
    rw [show 8 * ((1 : Nat) : Int).toNat + 0 = 8 from rfl, m1 8 (by omega), if_neg (fun h => by rw [b1] at h; cases h.2), m 8 (by omega)] at h1
    omega
  have hm2 : ∀ k, k < 8 → s2.media (8 * 5 + k) = ((wordAt B k : Nat) : Int) := fun k hk => by
    rw [m2 _ (by omega), if_pos ⟨by omega, by rw [bb1]; exact b5⟩, show (8 * 5 + k) % 8 = k by omega]
  have t2 : took s2 5 B = true := took_yes ⟨hB, by unfold lthere; exact if_pos (by omega), fun k hk => hm2 k hk⟩
  refine ⟨s3, ?_, cl3.on, o3, by omega, lnget_clean cl3 o3 (by omega) hB fun k hk => by rw [m3 _ (by omega), if_neg (fun h => by omega)]; exact hm2 k hk⟩
  unfold sWrite
  rw [if_pos hB, if_pos ⟨by omega, by show (0 : Int) < 4; omega⟩]
  show swrite pw [] s 0 B = _
  unfold swrite
  have ew : whN pw [] 0 = 1 := rfl
  rw [ew, e1, if_pos rfl, if_neg t1]
  show sretire pw 0 B 2 s1 [] = _
  unfold sretire
  have es : sparN pw ([] : List Nat).length = 5 := rfl
  rw [es, e2, if_pos rfl, if_pos t2]
  show ((lnputw s2 ((0 : Nat) : Int) ((0 : Nat) : Int) (guardN (0 + 1) : Nat)).1, (lnputw s2 ((0 : Nat) : Int) ((0 : Nat) : Int) (guardN (0 + 1) : Nat)).2, if (lnputw s2 ((0 : Nat) : Int) ((0 : Nat) : Int) (guardN (0 + 1) : Nat)).1 = 0 then [] ++ [0 + 1] else []) = _
  rw [e3]; rfl

theorem gabionlaw05_wakes.c {h : Heap} {Q : Value → Heap → Prop} (hq : ∀ h', Part h h' → Q (.bool true) h') : C Try.prog 6 #[] h Q := by
  apply gabionlaw05_wakes.ok
  obtain ⟨s1, e1, c1, i1, n1, b1, m1, k1⟩ := sformat_new pw_ok
  refine pm_New.c (n := 7) (by omega) (by omega) fun d F h1 w1 fr lv1 p1 => ⟨_, _, rfl, ?_⟩
  refine spare_Format.c (p := pw) w1 lv1 pw_ok fun h2 w2 st2 => ⟨_, rfl, ?_⟩
  rw [e1] at w2 ⊢
  have lv2 := st2.dom lv1
  have P2 : Part h h2 := st2.part p1 fun k hk hf => hk (fr k hf)
  refine spare_Open.c (p := pw) w2 lv2 i1 fun b G h3 wb w3 frG lf lg p3 => ⟨_, _, rfl, xsIf_f rfl (xsIf_f rfl (xsIf_f rfl (spare_Plan_Size.c ⟨_, rfl, xsIf_f (by decide) ?_⟩)))⟩
  have P3 := P2.trans p3
  have ap : Apart F G := fun k hg hf => lv2 k hf (frG k hg)
  have db3 : DB F G h3 d b pw s1 [] := ⟨w3, wb, lf, lg, ap⟩
  apply gabionlaw05_wakes.J7.ok
  refine pm_Device_Break.c w3 fun h4 w4 st4 => ?_
  rw [if_pos (show (0 : Int) ≤ 1 ∧ (1 : Int) < (s1.nl : Int) by omega)] at w4
  have db4 := db3.dev w4 st4
  obtain ⟨s2, hs2⟩ : ∃ s2 : PmS, s2 = { s1 with bad := fset s1.bad (Int.toNat 1) true } := ⟨_, rfl⟩
  rw [← hs2] at db4
  have fs := fullB_size ⟨#[UInt8.ofNat 97, UInt8.ofNat 98, UInt8.ofNat 99]⟩
  have w0 := abc_word
  refine gabionlaw05_full.c (by show 3 ≤ _; omega) ⟨_, rfl, ?_⟩
  obtain ⟨s3, e3, on3, o3, n3, g3⟩ := wakes_write (s := s2) (B := fullB ⟨#[UInt8.ofNat 97, UInt8.ofNat 98, UInt8.ofNat 99]⟩) (by rw [hs2]; exact ⟨c1.off, c1.fuse, c1.buf, c1.c0, c1.c1⟩) (by rw [hs2]; exact i1.w.of rfl rfl) (by rw [hs2]; exact n1) (by rw [hs2]; rfl) (by rw [hs2]; show fset s1.bad 1 true 0 = false; rw [b1]; rfl)
    (by rw [hs2]; show fset s1.bad 1 true 5 = false; rw [b1]; rfl) (by rw [hs2]; exact m1) (by rw [hs2]; show s1.count ≤ _; omega) fs w0
  refine spare_Bank_Write.c db4 fun h5 db5 st5 => ⟨_, rfl, ?_⟩
  rw [e3] at db5 ⊢
  have g3' : lnget s3 ((whN pw [1] (0 : Int).toNat : Nat) : Int) = (fullB ⟨#[UInt8.ofNat 97, UInt8.ofNat 98, UInt8.ofNat 99]⟩, 0) := g3
  refine spare_Bank_Where.c db5.bk (fun _ _ => ⟨_, _, rfl, ?_⟩) fun h => absurd ⟨by omega, by show (0 : Int) < 4; omega⟩ h
  refine spare_Bank_Read.c db5 o3 (fun _ _ => ⟨_, _, rfl, ?_⟩) fun h => absurd ⟨by omega, by show (0 : Int) < 4; omega⟩ h
  rw [g3']
  refine xsIf_t rfl (xsIf_t rfl (xsIf_t rfl (xsIf_t rfl (gabionlaw05_full.c (by show 3 ≤ _; omega) ⟨_, rfl, xsIf_t (decide_eq_true rfl) (spare_Bank_Left.c db5.bk ⟨_, rfl, xsIf_t rfl (spare_Bank_Lines.c db5.bk ⟨_, rfl, ?_⟩)⟩)⟩))))
  have P4 : Part h h4 := st4.part P3 fun k hk hf => hk (fr k hf)
  refine hq h5 (st5.part P4 fun k hk hf => ?_)
  rcases hf with hf | hg
  · exact hk (fr k hf)
  · have h2n := frG k hg
    cases e : h k with
    | none => exact hk e
    | some o => rw [P2 k o e] at h2n; cases h2n
end Go.Gb
namespace Go.Gb
open Go.Proofs IntWalk

/-! ## SparePlays: both devices and the bank -/

/-- Between two acts: on, and the bank agrees; or the power failed. -/
def StB (p : Pl) (s : PmS) (l : List Nat) : Prop := SpI p s l ∨ (s.off = true ∧ PmOk s ∧ ∀ ks, ∃ l', SpI p (pboot s ks) l')

theorem StB.ok {p : Pl} {s : PmS} {l : List Nat} (t : StB p s l) : PmOk s := by
  rcases t with t | t
  · exact t.w
  · exact t.2.1
theorem Res.st {p : Pl} {n : Nat} {r : Int × PmS × List Nat} (t : Res p n r) : StB p r.2.1 r.2.2 := by
  rcases t.2 with h | h
  · exact .inl h.2
  · exact .inr h.2

theorem sWrite_st {p : Pl} {s : PmS} {l : List Nat} (w : SpI p s l) (i : Int) (B : ByteArray) : StB p (sWrite p l s i B).2.1 (sWrite p l s i B).2.2 ∧ (sWrite p l s i B).2.1.nl = s.nl := by
  unfold sWrite
  split
  · rename_i hb
    split
    · rename_i hi
      have := swrite_res w (i := i.toNat) (by omega) hb
      exact ⟨this.st, this.1⟩
    · exact ⟨.inl w, rfl⟩
  · exact ⟨.inl w, rfl⟩
theorem sWriteWord_st {p : Pl} {s : PmS} {l : List Nat} (w : SpI p s l) (i k : Int) {v : Nat} (hv : v < 18446744073709551616) : StB p (sWriteWord p l s i k v).2.1 (sWriteWord p l s i k v).2.2 ∧ (sWriteWord p l s i k v).2.1.nl = s.nl := by
  unfold sWriteWord
  split
  · split
    · have := swritew_res w (i := i.toNat) (k := k.toNat) (by omega) (by omega) hv
      exact ⟨this.st, this.1⟩
    · exact ⟨.inl w, rfl⟩
  · exact ⟨.inl w, rfl⟩

structure Tr (h0 h : Heap) (F G M : Nat → Prop) (d b m : Nat) (p : Pl) (s : PmS) (l : List Nat) : Prop where
  db : DB F G h d b p s l
  rf : RfD M h m s
  lm : Live M h
  ap : Apart (FG F G) M
  pt : Part h0 h
  ff : ∀ k, h0 k ≠ none → ¬ FG F G k
  fm : ∀ k, h0 k ≠ none → ¬ M k

section
variable {h0 h h1 h2 : Heap} {F G M : Nat → Prop} {d b m : Nat} {p : Pl} {s s' : PmS} {l l' : List Nat} {Q : Value → Heap → Prop}

theorem Tr.next (i : Tr h0 h F G M d b m p s l) (w1 : DB F G h1 d b p s' l') (st1 : Step (FG F G) h (FG F G) h1) (w2 : RfD M h2 m s') (st2 : Step M h1 M h2) : Tr h0 h2 F G M d b m p s' l' := by
  have e : ∀ k, FG F G k → h1 k ≠ none → h2 k = h1 k := st2.same i.ap.symm
  exact ⟨⟨w1.dv.keep fun k hk => e k (.inl hk), w1.bk.keep fun k hk => e k (.inr hk), st2.alive w1.lf, st2.alive w1.lg, w1.ap⟩, w2, st2.dom (st1.alive i.lm), i.ap, st2.part (st1.part i.pt i.ff) i.fm, i.ff, i.fm⟩
theorem Tr.part (i : Tr h0 h F G M d b m p s l) (pt : Part h h1) : Tr h0 h1 F G M d b m p s l :=
  ⟨i.db.part pt, i.rf.keep fun _ _ hk => part_live pt hk, (Step.of_part pt).dom i.lm, i.ap, i.pt.trans pt, i.ff, i.fm⟩

/-- The bank is opened anew. -/
theorem Tr.open {G' : Nat → Prop} {b' : Nat} (i : Tr h0 h F G M d b m p s l) (wb : BankD G' h1 b' d p l') (wd : PmD F h1 d s) (fr : ∀ k, G' k → h k = none) (lf : Live F h1) (lg : Live G' h1) (pt : Part h h1) : Tr h0 h1 F G' M d b' m p s l' := by
  refine ⟨⟨wd, wb, lf, lg, fun k hg hf => i.db.lf k hf (fr k hg)⟩, i.rf.keep fun _ _ hk => part_live pt hk, (Step.of_part pt).dom i.lm, fun k hm hfg => ?_, i.pt.trans pt, fun k hk hfg => ?_, i.fm⟩
  · rcases hfg with hf | hg
    · exact i.ap k hm (.inl hf)
    · exact i.lm k hm (fr k hg)
  · rcases hfg with hf | hg
    · exact i.ff k hk (.inl hf)
    · have := fr k hg
      rw [part_live i.pt hk] at this
      exact hk this

/-- A small plan. -/
theorem small_pl (x0 x1 x2 : Int) : ∃ p : Pl, PlB p ∧ p.pa ≤ 2 ∧ p.pl ≤ 4 ∧ p.ps ≤ 10 ∧ irem (imax 0 x0) 3 = p.pa ∧ IntKind.i64.wrap (1 + irem (imax 0 x1) 4) = p.pl ∧ irem (imax 0 x2) 11 = p.ps := by
  obtain ⟨a, ha⟩ : ∃ q : Nat, imax 0 x0 = q := ⟨(imax 0 x0).toNat, by rw [imax_eq]; omega⟩
  obtain ⟨l, hl⟩ : ∃ q : Nat, imax 0 x1 = q := ⟨(imax 0 x1).toNat, by rw [imax_eq]; omega⟩
  obtain ⟨s, hs⟩ : ∃ q : Nat, imax 0 x2 = q := ⟨(imax 0 x2).toNat, by rw [imax_eq]; omega⟩
  refine ⟨⟨a % 3, 1 + l % 4, s % 11⟩, ⟨by show 1 ≤ 1 + l % 4; omega, by show 1 + l % 4 ≤ 1026; omega, by show s % 11 ≤ 64; omega, by show a % 3 ≤ 8192; omega⟩, by show a % 3 ≤ 2; omega, by show 1 + l % 4 ≤ 4; omega, by show s % 11 ≤ 10; omega, ?_, ?_, ?_⟩
  · rw [ha]; exact irem_nat a 3
  · rw [hl, show irem ((l : Nat) : Int) 4 = ((l % 4 : Nat) : Int) from irem_nat l 4, i64_in _ (by omega)]
    show (1 : Int) + ((l % 4 : Nat) : Int) = ((1 + l % 4 : Nat) : Int); omega
  · rw [hs]; exact irem_nat s 11
end
end Go.Gb
namespace Go.Gb
open Go.Proofs IntWalk

/-! ## LinePlays -/

theorem sext_le (s : ByteArray) (r : Int) : (sext s 0 r).size ≤ r.toNat := by
  unfold sext; rw [ByteArray.size_extract]; omega

theorem PmOk.brk {s : PmS} (o : PmOk s) (f : Nat → Bool) : PmOk { s with bad := f } := o.of rfl rfl

/-- Both devices, of three lines. -/
structure Tri (h0 h : Heap) (F G : Nat → Prop) (d m : Nat) (s : PmS) : Prop where
  t : Two h0 h F G d m s
  nl : s.nl = 3
  ok : PmOk s

structure Act6 where
  a0 : Int
  a1 : Int
  a2 : Int
  a3 : Int
  s : ByteArray
  ka : Option Addr
  kc : Nat
  ks : List Bool
def Act6.row (x : Act6) : List Value := [.int .i64 x.a0, .int .i64 x.a1, .int .i64 x.a2, .int .u64 x.a3, .string x.s, .slice x.ka x.ks.length x.kc]
theorem Act6.row_length (x : Act6) : x.row.length = 6 := rfl

section
variable {h0 h : Heap} {F G : Nat → Prop} {d m : Nat} {s : PmS} {Q : Value → Heap → Prop} {a : Option Addr} {n cp : Nat} {N t : Int} {b : ByteArray}

end

end Go.Gb
namespace Go.Gb
open Go.Proofs IntWalk

/-! ## A device without a fuse; SpareAgain -/

structure F0 (s : PmS) : Prop where
  off : s.off = false
  fuse : s.fuse = 0

theorem F0.store {s : PmS} (f : F0 s) {k : Nat} {v : Int} (hk : k < 8 * s.nl) : (pstore s (k : Int) v).1 = 0 ∧ F0 (pstore s (k : Int) v).2 := by
  rw [pstore_nf f.off f.fuse hk]; exact ⟨rfl, f.off, ptick_fuse f.fuse⟩
theorem F0.llast {s : PmS} (f : F0 s) {a : Nat} (ha : a < s.nl) : (llast s (a : Int)).1 = 0 ∧ F0 (llast s (a : Int)).2 := by
  unfold Gb.llast
  rw [pflush_nf f.off f.fuse ha, if_pos rfl]
  have f2 : F0 { ptick s with buf := fbuf s.buf a 8 } := ⟨f.off, ptick_fuse f.fuse⟩
  rw [pfence_run f2.off (by rw [f2.fuse]; decide)]
  exact ⟨rfl, f2.off, ptick_fuse f2.fuse⟩
theorem F0.stores {a : Nat} {g : Nat → Nat} : ∀ (j k : Nat) (s : PmS), k + j = 8 → F0 s → a < s.nl → (lstores a g j k s).1 = 0 ∧ F0 (lstores a g j k s).2
  | 0, k, s, _, f, ha => f.llast ha
  | j + 1, k, s, hk, f, ha => by
    have h := f.store (v := ((g k : Nat) : Int)) (show 8 * a + k < 8 * s.nl by omega)
    unfold lstores
    rw [if_pos h.1]
    exact F0.stores j (k + 1) _ (by omega) h.2 (by rw [pstore_nl]; exact ha)
theorem F0.put {s : PmS} (f : F0 s) {a : Nat} {b : ByteArray} (ha : a < s.nl) (hb : b.size = 64) : (lnput s (a : Int) b).1 = 0 ∧ F0 (lnput s (a : Int) b).2 := by
  unfold lnput
  rw [if_pos hb, if_pos (by unfold lthere; exact if_pos (by omega)), Int.toNat_natCast]
  exact F0.stores 8 0 s (by omega) f ha
theorem F0.putw {s : PmS} (f : F0 s) {a k : Nat} {v : Int} (ha : a < s.nl) (hk : k < 8) : (lnputw s (a : Int) (k : Int) v).1 = 0 ∧ F0 (lnputw s (a : Int) (k : Int) v).2 := by
  have h := f.store (v := v) (show 8 * a + k < 8 * s.nl by omega)
  unfold lnputw
  rw [if_pos (by omega), if_pos (by unfold lthere; exact if_pos (by omega)), show (8 * (a : Int) + (k : Int)) = ((8 * a + k : Nat) : Int) by omega, if_pos h.1]
  exact h.2.llast (by rw [pstore_nl]; exact ha)

theorem sretire_f0 {p : Pl} {i : Nat} {b : ByteArray} (hi : i < p.pl) (hb : b.size = 64) : ∀ (m : Nat) (s : PmS) (l : List Nat), l.length + m = p.ps → SpI p s l → F0 s →
    ((sretire p i b m s l).1 = 0 ∨ (sretire p i b m s l).1 = 10) ∧ F0 (sretire p i b m s l).2.1
  | 0, s, l, _, _, f => ⟨.inr rfl, f⟩
  | m + 1, s, l, hm, w, f => by
    obtain ⟨f1, f2⟩ := spar_fit w.ok (show l.length < p.ps by omega)
    have h1 := f.put f1 hb
    have w1 := w.put f2 f1 hb h1.1
    have nl1 := lnput_nl s (sparN p l.length : Nat) b
    unfold sretire
    rw [if_pos h1.1]
    have h2 := h1.2
    generalize (lnput s (sparN p l.length : Nat) b).2 = s1 at w1 nl1 h2
    obtain ⟨g1, g2, g3, g4⟩ := say_at w1.ok (show l.length < p.ps by omega)
    by_cases ht : took s1 (sparN p l.length) b = true
    · rw [if_pos ht]
      have h3 := h2.putw (v := ((guardN (i + 1) : Nat) : Int)) g1 (Nat.mod_lt l.length (show 0 < 8 by omega))
      exact ⟨.inl h3.1, h3.2⟩
    · rw [if_neg ht]
      have h3 := h2.putw (v := ((guardN 65535 : Nat) : Int)) g1 (Nat.mod_lt l.length (show 0 < 8 by omega))
      rw [if_pos h3.1]
      exact sretire_f0 hi hb m _ _ (by simp; omega) (w1.say (.inl rfl) (by omega) h3.1) h3.2

theorem swrite_f0 {p : Pl} {s : PmS} {l : List Nat} (w : SpI p s l) (f : F0 s) {i : Nat} {b : ByteArray} (hi : i < p.pl) (hb : b.size = 64) : ((swrite p l s i b).1 = 0 ∨ (swrite p l s i b).1 = 10) ∧ F0 (swrite p l s i b).2.1 := by
  obtain ⟨f1, f2⟩ := whN_lt w.ok w.len hi
  have hlen := w.len
  have h1 := f.put f1 hb
  have w1 := w.put f2 f1 hb h1.1
  unfold swrite
  rw [if_pos h1.1]
  by_cases ht : took (lnput s (whN p l i : Nat) b).2 (whN p l i) b = true
  · rw [if_pos ht]; exact ⟨.inl rfl, h1.2⟩
  · rw [if_neg ht]; exact sretire_f0 hi hb (p.ps - l.length) _ l (by omega) w1 h1.2

theorem swrite_spi {p : Pl} {s : PmS} {l : List Nat} (w : SpI p s l) (f : F0 s) {i : Nat} {b : ByteArray} (hi : i < p.pl) (hb : b.size = 64) : SpI p (swrite p l s i b).2.1 (swrite p l s i b).2.2 := by
  have r := swrite_res w hi hb
  have z := swrite_f0 w f hi hb
  rcases r.2 with h | h
  · exact h.2
  · have := h.1
    rcases z.1 with z | z
    · rw [z] at this; cases this
    · rw [z] at this; cases this

/-- A device and a bank, beside what there was. -/
structure Dq (h0 h : Heap) (F G : Nat → Prop) (d b : Nat) (p : Pl) (s : PmS) (l : List Nat) : Prop where
  db : DB F G h d b p s l
  pt : Part h0 h
  ff : ∀ k, h0 k ≠ none → ¬ FG F G k

section
variable {h0 h h1 : Heap} {F G : Nat → Prop} {d b : Nat} {p : Pl} {s s' : PmS} {l l' : List Nat} {Q : Value → Heap → Prop} {a : Option Addr} {n cp : Nat} {N t : Int}

theorem Dq.next (i : Dq h0 h F G d b p s l) (w : DB F G h1 d b p s' l') (st : Step (FG F G) h (FG F G) h1) : Dq h0 h1 F G d b p s' l' := ⟨w, st.part i.pt i.ff, i.ff⟩
theorem Dq.part (i : Dq h0 h F G d b p s l) (pt : Part h h1) : Dq h0 h1 F G d b p s l := ⟨i.db.part pt, i.pt.trans pt, i.ff⟩

theorem SpI.brk {k : Nat} (sp : SpI p s l) (hk : p.pa + tblN p ≤ k) : SpI p { s with bad := fset s.bad k true } l :=
  ⟨sp.ok, ⟨sp.on.off, sp.on.f0, sp.on.buf⟩, sp.en, fun t g1 g2 => by show fset s.bad k true t = false; unfold fset; rw [if_neg (by omega)]; exact sp.tb t g1 g2, sp.w.of rfl rfl⟩

end

end Go.Gb
namespace Go.Gb
open Go.Proofs IntWalk

/-! ## LineTorn: the pure part -/

/-- A device of one line; each word is the old one or the new one; what is stored is new. -/
structure Tn (s : PmS) (A B : Nat → Int) : Prop where
  nl : s.nl = 1
  bad : s.bad = fun _ => false
  f0 : 0 ≤ s.fuse
  med : ∀ w, w < 8 → s.media w = A w ∨ s.media w = B w
  buf : ∀ w, w < 8 → ∀ x, s.buf w = some x → x.1 = B w

theorem Tn.begin {s : PmS} {A B : Nat → Int} (t : Tn s A B) (ho : s.off = false) {a o : Int} (h0 : 0 ≤ a) (h1 : a < o) :
    Tn (pbegin s a o).2 A B ∧ (((pbegin s a o).1 = 0 ∧ (pbegin s a o).2.off = false) ∨ ((pbegin s a o).1 = 6 ∧ (pbegin s a o).2.off = true)) := by
  have f0 := t.f0
  by_cases hf : s.fuse = 1
  · rw [pbegin_fails ho hf h0 h1]
    exact ⟨⟨t.nl, t.bad, Int.le_refl _, t.med, t.buf⟩, .inr ⟨rfl, rfl⟩⟩
  · rw [pbegin_run ho hf h0 h1]
    refine ⟨⟨t.nl, t.bad, ?_, t.med, t.buf⟩, .inl ⟨rfl, ho⟩⟩
    show 0 ≤ if 0 < s.fuse then s.fuse - 1 else s.fuse
    split <;> omega

theorem Tn.store {s : PmS} {A B : Nat → Int} (t : Tn s A B) (ho : s.off = false) {k : Nat} (hk : k < 8) :
    Tn (pstore s (k : Int) (B k)).2 A B ∧ (((pstore s (k : Int) (B k)).1 = 0 ∧ (pstore s (k : Int) (B k)).2.off = false ∧ (pstore s (k : Int) (B k)).2.buf = fset s.buf k (some (B k, false)) ∧ (pstore s (k : Int) (B k)).2.media = s.media) ∨
      ((pstore s (k : Int) (B k)).1 = 6 ∧ (pstore s (k : Int) (B k)).2.off = true)) := by
  have nl := t.nl
  obtain ⟨t2, r⟩ := t.begin (a := (k : Int)) (o := ((8 * s.nl : Nat) : Int)) ho (by omega) (by omega)
  unfold pstore
  by_cases e : (pbegin s (k : Int) ((8 * s.nl : Nat) : Int)).1 = 0
  · rw [if_pos e, Int.toNat_natCast]
    refine ⟨⟨t2.nl, t2.bad, t2.f0, t2.med, fun w hw x hx => ?_⟩, .inl ⟨rfl, ?_, rfl, pbegin_media _ _ _⟩⟩
    · have hx : fset s.buf k (some (B k, false)) w = some x := hx
      unfold fset at hx
      split at hx
      · rename_i e2; cases hx; rw [e2]
      · exact t.buf w hw x hx
    · rcases r with r | r
      · exact r.2
      · rw [e] at r; cases r.1
  · rw [if_neg e]
    refine ⟨t2, .inr ?_⟩
    rcases r with r | r
    · exact absurd r.1 e
    · exact r

theorem Tn.flush {s : PmS} {A B : Nat → Int} (t : Tn s A B) (ho : s.off = false) :
    Tn (pflush s 0).2 A B ∧ (((pflush s 0).1 = 0 ∧ (pflush s 0).2.off = false ∧ (pflush s 0).2.buf = fbuf s.buf 0 8 ∧ (pflush s 0).2.media = s.media) ∨ ((pflush s 0).1 = 6 ∧ (pflush s 0).2.off = true)) := by
  have nl := t.nl
  obtain ⟨t2, r⟩ := t.begin (a := 0) (o := (s.nl : Int)) ho (by omega) (by omega)
  unfold pflush
  by_cases e : (pbegin s 0 (s.nl : Int)).1 = 0
  · rw [if_pos e]
    refine ⟨⟨t2.nl, t2.bad, t2.f0, t2.med, fun w hw x hx => ?_⟩, .inl ⟨rfl, ?_, rfl, pbegin_media _ _ _⟩⟩
    · have hx : fbuf s.buf 0 8 w = some x := hx
      unfold fbuf at hx
      split at hx
      · cases e2 : s.buf w with
        | none => rw [e2] at hx; cases hx
        | some y => rw [e2] at hx; cases hx; exact t.buf w hw y e2
      · exact t.buf w hw x hx
    · rcases r with r | r
      · exact r.2
      · rw [e] at r; cases r.1
  · rw [if_neg e]
    refine ⟨t2, .inr ?_⟩
    rcases r with r | r
    · exact absurd r.1 e
    · exact r

theorem Tn.plast {s : PmS} {A B : Nat → Int} (t : Tn s A B) {ws : List Nat} (hws : ∀ w ∈ ws, s.buf w ≠ none) : Tn (plast s ws) A B := by
  refine ⟨t.nl, t.bad, t.f0, fun w hw => ?_, fun w hw x hx => ?_⟩
  · show lmedia s ws w = A w ∨ lmedia s ws w = B w
    unfold lmedia
    split
    · rename_i h
      cases e : s.buf w with
      | none => exact absurd e (hws w h.1)
      | some x => exact .inr (t.buf w hw x e)
    · exact t.med w hw
  · have hx : lbuf s ws w = some x := hx
    unfold lbuf at hx
    split at hx
    · cases hx
    · exact t.buf w hw x hx

theorem Tn.fence {s : PmS} {A B : Nat → Int} (t : Tn s A B) (ho : s.off = false) :
    Tn (pfence s).2 A B ∧ (((pfence s).1 = 0 ∧ (pfence s).2.off = false ∧ ((∀ w, w < 8 → s.buf w = some (B w, true) ∨ (s.buf w = none ∧ s.media w = B w)) → ∀ w, w < 8 → (pfence s).2.media w = B w)) ∨ ((pfence s).1 = 6 ∧ (pfence s).2.off = true)) := by
  have nl := t.nl
  obtain ⟨t2, r⟩ := t.begin (a := 0) (o := 1) ho (by omega) (by omega)
  have bf := pbegin_buf s 0 1
  have md := pbegin_media s 0 1
  unfold pfence
  by_cases e : (pbegin s 0 1).1 = 0
  · rw [if_pos e]
    generalize (pbegin s 0 1).2 = s2 at t2 r bf md
    have hfl : ∀ w ∈ flushed s2, s2.buf w ≠ none := fun w hw => by
      rw [flushed_mem] at hw
      obtain ⟨_, v, hv⟩ := hw
      rw [hv]; simp
    refine ⟨t2.plast hfl, .inl ⟨rfl, ?_, fun hc w hw => ?_⟩⟩
    · show s2.off = false
      rcases r with r | r
      · exact r.2
      · rw [e] at r; cases r.1
    · show lmedia s2 (flushed s2) w = B w
      have nl2 := t2.nl
      unfold lmedia
      rcases hc w hw with h1 | ⟨h1, h2⟩
      · rw [if_pos ⟨flushed_mem.2 ⟨by omega, B w, by rw [bf]; exact h1⟩, by rw [t2.bad]⟩, bf, h1]
      · rw [if_neg, md]
        · exact h2
        · rintro ⟨h3, _⟩
          rw [flushed_mem] at h3
          obtain ⟨_, v, hv⟩ := h3
          rw [bf, h1] at hv; cases hv
  · rw [if_neg e]
    refine ⟨t2, .inr ?_⟩
    rcases r with r | r
    · exact absurd r.1 e
    · exact r

/-- The line is done: all words are new, or will be. -/
def Due (s : PmS) (B : Nat → Int) : Prop := ∀ w, w < 8 → (∃ f, s.buf w = some (B w, f)) ∨ (s.buf w = none ∧ s.media w = B w)

theorem Tn.lastT {s : PmS} {A B : Nat → Int} (t : Tn s A B) (ho : s.off = false) (hd : Due s B) :
    Tn (llast s 0).2 A B ∧ (((llast s 0).1 = 0 ∧ (llast s 0).2.off = false ∧ ∀ w, w < 8 → (llast s 0).2.media w = B w) ∨ ((llast s 0).1 = 6 ∧ (llast s 0).2.off = true)) := by
  obtain ⟨t2, r⟩ := t.flush ho
  unfold llast
  by_cases e : (pflush s 0).1 = 0
  · rw [if_pos e]
    rcases r with ⟨-, r1, r2, r3⟩ | r
    · obtain ⟨t3, r'⟩ := t2.fence r1
      refine ⟨t3, r'.imp (fun ⟨h1, h2, h3⟩ => ⟨h1, h2, h3 fun w hw => ?_⟩) id⟩
      rw [r2, r3]
      unfold fbuf
      rw [if_pos (by omega)]
      rcases hd w hw with ⟨f, h4⟩ | ⟨h4, h5⟩
      · left; rw [h4]; rfl
      · right; rw [h4]; exact ⟨rfl, h5⟩
    · rw [e] at r; cases r.1
  · rw [if_neg e]
    rcases r with r | r
    · exact absurd r.1 e
    · exact ⟨t2, .inr r⟩

theorem Tn.storesT {A B : Nat → Int} {f : Nat → Nat} (hB : ∀ k, B k = ((f k : Nat) : Int)) : ∀ (j k : Nat) (s : PmS), k + j = 8 → Tn s A B → s.off = false → (∀ w, w < k → ∃ g, s.buf w = some (B w, g)) →
    Tn (lstores 0 f j k s).2 A B ∧ (((lstores 0 f j k s).1 = 0 ∧ (lstores 0 f j k s).2.off = false ∧ ∀ w, w < 8 → (lstores 0 f j k s).2.media w = B w) ∨ ((lstores 0 f j k s).1 = 6 ∧ (lstores 0 f j k s).2.off = true)) := by
  intro j
  induction j with
  | zero =>
    intro k s hk t ho hb
    exact t.lastT ho fun w hw => .inl (hb w (by omega))
  | succ j ih =>
    intro k s hk t ho hb
    have h := t.store ho (show k < 8 by omega)
    unfold lstores
    have e0 : ((8 * 0 + k : Nat) : Int) = (k : Int) := by omega
    rw [e0, ← hB k]
    obtain ⟨t2, r⟩ := h
    by_cases e : (pstore s (k : Int) (B k)).1 = 0
    · rw [if_pos e]
      rcases r with ⟨-, r1, r2, r3⟩ | r
      · refine ih (k + 1) _ (by omega) t2 r1 fun w hw => ?_
        rw [r2]
        unfold fset
        by_cases e2 : w = k
        · rw [if_pos e2, e2]; exact ⟨false, rfl⟩
        · rw [if_neg e2]; exact hb w (by omega)
      · rw [e] at r; cases r.1
    · rw [if_neg e]
      rcases r with r | r
      · exact absurd r.1 e
      · exact ⟨t2, .inr r⟩

theorem Tn.putT {s : PmS} {A B : Nat → Int} {b : ByteArray} (t : Tn s A B) (ho : s.off = false) (hb : b.size = 64) (hB : ∀ k, B k = ((wordAt b k : Nat) : Int)) :
    Tn (lnput s 0 b).2 A B ∧ (((lnput s 0 b).1 = 0 ∧ (lnput s 0 b).2.off = false ∧ ∀ w, w < 8 → (lnput s 0 b).2.media w = B w) ∨ ((lnput s 0 b).1 = 6 ∧ (lnput s 0 b).2.off = true)) := by
  have nl := t.nl
  have h := Tn.storesT hB 8 0 s (by omega) t ho (fun w hw => by omega)
  unfold lnput
  rw [if_pos hb, if_pos (by unfold lthere; exact if_pos (by omega))]
  exact h

theorem Tn.putwT {s : PmS} {A B : Nat → Int} (t : Tn s A B) (ho : s.off = false) (hn : ∀ w, w < 8 → s.buf w = none) (hm : ∀ w, w < 8 → w ≠ 0 → s.media w = B w) :
    Tn (lnputw s 0 0 (B 0)).2 A B ∧ (((lnputw s 0 0 (B 0)).1 = 0 ∧ (lnputw s 0 0 (B 0)).2.off = false ∧ ∀ w, w < 8 → (lnputw s 0 0 (B 0)).2.media w = B w) ∨ ((lnputw s 0 0 (B 0)).1 = 6 ∧ (lnputw s 0 0 (B 0)).2.off = true)) := by
  have nl := t.nl
  obtain ⟨t2, r⟩ := t.store ho (show 0 < 8 by omega)
  unfold lnputw
  rw [if_pos (by omega), if_pos (by unfold lthere; exact if_pos (by omega)), show (8 * (0 : Int) + 0) = ((0 : Nat) : Int) from rfl]
  by_cases e : (pstore s ((0 : Nat) : Int) (B 0)).1 = 0
  · rw [if_pos e]
    rcases r with ⟨-, r1, r2, r3⟩ | r
    · refine t2.lastT r1 fun w hw => ?_
      rw [r2, r3]
      unfold fset
      by_cases e2 : w = 0
      · rw [if_pos e2, e2]; exact .inl ⟨false, rfl⟩
      · rw [if_neg e2]; exact .inr ⟨hn w hw, hm w hw e2⟩
    · rw [e] at r; cases r.1
  · rw [if_neg e]
    rcases r with r | r
    · exact absurd r.1 e
    · exact ⟨t2, .inr r⟩

theorem Tn.bootT {s : PmS} {A B : Nat → Int} (t : Tn s A B) (ks : List Bool) : Tn (pboot s ks) A B := by
  have h : Tn (Gb.plast s (keptN (pend s) ks (pend s).length)) A B := t.plast fun w hw => by
    obtain ⟨i, h1, h2⟩ := keptN_mem _ _ (Nat.le_refl _) hw
    have : w ∈ pend s := by
      rw [h2, List.getD_eq_getElem?_getD, List.getElem?_eq_getElem h1]
      exact List.getElem_mem h1
    exact (pend_mem.1 this).2
  exact ⟨h.nl, h.bad, Int.le_refl _, h.med, fun _ _ _ h => by cases h⟩

theorem Tn.getT {s : PmS} {A B : Nat → Int} (t : Tn s A B) (ho : s.off = false) (hn : s.buf = fun _ => none) : lnget s 0 = (lnbytes fun k => (s.media k).toNat, 0) := by
  have nl := t.nl
  unfold lnget
  rw [ho, if_neg (by simp), if_pos (by unfold lthere; exact if_pos (by omega))]
  congr 1
  unfold lnbytes
  rw [textN_congr 8]
  intro k hk
  show (pval s (8 * 0 + k)).toNat = _
  unfold pval
  rw [hn, show 8 * 0 + k = k by omega]
end Go.Gb
namespace Go.Gb
open Go.Proofs IntWalk

/-! ## LineTorn -/

theorem Own.bsnoc {P : Program} {h0 h : Heap} {T : TypeId} {n c b : Nat} {a : Option Addr} {l : List Bool} {x : Bool} {K : Option Addr → Nat → Nat → Heap → Prop} (w : Own h0 h T 1 a n c (l.map Value.bool)) (hb : h b = none)
    (hsz : cellSize P T = 1) (hz : (cellZero P T).length = 1) (hcap : (2 * (n + 1) + 192) * cellBytes P T ≤ 2 ^ 48)
    (hk : ∀ a' c' h', Own h0 h' T 1 a' (n + 1) c' ((l ++ [x]).map Value.bool) → K a' (n + 1) c' h') : xsApp P T (upd h b (.cells #[.bool x] T (0, 0))) a n c (some ⟨b, 0, none⟩) 1 K := by
  refine Own.append (w.keep (Part.upd hb _)) hsz (by omega) (new := [Value.bool x]) rfl rfl (readsAt_new T [Value.bool x]) hz hcap fun a' c' h' w' => ?_
  have e : l.map Value.bool ++ [Value.bool x] = (l ++ [x]).map Value.bool := by simp
  rw [e] at w'
  exact hk a' c' h' w'

theorem bools_full {h : Heap} {ka : Option Addr} {ks : List Bool} (hr : readsAt h ka (ks.map Value.bool)) : BoolsAt h ka ks := fun i hi => by
  rcases hr with h1 | ⟨b, o, rfl, hc⟩
  · exfalso
    have : ks.length = 0 := by simpa using congrArg List.length h1
    omega
  · have e := hc i (by simpa using hi)
    have e2 : h.cell b (o + i) = some (.bool (ks.getD i false)) := by rw [e]; simp [hi]
    refine ⟨b, o, rfl, fun hn => ?_, by rw [Nat.mul_one]; exact e2⟩
    unfold Heap.cell at e2; rw [hn] at e2; cases e2

theorem chunk_len {l : List UInt8} (h : l.length = 64) {k : Nat} (hk : k < 8) : (chunk l k).length = 8 := by unfold chunk; simp; omega

/-- The first word of one, the others of the other. -/
theorem torn_text {a b : ByteArray} (za : a.size = 64) (zb : b.size = 64) : sext b 0 8 ++ sext a 8 (a.size : Int) = lnbytes fun w => if w = 0 then wordAt b 0 else wordAt a w := by
  have e1 : sext b 0 8 = ⟨(putL (wordAt b 0) 8).toArray⟩ := sext_word (k := 0) zb (by omega)
  have e2 : sext a 8 (a.size : Int) = ⟨(a.data.toList.drop 8).toArray⟩ := by
    unfold sext
    apply ByteArray.ext
    rw [Int.toNat_natCast, ByteArray.data_extract]
    apply Array.ext'
    rw [Array.toList_extract, List.extract_eq_take_drop]
    show (a.data.toList.drop 8).take (a.size - 8) = _
    rw [List.take_of_length_le]
    have : a.data.toList.length = a.size := by simp
    rw [List.length_drop, this]
    exact Nat.le_refl _
  rw [e1, e2, bytes_append]
  unfold lnbytes
  rw [textN_eight]
  unfold textL
  have hl : a.data.toList.length = 64 := by have : a.data.toList.length = a.size := by simp
                                            omega
  have hd : a.data.toList.drop 8 = chunk a.data.toList 1 ++ chunk a.data.toList 2 ++ chunk a.data.toList 3 ++ chunk a.data.toList 4 ++ chunk a.data.toList 5 ++ chunk a.data.toList 6 ++ chunk a.data.toList 7 := by
    have h1 := chunks _ hl
    have h0 := chunk_len hl (show 0 < 8 by omega)
    generalize chunk a.data.toList 0 = c0 at h1 h0
    generalize chunk a.data.toList 1 = c1 at h1
    generalize chunk a.data.toList 2 = c2 at h1
    generalize chunk a.data.toList 3 = c3 at h1
    generalize chunk a.data.toList 4 = c4 at h1
    generalize chunk a.data.toList 5 = c5 at h1
    generalize chunk a.data.toList 6 = c6 at h1
    generalize chunk a.data.toList 7 = c7 at h1
    rw [h1]
    simp only [List.append_assoc]
    rw [← h0, List.drop_left]
  rw [hd]
  simp only [put_word a za 1 (by omega), put_word a za 2 (by omega), put_word a za 3 (by omega), put_word a za 4 (by omega), put_word a za 5 (by omega), put_word a za 6 (by omega), put_word a za 7 (by omega), List.append_assoc]
  simp [put_word a za 1 (by omega), put_word a za 2 (by omega), put_word a za 3 (by omega), put_word a za 4 (by omega), put_word a za 5 (by omega), put_word a za 6 (by omega), put_word a za 7 (by omega)]

section
variable {h : Heap} {Q : Value → Heap → Prop} {a b : ByteArray} {kp : Option Addr} {kn kc : Nat} {c0 c1 : Int}

end

end Go.Gb
namespace Go.Gb
open Go.Proofs IntWalk

/-! ## A clean write; a boot; J39 -/

section
variable {p : Pl} {s : PmS} {l : List Nat}

theorem swrite_clean (w : SpI p s l) (f : F0 s) (hb : ∀ k, s.bad k = false) {i : Nat} {B : ByteArray} (hi : i < p.pl) (hB : B.size = 64) :
    ∃ s', swrite p l s i B = (0, s', l) ∧ SpI p s' l ∧ F0 s' ∧ s'.bad = s.bad ∧ s'.nl = s.nl ∧ ∀ j, j < p.pl → rd p s' l j = if j = i then B else rd p s l j := by
  obtain ⟨f1, f2⟩ := whN_lt w.ok w.len hi
  have h1 := f.put f1 hB
  have ht : took (lnput s (whN p l i : Nat) B).2 (whN p l i) B = true := by
    cases e : took (lnput s (whN p l i : Nat) B).2 (whN p l i) B with
    | true => rfl
    | false =>
      have := not_took w.on w.w f1 hB h1.1 (by rw [e]; simp)
      rw [hb] at this; cases this
  have e : swrite p l s i B = (0, (lnput s (whN p l i : Nat) B).2, l) := by
    unfold swrite
    rw [if_pos h1.1, if_pos ht]
  have o := swrite_out w hi hB
  rw [e] at o
  refine ⟨_, e, w.put f2 f1 hB h1.1, h1.2, lnput_bad w.on f1 hB, lnput_nl _ _ _, ?_⟩
  rcases o with o | o | o
  · exact o.2.2
  · have := o.1; cases this
  · have := o.1; cases this

theorem SpI.boot (w : SpI p s l) (ks : List Bool) : SpI p (pboot s ks) l ∧ (∀ j, j < p.pl → rd p (pboot s ks) l j = rd p s l j) ∧ (pboot s ks).nl = s.nl := by
  obtain ⟨t, o⟩ := (w.on.tg s.media).boot ks
  have hm : ∀ k, k < 8 * s.nl → (pboot s ks).media k = s.media k := fun k hk => by
    rcases t.med k hk with h | h
    · exact h
    · exact h.2
  refine ⟨⟨w.ok.of t.nl, o, ?_, fun k a b => by rw [t.bd]; exact w.tb k a b, w.w.boot ks⟩, fun j hj => ?_, t.nl⟩
  · rw [sents_eq w.ok w.on o t.nl fun k hk => hm _ (tbl_fit w.ok hk).1]; exact w.en
  · refine rdN_congr fun k hk => hm _ ?_
    have := (whN_lt w.ok w.len hj).1
    omega

theorem lnget_rd (w : SpI p s l) {i : Nat} (hi : i < p.pl) : lnget s (whN p l i : Nat) = (rd p s l i, 0) := by
  rw [lnget_on w.on (whN_lt w.ok w.len hi).1]; rfl

theorem fullB_nil : fullB ⟨#[]⟩ = zero64 := by
  unfold fullB
  apply ByteArray.ext
  kernel_rfl

/-- What was left behind a write, as the law tells it. -/
structure Lf (a is0 got : ByteArray) (turn f : Int) : Prop where
  z0 : f = 0 → got = is0
  z10 : f = 10 → got = a
  f3 : f = 0 ∨ f = 10 ∨ f = 6
  t0 : turn = 0 → mixP a is0 got
  t1 : turn = 1 → got = a ∨ got = is0
end

section
variable {h : Heap} {Q : Value → Heap → Prop} {ba : Option Addr} {bn bc : Nat} {s0 s1 is0 got : ByteArray} {c0 c1 c2 t28 turn f : Int}

end
end Go.Gb
namespace Go.Gb
open Go.Proofs IntWalk

/-! ## SpareCount: how many lines can wear out -/

/-- How many of the first spares are good. -/
def gcount (dead : Nat → Bool) : Nat → Nat
  | 0 => 0
  | k + 1 => if dead k = true then gcount dead k else gcount dead k + 1
theorem gcount_le (dead : Nat → Bool) {j k : Nat} (h : j ≤ k) : gcount dead j ≤ gcount dead k := by
  induction k with
  | zero => have : j = 0 := by omega
            subst this; exact Nat.le_refl _
  | succ k ih =>
    by_cases e : j = k + 1
    · rw [e]; exact Nat.le_refl _
    · have := ih (by omega)
      show gcount dead j ≤ (if dead k = true then gcount dead k else gcount dead k + 1)
      split <;> omega

/-- Spares that were not yet used are zero. -/
def Zs (p : Pl) (s : PmS) (n : Nat) : Prop := ∀ k, n ≤ k → k < p.ps → rdN s.media (sparN p k) = zero64

structure Cnt (p : Pl) (i : Nat) (dead : Nat → Bool) (s : PmS) (l : List Nat) (r : Int × PmS × List Nat) : Prop where
  sp : SpI p r.2.1 r.2.2
  f : F0 r.2.1
  bad : r.2.1.bad = s.bad
  nl : r.2.1.nl = s.nl
  z : Zs p r.2.1 r.2.2.length
  mem : ∀ x ∈ r.2.2, x ∈ l ∨ x = 65535 ∨ x = i + 1
  res : (r.1 = 0 ∧ gcount dead r.2.2.length = gcount dead l.length + 1) ∨ (r.1 = 10 ∧ gcount dead r.2.2.length = gcount dead l.length ∧ r.2.2.length = p.ps)

theorem sretire_count {p : Pl} {dead : Nat → Bool} {i : Nat} {B : ByteArray} (hi : i < p.pl) (hB : B.size = 64) (hz : B ≠ zero64) : ∀ (m : Nat) (s : PmS) (l : List Nat), l.length + m = p.ps → SpI p s l → F0 s → (∀ k, k < p.ps → s.bad (sparN p k) = dead k) → Zs p s l.length →
    Cnt p i dead s l (sretire p i B m s l)
  | 0, s, l, hm, w, f, hd, z => ⟨w, f, rfl, rfl, z, fun x hx => .inl hx, .inr ⟨rfl, rfl, by show l.length = _; omega⟩⟩
  | m + 1, s, l, hm, w, f, hd, z => by
    have hl : l.length < p.ps := by omega
    obtain ⟨f1, f2⟩ := spar_fit w.ok hl
    have h1 := f.put f1 hB
    have w1 := w.put f2 f1 hB h1.1
    have nl1 := lnput_nl s (sparN p l.length : Nat) B
    have bd1 := lnput_bad w.on f1 hB
    have mr : ∀ c, c < s.nl → rdN (lnput s (sparN p l.length : Nat) B).2.media c = if c = sparN p l.length ∧ s.bad (sparN p l.length) = false then B else rdN s.media c := fun c hc => put_rd w.on f1 hc hB h1.1
    have tk : rdN (lnput s (sparN p l.length : Nat) B).2.media (sparN p l.length) = B ↔ took (lnput s (sparN p l.length : Nat) B).2 (sparN p l.length) B = true := media_took (B := B) (a := sparN p l.length) w1.w (by rw [nl1]; exact f1) hB
    unfold sretire
    rw [if_pos h1.1]
    have h2 := h1.2
    generalize (lnput s (sparN p l.length : Nat) B).2 = s1 at w1 nl1 h2 bd1 mr tk
    have zs : ∀ k, l.length + 1 ≤ k → k < p.ps → rdN s1.media (sparN p k) = zero64 := fun k h1 h2 => by
      rw [mr _ (spar_fit w.ok h2).1, if_neg (fun h => by have := h.1; unfold sparN at this; omega)]
      exact z k (by omega) h2
    obtain ⟨g1, g2, g3, g4⟩ := say_at w1.ok hl
    have h8 : l.length % 8 < 8 := Nat.mod_lt _ (by omega)
    have zs2 : ∀ v : Int, (lnputw s1 (p.pa + l.length / 8 : Nat) (l.length % 8 : Nat) v).1 = 0 → ∀ k, l.length + 1 ≤ k → k < p.ps → rdN (lnputw s1 (p.pa + l.length / 8 : Nat) (l.length % 8 : Nat) v).2.media (sparN p k) = zero64 := fun v h0 k ha hb => by
      obtain ⟨q1, q2⟩ := spar_fit w.ok hb
      rw [putw_rd w1.on g1 h8 (by rw [nl1]; exact q1) (fun e => by omega) h0]
      exact zs k ha hb
    cases hdl : dead l.length with
    | false =>
      have hb : s.bad (sparN p l.length) = false := by rw [hd _ hl, hdl]
      have ht : took s1 (sparN p l.length) B = true := tk.1 (by rw [mr _ f1, if_pos ⟨rfl, hb⟩])
      rw [if_pos ht]
      have h3 := h2.putw (v := ((guardN (i + 1) : Nat) : Int)) g1 h8
      rw [h3.1, if_pos rfl]
      have w3 := w1.say (x := i + 1) (.inr ⟨by omega, by omega⟩) hl h3.1
      refine ⟨w3, h3.2, (lnputw_bad w1.on g1 h8).trans bd1, (lnputw_nl _ _ _ _).trans nl1, fun k ha hb => ?_, fun x hx => ?_, .inl ⟨rfl, ?_⟩⟩
      · have ha : (l ++ [i + 1]).length ≤ k := ha
        rw [List.length_append] at ha
        exact zs2 _ h3.1 k ha hb
      · rcases List.mem_append.1 hx with h | h
        · exact .inl h
        · exact .inr (.inr (List.mem_singleton.1 h))
      · show gcount dead (l ++ [i + 1]).length = _
        rw [List.length_append]
        show (if dead l.length = true then _ else _) = _
        rw [hdl]; rfl
    | true =>
      have hb : s.bad (sparN p l.length) = true := by rw [hd _ hl, hdl]
      have ht : ¬ took s1 (sparN p l.length) B = true := fun t => by
        have := tk.2 t
        rw [mr _ f1, if_neg (fun h => by rw [hb] at h; cases h.2), z _ (Nat.le_refl _) hl] at this
        exact hz this.symm
      rw [if_neg ht]
      have h3 := h2.putw (v := ((guardN 65535 : Nat) : Int)) g1 h8
      rw [if_pos h3.1]
      have w3 := w1.say (x := 65535) (.inl rfl) hl h3.1
      have nl3 := lnputw_nl s1 (p.pa + l.length / 8 : Nat) (l.length % 8 : Nat) (guardN 65535 : Nat)
      have bd3 := lnputw_bad w1.on g1 h8 (v := ((guardN 65535 : Nat) : Int))
      have z3 := zs2 _ h3.1
      have h4 := h3.2
      generalize (lnputw s1 (p.pa + l.length / 8 : Nat) (l.length % 8 : Nat) (guardN 65535 : Nat)).2 = s3 at w3 nl3 bd3 z3 h4
      have ih := sretire_count (dead := dead) hi hB hz m s3 (l ++ [65535]) (by simp; omega) w3 h4 (fun k hk => by rw [bd3, bd1]; exact hd k hk) (fun k ha hb => by rw [List.length_append] at ha; exact z3 k ha hb)
      have eg : gcount dead (l ++ [65535]).length = gcount dead l.length := by
        rw [List.length_append]
        show (if dead l.length = true then _ else _) = _
        rw [hdl, if_pos rfl]
      refine ⟨ih.sp, ih.f, ih.bad.trans (bd3.trans bd1), ih.nl.trans (nl3.trans nl1), ih.z, fun x hx => ?_, by rw [← eg]; exact ih.res⟩
      rcases ih.mem x hx with h | h
      · rcases List.mem_append.1 h with h | h
        · exact .inl h
        · exact .inr (.inl (List.mem_singleton.1 h))
      · exact .inr h

/-- After so many lines wore out. -/
structure Cs (p : Pl) (dead : Nat → Bool) (s : PmS) (l : List Nat) (i : Nat) : Prop where
  sp : SpI p s l
  f : F0 s
  bs : ∀ k, k < p.ps → s.bad (sparN p k) = dead k
  z : Zs p s l.length
  mem : ∀ x ∈ l, x = 65535 ∨ x ≤ i
  zl : ∀ j, i ≤ j → j < p.pl → rd p s l j = zero64
  cnt : gcount dead l.length = min i (gcount dead p.ps)

theorem Cs.none {p : Pl} {dead : Nat → Bool} {s : PmS} {l : List Nat} {i : Nat} (w : Cs p dead s l i) (hi : i < p.pl) (hp : p.pl ≤ 1026) : whN p l i = ownN p i := by
  unfold whN
  cases e : stands l i with
  | none => rfl
  | some k =>
    obtain ⟨h1, h2⟩ := stN_lt _ e
    have hm : i + 1 ∈ l := by
      rw [← h2, List.getD_eq_getElem?_getD, List.getElem?_eq_getElem h1]
      exact List.getElem_mem h1
    rcases w.mem _ hm with h | h <;> omega

theorem Cs.step {p : Pl} {dead : Nat → Bool} {s : PmS} {l : List Nat} {i : Nat} {B : ByteArray} (w : Cs p dead s l i) (hb : s.bad (ownN p i) = true) (hi : i < p.pl) (hB : B.size = 64) (hz : B ≠ zero64) :
    Cs p dead (swrite p l s i B).2.1 (swrite p l s i B).2.2 (i + 1) ∧ (swrite p l s i B).2.1.bad = s.bad ∧ (swrite p l s i B).2.1.nl = s.nl ∧
      (swrite p l s i B).1 = (if i < gcount dead p.ps then 0 else 10) ∧ rd p (swrite p l s i B).2.1 (swrite p l s i B).2.2 i = if i < gcount dead p.ps then B else zero64 := by
  have hl2 := w.sp.ok.l2
  have hw := w.none hi hl2
  obtain ⟨f1, f2⟩ := whN_lt w.sp.ok w.sp.len hi
  have o := swrite_out w.sp hi hB
  have hlen := w.sp.len
  have h1 := w.f.put f1 hB
  have w1 := w.sp.put f2 f1 hB h1.1
  have mr : ∀ c, c < s.nl → rdN (lnput s (whN p l i : Nat) B).2.media c = rdN s.media c := fun c hc => by
    rw [put_rd w.sp.on f1 hc hB h1.1, if_neg (fun h => by rw [hw, hb] at h; cases h.2)]
  have ht : ¬ took (lnput s (whN p l i : Nat) B).2 (whN p l i) B = true := fun t => by
    have : rdN (lnput s (whN p l i : Nat) B).2.media (whN p l i) = B := (media_took w1.w (by rw [lnput_nl]; exact f1) hB).2 t
    rw [mr _ f1] at this
    exact hz (this.symm.trans (w.zl i (Nat.le_refl _) hi))
  have e : swrite p l s i B = sretire p i B (p.ps - l.length) (lnput s (whN p l i : Nat) B).2 l := by
    unfold swrite; rw [if_pos h1.1, if_neg ht]
  have bd1 := lnput_bad w.sp.on f1 hB
  have nl1 := lnput_nl s (whN p l i : Nat) B
  have c := sretire_count (dead := dead) hi hB hz (p.ps - l.length) _ l (by omega) w1 h1.2 (fun k hk => by rw [bd1]; exact w.bs k hk) (fun k ha hb => by rw [mr _ (spar_fit w.sp.ok hb).1]; exact w.z k ha hb)
  rw [← e] at c
  generalize swrite p l s i B = r at o c
  have cn := w.cnt
  have gle := gcount_le dead c.sp.len
  have ms : ∀ x ∈ r.2.2, x = 65535 ∨ x ≤ i + 1 := fun x hx => by
    rcases c.mem x hx with h | h | h
    · rcases w.mem x h with h | h
      · exact .inl h
      · exact .inr (by omega)
    · exact .inl h
    · exact .inr (by omega)
  have hbad : r.2.1.bad = s.bad := c.bad.trans bd1
  rcases c.res with ⟨e0, ec⟩ | ⟨e0, ec, el⟩
  · have hlt : i < gcount dead p.ps := by omega
    rw [if_pos hlt, if_pos hlt]
    rcases o with ⟨_, _, m⟩ | ⟨x, _⟩ | ⟨x, _⟩
    · refine ⟨⟨c.sp, c.f, fun k hk => by rw [hbad]; exact w.bs k hk, c.z, ms, fun j ha hb => by rw [m j hb, if_neg (by omega)]; exact w.zl j (by omega) hb, by omega⟩, hbad, c.nl.trans nl1, e0, by rw [m i hi, if_pos rfl]⟩
    · rw [e0] at x; cases x
    · rw [e0] at x; cases x
  · rw [el] at ec
    have hlt : ¬ i < gcount dead p.ps := by omega
    rw [if_neg hlt, if_neg hlt]
    rcases o with ⟨x, _⟩ | ⟨_, _, m⟩ | ⟨x, _⟩
    · rw [e0] at x; cases x
    · refine ⟨⟨c.sp, c.f, fun k hk => by rw [hbad]; exact w.bs k hk, c.z, ms, fun j ha hb => by rw [m j hb]; exact w.zl j (by omega) hb, by rw [el]; omega⟩, hbad, c.nl.trans nl1, e0, by rw [m i hi]; exact w.zl i (Nat.le_refl _) hi⟩
    · rw [e0] at x; cases x
end Go.Gb
namespace Go.Gb
open Go.Proofs IntWalk

/-! ## SpareTorn -/

section
variable {p : Pl} {s : PmS} {l : List Nat} {F G : Nat → Prop} {h : Heap} {d b : Nat} {Q : Value → Heap → Prop}

theorem spare_Bank_Read.rd {i : Nat} (w : DB F G h d b p s l) (sp : SpI p s l) (hi : i < p.pl) (hq : Q (.tuple #[.string (rd p s l i), .int .i64 0]) h) :
    C Try.prog 11 #[.pointer (some ⟨b, 0, none⟩), .int .i64 (i : Int)] h Q :=
  spare_Bank_Read.c w sp.w (fun _ _ => by rw [Int.toNat_natCast, lnget_rd sp hi]; exact hq) fun hno => absurd ⟨by omega, by omega⟩ hno

/-- What a torn write left. -/
theorem Out.torn {i : Nat} {B : ByteArray} {M : ByteArray → Prop} {r : Int × PmS × List Nat} {turn : Int} (o : Out p i B (rd p s l) M r) (hi : i < p.pl) (hB : B.size = 64)
    (h0 : turn = 0 → ∀ x, M x → mixP (rd p s l i) B x) (h1 : turn = 1 → ∀ x, M x → x = rd p s l i ∨ x = B) (ks : List Bool) :
    ∃ l', SpI p (pboot r.2.1 ks) l' ∧ (∀ j, j < p.pl → j ≠ i → rd p (pboot r.2.1 ks) l' j = rd p s l j) ∧ Lf (rd p s l i) B (rd p (pboot r.2.1 ks) l' i) turn r.1 := by
  have hA : (rd p s l i).size = 64 := rdN_size _ _
  rcases o with ⟨e, w, m⟩ | ⟨e, w, m⟩ | ⟨e, _, _, m⟩
  · obtain ⟨w', m', _⟩ := w.boot ks
    refine ⟨_, w', fun j hj hne => by rw [m' j hj, m j hj, if_neg hne], ?_⟩
    rw [m' i hi, m i hi, if_pos rfl, e]
    exact ⟨fun _ => rfl, fun h => (by cases h), .inl rfl, fun _ => ⟨hA, hB, hB, fun _ _ => .inr rfl⟩, fun _ => .inr rfl⟩
  · obtain ⟨w', m', _⟩ := w.boot ks
    refine ⟨_, w', fun j hj hne => by rw [m' j hj, m j hj], ?_⟩
    rw [m' i hi, m i hi, e]
    exact ⟨fun h => (by cases h), fun _ => rfl, .inr (.inl rfl), fun _ => ⟨hA, hB, hA, fun _ _ => .inl rfl⟩, fun _ => .inl rfl⟩
  · obtain ⟨l', w', m', y⟩ := m ks
    refine ⟨l', w', m', ?_⟩
    rw [e]
    exact ⟨fun h => (by cases h), fun h => (by cases h), .inr (.inr rfl), fun h => h0 h _ y, fun h => h1 h _ y⟩
end

def p135 : Pl := ⟨1, 3, 5⟩
def bB : ByteArray := ⟨#[UInt8.ofNat 98]⟩

section
variable {h0 h : Heap} {F G : Nat → Prop} {d b : Nat} {s : PmS} {l : List Nat} {Q : Value → Heap → Prop} {ba : Option Addr} {bn bc : Nat} {s0 s1 is0 : ByteArray} {c0 c1 c2 t28 turn f : Int}

end
end Go.Gb
namespace Go.Gb
open Go.Proofs IntWalk

/-! ## SpareCount -/

def p086 : Pl := ⟨0, 8, 6⟩
theorem p086_ok : PlOk p086 15 := ⟨by decide, by decide, by decide, by decide, by decide⟩

def letterB (i : Nat) : ByteArray := fullB (Utf8.encode (IntKind.i32.wrap (IntKind.i64.wrap (97 + (i : Int)))))
theorem letter_size (i : Nat) : (letterB i).size = 64 := fullB_size _
theorem letter_ne {i : Nat} (hi : i < 8) : letterB i ≠ zero64 := by
  match i, hi with
  | 0, _ => decide +kernel
  | 1, _ => decide +kernel
  | 2, _ => decide +kernel
  | 3, _ => decide +kernel
  | 4, _ => decide +kernel
  | 5, _ => decide +kernel
  | 6, _ => decide +kernel
  | 7, _ => decide +kernel
theorem letter_short (n : Int) : (Utf8.encode n).size ≤ 140737488351232 := by
  unfold Utf8.encode
  dsimp only
  repeat' split
  all_goals first | exact (show 1 ≤ 140737488351232 by omega) | exact (show 2 ≤ 140737488351232 by omega) | exact (show 3 ≤ 140737488351232 by omega) | exact (show 4 ≤ 140737488351232 by omega)

section
variable {h0 h : Heap} {F G : Nat → Prop} {d b : Nat} {s : PmS} {l : List Nat} {Q : Value → Heap → Prop} {dead : Nat → Bool}

theorem gabionlaw05_SpareCount.L17.c {m : Nat} (hm : m ≤ 8) (hq : ∀ h', Part h0 h' → Q (.bool true) h') : ∀ (j i : Nat) (h : Heap) (s : PmS) (l : List Nat), i + j = m → Dq h0 h F G d b p086 s l → s.nl = 15 → Cs p086 dead s l i →
    gabionlaw05_SpareCount.L17 (some ⟨d, 0, none⟩) (some ⟨b, 0, none⟩) (gcount dead 6 : Nat) (m : Int) (i : Int) h Q := by
  intro j
  induction j with
  | zero =>
    intro i h s l hi dq nl w
    apply gabionlaw05_SpareCount.L17.ok
    exact xsIf_f (decide_eq_false (by omega)) (hq h dq.pt)
  | succ j ih =>
    intro i h s l hi dq nl w
    have hp : p086.pl = 8 := rfl
    apply gabionlaw05_SpareCount.L17.ok
    unfold gabionlaw05_SpareCount.L17.wp
    rw [show IntKind.i64.wrap (1 + (i : Int)) = ((1 + i : Nat) : Int) by rw [i64_in _ (by omega)]; omega]
    refine xsIf_t (decide_eq_true (by omega)) (pm_Device_Break.c dq.db.dv fun h1 w1 st1 => ?_)
    rw [if_pos (show (0 : Int) ≤ ((1 + i : Nat) : Int) ∧ ((1 + i : Nat) : Int) < (s.nl : Int) by omega), Int.toNat_natCast] at w1
    have dq1 := dq.next (dq.db.dev w1 st1) st1.left
    have own : ownN p086 i = 1 + i := by unfold ownN; show 0 + 1 + i = _; omega
    have w' : Cs p086 dead { s with bad := fset s.bad (1 + i) true } l i := ⟨w.sp.brk (show 0 + 1 ≤ 1 + i by omega), ⟨w.f.off, w.f.fuse⟩, fun k hk => by
      have hk : k < 6 := hk
      show fset s.bad (1 + i) true (sparN p086 k) = dead k
      unfold fset
      rw [if_neg (fun e => by have : sparN p086 k = 0 + 1 + 8 + k := rfl; omega)]
      exact w.bs k hk, w.z, w.mem, w.zl, w.cnt⟩
    obtain ⟨c1, c2, c3, c4, c5⟩ := w'.step (i := i) (B := letterB i) (by show fset s.bad (1 + i) true (ownN p086 i) = true; rw [own]; exact if_pos rfl) (by omega) (letter_size i) (letter_ne (by omega))
    refine gabionlaw05_full.c (letter_short _) ⟨_, rfl, spare_Bank_Write.c (B := letterB i) dq1.db fun h2 w2 st2 => ⟨_, rfl, ?_⟩⟩
    have e : sWrite p086 l { s with bad := fset s.bad (1 + i) true } (i : Int) (letterB i) = swrite p086 l { s with bad := fset s.bad (1 + i) true } i (letterB i) := by unfold sWrite; rw [if_pos (letter_size i), if_pos (by omega), Int.toNat_natCast]
    rw [e] at w2 ⊢
    have dq2 := dq1.next w2 st2
    generalize swrite p086 l { s with bad := fset s.bad (1 + i) true } i (letterB i) = r at dq2 c1 c2 c3 c4 c5 ⊢
    have nes : ∀ {x : ByteArray}, decide (x ≠ x) = false := decide_eq_false (fun h => h rfl)
    have rest : ∀ W : ByteArray, rd p086 r.2.1 r.2.2 i = W → gabionlaw05_SpareCount.J28 (some ⟨d, 0, none⟩) (some ⟨b, 0, none⟩) (gcount dead 6 : Nat) (i : Int) W (m : Int) (i : Int) h2 Q := fun W hW => by
      apply gabionlaw05_SpareCount.J28.ok
      refine spare_Bank_Read.rd dq2.db c1.sp (by omega) ⟨_, _, rfl, xsIf_f rfl (xsIf_f (by rw [hW]; exact nes) ?_)⟩
      rw [show IntKind.i64.wrap ((i : Int) + 1) = ((i + 1 : Nat) : Int) by rw [i64_in _ (by omega)]; omega]
      exact ih (i + 1) h2 r.2.1 r.2.2 (by omega) dq2 (c3.trans nl) c1
    refine gabionlaw05_full.c (letter_short _) ⟨_, rfl, xsIf_intro (fun e => ?_) fun e => ?_⟩
    · have e := of_decide_eq_true e
      have hn : ¬ i < gcount dead p086.ps := by show ¬ i < gcount dead 6; omega
      rw [if_neg hn] at c4 c5
      rw [c4]
      exact xsIf_f rfl (gabionlaw05_full.c (by decide) ⟨_, rfl, rest _ (by rw [fullB_nil]; exact c5)⟩)
    · have e := of_decide_eq_false e
      have hn : i < gcount dead p086.ps := by show i < gcount dead 6; omega
      rw [if_pos hn] at c4 c5
      rw [c4]
      exact xsIf_f rfl (rest _ c5)

theorem gabionlaw05_SpareCount.L10.c {dd n : Int} (hn : 0 ≤ n) (hdd : ∀ k : Nat, dead k = decide (iand .u8 (ishr .u8 dd (k : Int)) 1 = 1)) (hq : ∀ h', Part h0 h' → Q (.bool true) h') : ∀ (j k : Nat) (h : Heap) (s : PmS), k + j = 6 → Dq h0 h F G d b p086 s [] → s.nl = 15 → SpI p086 s [] → F0 s → (∀ w, w < 8 * 15 → s.media w = 0) →
    (∀ i, i < k → s.bad (sparN p086 i) = dead i) → (∀ i, k ≤ i → i < 6 → s.bad (sparN p086 i) = false) → gabionlaw05_SpareCount.L10 dd n (some ⟨d, 0, none⟩) (some ⟨b, 0, none⟩) (gcount dead k : Nat) (k : Int) h Q := by
  intro j
  induction j with
  | zero =>
    intro k h s hk dq nl sp f md hb _
    apply gabionlaw05_SpareCount.L10.ok
    refine xsIf_f (decide_eq_false (by omega)) ?_
    obtain rfl : k = 6 := by omega
    have em : IntKind.i64.wrap (irem n 9) = (((n % 9).toNat : Nat) : Int) := by rw [irem_pos hn, i64_in _ (by omega)]; omega
    rw [em]
    have rz : ∀ c, c < 15 → rdN s.media c = zero64 := fun c hc => rdN_eq rfl fun k hk => by rw [zero64_word, md _ (by omega)]; rfl
    refine gabionlaw05_SpareCount.L17.c (dead := dead) (m := (n % 9).toNat) (by omega) hq (n % 9).toNat 0 h s [] (by omega) dq nl ⟨sp, f, fun i hi => hb i hi, fun i _ hi => ?_, fun x hx => (by cases hx), fun i _ hi => ?_, by show 0 = min 0 _; omega⟩
    · exact rz _ (by have := (spar_fit (s := s) (by rw [nl]; exact p086_ok) hi).1; rw [nl] at this; exact this)
    · exact rz _ (by have := (whN_lt (p := p086) (n := 15) (l := []) p086_ok (Nat.zero_le _) hi).1; exact this)
  | succ j ih =>
    intro k h s hk dq nl sp f md hb hb2
    apply gabionlaw05_SpareCount.L10.ok
    refine xsIf_t (decide_eq_true (by omega)) ⟨by omega, ?_⟩
    have hs : ∀ i, sparN p086 i = 9 + i := fun i => by unfold sparN; show 0 + 1 + 8 + i = _; omega
    have ew : IntKind.i64.wrap ((k : Int) + 1) = ((k + 1 : Nat) : Int) := by rw [i64_in _ (by omega)]; omega
    refine xsIf_intro (fun e => ?_) fun e => ?_
    · have hd : dead k = true := by rw [hdd k]; exact e
      rw [show IntKind.i64.wrap (9 + (k : Int)) = ((9 + k : Nat) : Int) by rw [i64_in _ (by omega)]; omega]
      refine pm_Device_Break.c dq.db.dv fun h1 w1 st1 => ?_
      rw [if_pos (show (0 : Int) ≤ ((9 + k : Nat) : Int) ∧ ((9 + k : Nat) : Int) < (s.nl : Int) by omega), Int.toNat_natCast] at w1
      have dq1 := dq.next (dq.db.dev w1 st1) st1.left
      apply gabionlaw05_SpareCount.J15.ok
      unfold gabionlaw05_SpareCount.J15.wp
      rw [ew]
      have eg : gcount dead (k + 1) = gcount dead k := by show (if dead k = true then _ else _) = _; rw [if_pos hd]
      rw [← eg]
      refine ih (k + 1) h1 _ (by omega) dq1 nl (sp.brk (show 0 + 1 ≤ 9 + k by omega)) ⟨f.off, f.fuse⟩ md (fun i hi => ?_) fun i h1 h2 => ?_
      · show fset s.bad (9 + k) true (sparN p086 i) = dead i
        unfold fset
        by_cases e : i = k
        · rw [if_pos (by rw [hs]; omega), e, hd]
        · rw [if_neg (by rw [hs]; omega)]; exact hb i (by omega)
      · show fset s.bad (9 + k) true (sparN p086 i) = false
        unfold fset
        rw [if_neg (by rw [hs]; omega)]; exact hb2 i (by omega) h2
    · have hd : dead k = false := by rw [hdd k]; exact e
      apply gabionlaw05_SpareCount.J15.ok
      unfold gabionlaw05_SpareCount.J15.wp
      rw [ew]
      have eg : gcount dead (k + 1) = gcount dead k + 1 := by show (if dead k = true then _ else _) = _; rw [if_neg (by rw [hd]; simp)]
      have hg : gcount dead k ≤ gcount dead 6 := gcount_le dead (by omega)
      have h6 : ∀ q, gcount dead q ≤ q := fun q => by
        induction q with
        | zero => exact Nat.le_refl _
        | succ q ihq => show (if dead q = true then gcount dead q else gcount dead q + 1) ≤ _; split <;> omega
      have := h6 6
      rw [show IntKind.i64.wrap (((gcount dead k : Nat) : Int) + 1) = ((gcount dead (k + 1) : Nat) : Int) by rw [i64_in _ (by omega), eg]; omega]
      refine ih (k + 1) h s (by omega) dq nl sp f md (fun i hi => ?_) fun i h1 h2 => hb2 i (by omega) h2
      by_cases e : i = k
      · rw [e, hd]; exact hb2 k (Nat.le_refl _) (by omega)
      · exact hb i (by omega)
end

set_option maxRecDepth 100000 in
theorem gabionlaw05_SpareCount.law (dd : Int) (hd : IntKind.u8.min ≤ dd ∧ dd ≤ IntKind.u8.max) (n : Int) (hn : IntKind.u8.min ≤ n ∧ n ≤ IntKind.u8.max) (h : Heap) :
    C Try.prog 3 #[.int .u8 dd, .int .u8 n] h fun v h' => v = .bool true ∧ Part h h' := by
  apply gabionlaw05_SpareCount.ok
  obtain ⟨sf, ef, cl, sp, nf, bf, mf, kf⟩ := sformat_new p086_ok
  refine pm_New.c (n := 15) (by omega) (by omega) fun d F h1 w1 fr lv1 p1 => ⟨_, _, rfl, spare_Format.c (p := p086) w1 lv1 p086_ok fun h2 w2 st2 => ⟨_, rfl, ?_⟩⟩
  rw [ef] at w2 ⊢
  have hff : ∀ k, h k ≠ none → ¬ F k := fun k hk' hf => hk' (fr k hf)
  have P2 : Part h h2 := st2.part p1 hff
  have lv2 := st2.dom lv1
  refine xsIf_f rfl (gabionlaw05_wakes.c fun h3 p3 => ⟨_, rfl, xsIf_f rfl ?_⟩)
  have w3 : PmD F h3 d sf := w2.keep fun k _ hk => part_live p3 hk
  have lv3 := (Step.of_part (F := F) p3).dom lv2
  have P3 := P2.trans p3
  apply gabionlaw05_SpareCount.J5.ok
  refine spare_Open.c (p := p086) w3 lv3 sp fun b G h4 wb wd fg lf lg p4 => ⟨_, _, rfl, xsIf_f rfl (xsIf_f rfl ?_)⟩
  have dq : Dq h h4 F G d b p086 sf [] := ⟨⟨wd, wb, lf, lg, fun k hg hf => lv3 k hf (fg k hg)⟩, P3.trans p4, fun k hk' hfg => by
    rcases hfg with hf | hg
    · exact hff k hk' hf
    · have := fg k hg
      rw [part_live P3 hk'] at this; exact hk' this⟩
  apply gabionlaw05_SpareCount.J8.ok
  exact gabionlaw05_SpareCount.L10.c (dead := fun k => decide (iand .u8 (ishr .u8 dd (k : Int)) 1 = 1)) hn.1 (fun _ => rfl) (fun h' p => ⟨rfl, p⟩) 6 0 h4 sf (by omega) dq nf sp ⟨cl.off, cl.fuse⟩ mf (fun i hi => by omega) fun i _ _ => by rw [bf]
end Go.Gb
