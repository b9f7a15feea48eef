/- Own texts for the seat: Ln3 Sp2 Sp3 Sp4 Ln4 Sp5 Rs1 Rs2 Ln5 Sc1 Rg0 Sq1 Sq3 Ln6 Sg1 Ln7 Ln8 Sc2 Sc3 Rg1 Rg2 Rg3 Sc4 Rt1 Sq4 Sq5 Ra1 Ra2 Sn1 Sn2 Re1 Re2 Re3. -/
import Derived.Test.YtpmghonehgnjlaaGreatB5
import Derived.Test.YtpmghonehgnjlaaGreatB4
import Derived.Test.YtpmghonehgnjlaaGreatB3
import Derived.Test.YtpmghonehgnjlaaGreatB2
set_option linter.unusedVariables false
set_option linter.unusedSimpArgs false
set_option linter.unnecessarySimpa false
set_option linter.deprecated false
namespace Go.Gb
open Go.Proofs IntWalk

/-! ## gabionlaw04: full; puts on a device that works -/

def zero64 : ByteArray := ⟨(Lib.repeatL [UInt8.ofNat 0] 64).toArray⟩
def fullB (s : ByteArray) : ByteArray := sext (s ++ zero64) 0 64

theorem zero64_size : zero64.size = 64 := by
  show (Lib.repeatL [UInt8.ofNat 0] 64).toArray.size = 64
  rw [List.size_toArray, Lib.repeatL_length]; rfl
theorem fullB_size (s : ByteArray) : (fullB s).size = 64 := by
  unfold fullB sext
  rw [ByteArray.size_extract, ByteArray.size_append, zero64_size]
  show min 64 _ - 0 = 64
  omega

/-- A device that works, with nothing pending. -/
structure Cl (s : PmS) : Prop where
  off : s.off = false
  fuse : s.fuse = 0
  buf : ∀ w, w < 8 * s.nl → s.buf w = none
  c0 : 0 ≤ s.count
  c1 : s.count < 1000000000

theorem pflush_nf {s : PmS} {a : Nat} (h0 : s.off = false) (h1 : s.fuse = 0) (ha : a < s.nl) : pflush s (a : Int) = (0, { ptick s with buf := fbuf s.buf a 8 }) := by
  have := pflush_run (s := s) (k := (a : Int)) h0 (by rw [h1]; decide) (by omega) (by omega)
  rw [Int.toNat_natCast] at this; exact this
theorem pstore_nf {s : PmS} {k : Nat} {v : Int} (h0 : s.off = false) (h1 : s.fuse = 0) (hk : k < 8 * s.nl) : pstore s (k : Int) v = (0, { ptick s with buf := fset s.buf k (some (v, false)) }) := by
  have := pstore_run (s := s) (k := (k : Int)) (v := v) h0 (by rw [h1]; decide) (by omega) (by omega)
  rw [Int.toNat_natCast] at this; exact this
theorem ptick_fuse {s : PmS} (h : s.fuse = 0) : (ptick s).fuse = 0 := by show (if 0 < s.fuse then s.fuse - 1 else s.fuse) = 0; rw [h]; rfl
theorem ptick_count {s : PmS} (h : 0 ≤ s.count) (h1 : s.count < 2000000000) : (ptick s).count = s.count + 1 := by show IntKind.wrap .i64 (s.count + 1) = _; rw [i64_in _ (by omega)]

/-- What is stored lasts. -/
theorem llast_clean {s : PmS} {a : Nat} {p : Nat → Bool} {f : Nat → Int} (h0 : s.off = false) (h1 : s.fuse = 0) (ha : a < s.nl) (c0 : 0 ≤ s.count) (c1 : s.count < 1000001000)
    (hb : ∀ w, w < 8 * s.nl → s.buf w = if w / 8 = a ∧ p (w % 8) = true then some (f (w % 8), false) else none) :
    ∃ s', llast s (a : Int) = (0, s') ∧ s'.nl = s.nl ∧ s'.off = false ∧ s'.fuse = 0 ∧ s'.bad = s.bad ∧ s'.count = s.count + 2 ∧ (∀ w, w < 8 * s.nl → s'.buf w = none) ∧
      ∀ w, w < 8 * s.nl → s'.media w = if w / 8 = a ∧ p (w % 8) = true ∧ s.bad a = false then f (w % 8) else s.media w := by
  unfold llast
  rw [pflush_nf h0 h1 ha, if_pos rfl]
  generalize hs2 : ({ ptick s with buf := fbuf s.buf a 8 } : PmS) = s2
  have o2 : s2.off = false := by rw [← hs2]; exact h0
  have f2 : s2.fuse = 0 := by rw [← hs2]; exact ptick_fuse h1
  have nl2 : s2.nl = s.nl := by rw [← hs2]; rfl
  have b2 : s2.buf = fbuf s.buf a 8 := by rw [← hs2]
  have cc : s2.count = s.count + 1 := by rw [← hs2]; exact ptick_count c0 (by omega)
  have m2 : s2.media = s.media := by rw [← hs2]; rfl
  have bd2 : s2.bad = s.bad := by rw [← hs2]; rfl
  rw [pfence_run o2 (by rw [f2]; decide)]
  have hb2 : ∀ w, w < 8 * s.nl → s2.buf w = if w / 8 = a ∧ p (w % 8) = true then some (f (w % 8), true) else none := by
    intro w hw
    rw [b2]
    unfold fbuf
    rw [hb w hw]
    by_cases e : w / 8 = a ∧ p (w % 8) = true
    · rw [if_pos e, if_pos e, if_pos (by omega)]; rfl
    · rw [if_neg e, if_neg e]; split <;> rfl
  have hf : ∀ w, w < 8 * s.nl → (w ∈ flushed s2 ↔ w / 8 = a ∧ p (w % 8) = true) := by
    intro w hw
    rw [flushed_mem, nl2, hb2 w hw]
    by_cases e : w / 8 = a ∧ p (w % 8) = true
    · rw [if_pos e]; exact ⟨fun _ => e, fun _ => ⟨hw, _, rfl⟩⟩
    · rw [if_neg e]; exact ⟨fun h => (by obtain ⟨_, v, h⟩ := h; cases h), fun h => absurd h e⟩
  refine ⟨_, rfl, nl2, o2, ptick_fuse f2, bd2, ?_, fun w hw => ?_, fun w hw => ?_⟩
  · show (ptick s2).count = _
    rw [ptick_count (by omega) (by omega), cc]; omega
  · show lbuf (ptick s2) (flushed s2) w = none
    unfold lbuf
    by_cases e : w ∈ flushed s2
    · rw [if_pos e]
    · rw [if_neg e]
      show s2.buf w = none
      rw [hb2 w hw, if_neg (fun h => e ((hf w hw).2 h))]
  · show lmedia (ptick s2) (flushed s2) w = _
    unfold lmedia
    show (if w ∈ flushed s2 ∧ s2.bad (w / 8) = false then (match s2.buf w with | some x => x.1 | none => 0) else s2.media w) = _
    rw [m2, bd2]
    by_cases e : w / 8 = a ∧ p (w % 8) = true
    · by_cases eb : s.bad a = false
      · rw [if_pos ⟨(hf w hw).2 e, by rw [e.1]; exact eb⟩, if_pos ⟨e.1, e.2, eb⟩, hb2 w hw, if_pos e]
      · rw [if_neg (fun h => eb (by rw [← e.1]; exact h.2)), if_neg (fun h => eb h.2.2)]
    · rw [if_neg (fun h => e ((hf w hw).1 h.1)), if_neg (fun h => e ⟨h.1, h.2.1⟩)]

theorem lstores_clean {a : Nat} {f : Nat → Nat} : ∀ (j k : Nat) (s : PmS), k + j = 8 → s.off = false → s.fuse = 0 → a < s.nl → 0 ≤ s.count → s.count + j < 1000000500 →
    (∀ w, w < 8 * s.nl → s.buf w = if w / 8 = a ∧ w % 8 < k then some (((f (w % 8) : Nat) : Int), false) else none) →
    ∃ s', lstores a f j k s = (0, s') ∧ s'.nl = s.nl ∧ s'.off = false ∧ s'.fuse = 0 ∧ s'.bad = s.bad ∧ s'.count = s.count + j + 2 ∧ (∀ w, w < 8 * s.nl → s'.buf w = none) ∧
      ∀ w, w < 8 * s.nl → s'.media w = if w / 8 = a ∧ s.bad a = false then ((f (w % 8) : Nat) : Int) else s.media w := by
  intro j
  induction j with
  | zero =>
    intro k s hk h0 h1 ha c0 c1 hb
    obtain ⟨s', g1, g2, g3, g4, g5, g6, g7, g8⟩ := llast_clean (p := fun _ => true) (f := fun i => ((f i : Nat) : Int)) h0 h1 ha c0 (by omega) (fun w hw => by
      rw [hb w hw]
      by_cases e : w / 8 = a
      · rw [if_pos ⟨e, by omega⟩, if_pos ⟨e, rfl⟩]
      · rw [if_neg (fun h => e h.1), if_neg (fun h => e h.1)])
    refine ⟨s', g1, g2, g3, g4, g5, by omega, g7, fun w hw => ?_⟩
    rw [g8 w hw]
    by_cases e : w / 8 = a ∧ s.bad a = false
    · rw [if_pos ⟨e.1, rfl, e.2⟩, if_pos e]
    · rw [if_neg (fun h => e ⟨h.1, h.2.2⟩), if_neg e]
  | succ j ih =>
    intro k s hk h0 h1 ha c0 c1 hb
    unfold lstores
    rw [pstore_nf h0 h1 (by omega), if_pos rfl]
    obtain ⟨s', g1, g2, g3, g4, g5, g6, g7, g8⟩ := ih (k + 1) { ptick s with buf := fset s.buf (8 * a + k) (some (((f k : Nat) : Int), false)) } (by omega) h0 (ptick_fuse h1) ha (by show 0 ≤ (ptick s).count; rw [ptick_count c0 (by omega)]; omega) (by show (ptick s).count + j < _; rw [ptick_count c0 (by omega)]; omega) (fun w hw => by
      have hw : w < 8 * s.nl := hw
      show fset s.buf (8 * a + k) (some (((f k : Nat) : Int), false)) w = _
      unfold fset
      by_cases e : w = 8 * a + k
      · rw [if_pos e, if_pos (by omega), show w % 8 = k by omega]
      · rw [if_neg e, hb w hw]
        by_cases e2 : w / 8 = a ∧ w % 8 < k
        · rw [if_pos e2, if_pos (by omega)]
        · rw [if_neg e2, if_neg (by omega)])
    refine ⟨s', g1, g2, g3, g4, g5, ?_, g7, g8⟩
    rw [g6]
    show (ptick s).count + j + 2 = _
    rw [ptick_count c0 (by omega)]; omega

theorem lnput_clean {s : PmS} {a : Nat} {b : ByteArray} (cl : Cl s) (ha : a < s.nl) (hb : b.size = 64) : ∃ s', lnput s (a : Int) b = (0, s') ∧ Cl { s' with count := 0 } ∧ s'.nl = s.nl ∧ s'.bad = s.bad ∧ s'.count = s.count + 10 ∧
      ∀ w, w < 8 * s.nl → s'.media w = if w / 8 = a ∧ s.bad a = false then ((wordAt b (w % 8) : Nat) : Int) else s.media w := by
  have c0 := cl.c0
  have c1 := cl.c1
  obtain ⟨s', g1, g2, g3, g4, g5, g6, g7, g8⟩ := lstores_clean (a := a) (f := wordAt b) 8 0 s (by omega) cl.off cl.fuse ha cl.c0 (by omega) (fun w hw => by rw [cl.buf w hw, if_neg (by omega)])
  unfold lnput
  rw [if_pos hb, if_pos (by unfold lthere; rw [if_pos (by omega)]), Int.toNat_natCast]
  exact ⟨s', g1, ⟨g3, g4, by show ∀ w, w < 8 * s'.nl → s'.buf w = none; rw [g2]; exact g7, Int.le_refl _, by show (0 : Int) < _; omega⟩, g2, g5, by omega, g8⟩

theorem lnputw_clean {s : PmS} {a k : Nat} {v : Int} (cl : Cl s) (ha : a < s.nl) (hk : k < 8) : ∃ s', lnputw s (a : Int) (k : Int) v = (0, s') ∧ Cl { s' with count := 0 } ∧ s'.nl = s.nl ∧ s'.bad = s.bad ∧ s'.count = s.count + 3 ∧
      ∀ w, w < 8 * s.nl → s'.media w = if w = 8 * a + k ∧ s.bad a = false then v else s.media w := by
  have c0 := cl.c0
  have c1 := cl.c1
  unfold lnputw
  have e : (8 * (a : Int) + (k : Int)) = ((8 * a + k : Nat) : Int) := by omega
  rw [if_pos (by omega), if_pos (by unfold lthere; rw [if_pos (by omega)]), e, pstore_nf cl.off cl.fuse (by omega), if_pos rfl]
  have cc : (ptick s).count = s.count + 1 := ptick_count c0 (by omega)
  obtain ⟨s', g1, g2, g3, g4, g5, g6, g7, g8⟩ := llast_clean (s := { ptick s with buf := fset s.buf (8 * a + k) (some (v, false)) }) (a := a) (p := fun i => decide (i = k)) (f := fun _ => v) cl.off (ptick_fuse cl.fuse) ha (by show 0 ≤ (ptick s).count; omega) (by show (ptick s).count < _; omega) (fun w hw => by
    have hw : w < 8 * s.nl := hw
    show fset s.buf (8 * a + k) (some (v, false)) w = _
    unfold fset
    by_cases e : w = 8 * a + k
    · rw [if_pos e, if_pos ⟨by omega, decide_eq_true (by omega)⟩]
    · rw [if_neg e, cl.buf w hw, if_neg]
      rintro ⟨h1, h2⟩
      have := of_decide_eq_true h2
      omega)
  refine ⟨s', g1, ⟨g3, g4, by show ∀ w, w < 8 * s'.nl → s'.buf w = none; rw [g2]; exact g7, Int.le_refl _, by show (0 : Int) < _; omega⟩, g2, g5, ?_, fun w hw => ?_⟩
  · rw [g6]; show (ptick s).count + 2 = _; omega
  · rw [g8 w hw]
    by_cases e : w = 8 * a + k ∧ s.bad a = false
    · rw [if_pos e, if_pos ⟨by omega, decide_eq_true (by omega), e.2⟩]
    · rw [if_neg e, if_neg]
      · rfl
      · rintro ⟨h1, h2, h3⟩
        have := of_decide_eq_true h2
        exact e ⟨by omega, h3⟩
end Go.Gb
namespace Go.Gb
open Go.Proofs IntWalk

/-! ## spare: plans, the bank's cells, entry, Open, Where, Read -/

def rightI (a l s : Int) : Prop := 0 ≤ a ∧ a ≤ 8192 ∧ 1 ≤ l ∧ l ≤ 1026 ∧ 0 ≤ s ∧ s ≤ 64
instance (a l s : Int) : Decidable (rightI a l s) := by unfold rightI; infer_instance
def plI (a l s : Int) : Pl := ⟨a.toNat, l.toNat, s.toNat⟩
def checkI (a l s n : Int) : Int := if rightI a l s then (if n < a + (sizeN (plI a l s) : Nat) then 3 else 0) else 2

/-- The numbers of a plan that may be. -/
structure PlB (p : Pl) : Prop where
  l1 : 1 ≤ p.pl
  l2 : p.pl ≤ 1026
  s2 : p.ps ≤ 64
  a2 : p.pa ≤ 8192
theorem PlOk.b {p : Pl} {n : Nat} (o : PlOk p n) : PlB p := ⟨o.l1, o.l2, o.s2, o.a2⟩
abbrev plV (p : Pl) : Value := .agg #[.int .i64 p.pa, .int .i64 p.pl, .int .i64 p.ps]
theorem PlB.right {p : Pl} (o : PlB p) : rightI p.pa p.pl p.ps := by
  have := o.l1; have := o.l2; have := o.s2; have := o.a2
  unfold rightI; omega
theorem plI_nat (p : Pl) : plI p.pa p.pl p.ps = p := by unfold plI; simp
theorem PlOk.check {p : Pl} {n : Nat} (o : PlOk p n) : checkI p.pa p.pl p.ps n = 0 := by
  unfold checkI
  have := o.fit
  rw [if_pos o.b.right, plI_nat, if_neg (by omega)]

section
variable {h : Heap} {Q : Value → Heap → Prop} {a l s n : Int} {p : Pl}

theorem spare_Plan_right.c (hq : Q (.bool (decide (rightI a l s))) h) : C Tryz.prog 143 #[.agg #[.int .i64 a, .int .i64 l, .int .i64 s]] h Q := by
  apply spare_Plan_right.ok
  refine xsIf_intro (fun h1 => xsIf_intro (fun h2 => xsIf_intro (fun h3 => xsIf_intro (fun h4 => xsIf_intro (fun h5 => ?_) fun h5 => ?_) fun h4 => ?_) fun h3 => ?_) fun h2 => ?_) fun h1 => ?_
  all_goals simp only [decide_eq_true_eq, decide_eq_false_iff_not] at *
  · have e : decide (rightI a l s) = decide (s ≤ 64) := by
      by_cases h6 : s ≤ 64
      · rw [decide_eq_true h6, decide_eq_true (by unfold rightI; omega)]
      · rw [decide_eq_false h6, decide_eq_false (by unfold rightI; omega)]
    rw [e] at hq; exact hq
  all_goals (rw [decide_eq_false (show ¬ rightI a l s by unfold rightI; omega)] at hq; exact hq)

theorem spare_Plan_table.c (hb : PlB p) (hq : Q (.int .i64 (tblN p : Nat)) h) : C Tryz.prog 77 #[plV p] h Q := by
  apply spare_Plan_table.ok
  unfold spare_Plan_table.wp
  have := hb.s2
  rw [i64_in ((p.ps : Int) + 8) (by omega), i64_in _ (by omega), iquo_i64 (by omega) (by omega) (by omega)]
  rw [show ((p.ps : Int) + 8 - 1) / 8 = ((tblN p : Nat) : Int) by unfold tblN; omega]
  exact hq

theorem rightI_pl (hr : rightI a l s) : ∃ p : Pl, PlB p ∧ a = p.pa ∧ l = p.pl ∧ s = p.ps := by
  unfold rightI at hr
  exact ⟨⟨a.toNat, l.toNat, s.toNat⟩, ⟨by show 1 ≤ l.toNat; omega, by show l.toNat ≤ _; omega, by show s.toNat ≤ _; omega, by show a.toNat ≤ _; omega⟩, by show a = (a.toNat : Int); omega, by show l = (l.toNat : Int); omega, by show s = (s.toNat : Int); omega⟩

theorem tblN_le (hb : PlB p) : tblN p ≤ 8 := by have := hb.s2; unfold tblN; omega

theorem spare_Plan_Size.c (hq : Q (.int .i64 (if rightI a l s then (sizeN (plI a l s) : Nat) else 0 : Int)) h) : C Tryz.prog 144 #[.agg #[.int .i64 a, .int .i64 l, .int .i64 s]] h Q := by
  apply spare_Plan_Size.ok
  refine spare_Plan_right.c ⟨_, rfl, ?_⟩
  by_cases hr : rightI a l s
  · rw [if_pos hr] at hq
    obtain ⟨p, hb, rfl, rfl, rfl⟩ := rightI_pl hr
    rw [plI_nat] at hq
    have := tblN_le hb
    have := hb.l2
    have := hb.s2
    refine xsIf_f (by rw [decide_eq_true hr]; rfl) (spare_Plan_table.c hb ⟨_, rfl, ?_⟩)
    rw [i64_in ((tblN p : Nat) + (p.pl : Int)) (by omega), i64_in _ (by omega), show ((tblN p : Nat) : Int) + (p.pl : Int) + (p.ps : Int) = ((sizeN p : Nat) : Int) by unfold sizeN; omega]
    exact hq
  · rw [if_neg hr] at hq
    exact xsIf_t (by rw [decide_eq_false hr]; rfl) hq

theorem spare_Plan_Check.c (hq : Q (.int .i64 (checkI a l s n)) h) : C Tryz.prog 119 #[.agg #[.int .i64 a, .int .i64 l, .int .i64 s], .int .i64 n] h Q := by
  apply spare_Plan_Check.ok
  refine spare_Plan_right.c ⟨_, rfl, ?_⟩
  unfold checkI at hq
  by_cases hr : rightI a l s
  · rw [if_pos hr] at hq
    refine xsIf_f (by rw [decide_eq_true hr]; rfl) (spare_Plan_Size.c ⟨_, rfl, ?_⟩)
    rw [if_pos hr]
    obtain ⟨p, hb, rfl, rfl, rfl⟩ := rightI_pl hr
    rw [plI_nat] at hq ⊢
    have := tblN_le hb
    have := hb.l2
    have := hb.s2
    have := hb.a2
    have hs : sizeN p ≤ 2000 := by unfold sizeN; omega
    rw [i64_in _ (by omega)]
    refine xsIf_intro (fun h1 => ?_) fun h1 => ?_
    · rw [if_pos (of_decide_eq_true h1)] at hq; exact hq
    · rw [if_neg (of_decide_eq_false h1)] at hq; exact hq
  · rw [if_neg hr] at hq
    exact xsIf_t (by rw [decide_eq_false hr]; rfl) hq

theorem spare_Plan_own.c {i : Nat} (hb : PlB p) (hi : i ≤ 100000) (hq : Q (.int .i64 (ownN p i : Nat)) h) : C Tryz.prog 125 #[plV p, .int .i64 (i : Int)] h Q := by
  apply spare_Plan_own.ok
  refine spare_Plan_table.c hb ⟨_, rfl, ?_⟩
  have := tblN_le hb
  have := hb.a2
  rw [i64_in ((p.pa : Int) + (tblN p : Nat)) (by omega), i64_in _ (by omega), show (p.pa : Int) + ((tblN p : Nat) : Int) + (i : Int) = ((ownN p i : Nat) : Int) by unfold ownN; omega]
  exact hq

theorem spare_Plan_spare.c {k : Nat} (hb : PlB p) (hk : k ≤ 1000) (hq : Q (.int .i64 (sparN p k : Nat)) h) : C Tryz.prog 124 #[plV p, .int .i64 (k : Int)] h Q := by
  apply spare_Plan_spare.ok
  have := tblN_le hb
  have := hb.a2
  have := hb.l2
  refine spare_Plan_own.c hb (by omega) ⟨_, rfl, ?_⟩
  have e : ownN p p.pl ≤ 20000 := by unfold ownN; omega
  rw [i64_in _ (by omega), show ((ownN p p.pl : Nat) : Int) + (k : Int) = ((sparN p k : Nat) : Int) by unfold ownN sparN; omega]
  exact hq
end

/-- The spares that stand for lines. -/
def standsP (p : Pl) (l : List Nat) : Nat → Option Nat := fun i => if i < p.pl then stands l i else none

/-- The bank's cells. -/
structure BankC (G : Nat → Prop) (h : Heap) (b d r : Nat) (p : Pl) (l : List Nat) (ml : List (Int × Value × Nat)) (c : Nat) : Prop where
  pb : PlB p
  len : l.length ≤ p.ps
  gb : G b
  gr : G r
  ne : b ≠ r
  hb : Blk h b [.pointer (some ⟨d, 0, none⟩), .int .i64 p.pa, .int .i64 p.pl, .int .i64 p.ps, .int .i64 (l.length : Nat), .map (some r)]
  hr : h r = some (mapO (Value.int .i64) ml c)
  mm : MapG (fun k : Nat => Value.int .i64 (k : Int)) p.pl (standsP p l) ml c
def BankD (G : Nat → Prop) (h : Heap) (b d : Nat) (p : Pl) (l : List Nat) : Prop := ∃ r ml c, BankC G h b d r p l ml c

theorem BankC.keep {G : Nat → Prop} {h h' : Heap} {b d r : Nat} {p : Pl} {l : List Nat} {ml : List (Int × Value × Nat)} {c : Nat} (w : BankC G h b d r p l ml c) (e : ∀ k, G k → h k ≠ none → h' k = h k) : BankC G h' b d r p l ml c :=
  ⟨w.pb, w.len, w.gb, w.gr, w.ne, w.hb.keep (e _ w.gb w.hb.ne), by rw [e _ w.gr (by rw [w.hr]; simp), w.hr], w.mm⟩
theorem BankD.keep {G : Nat → Prop} {h h' : Heap} {b d : Nat} {p : Pl} {l : List Nat} (w : BankD G h b d p l) (e : ∀ k, G k → h k ≠ none → h' k = h k) : BankD G h' b d p l := by
  obtain ⟨r, ml, c, w⟩ := w; exact ⟨r, ml, c, w.keep e⟩

section
variable {G : Nat → Prop} {h : Heap} {b d r : Nat} {p : Pl} {l : List Nat} {ml : List (Int × Value × Nat)} {cc : Nat} {Q : Value → Heap → Prop}

theorem BankC.c0 (w : BankC G h b d r p l ml cc) : h.cell b (0 + 0) = some (.pointer (some ⟨d, 0, none⟩)) := w.hb.cell 0
theorem BankC.c1 (w : BankC G h b d r p l ml cc) : h.cell b (0 + 1) = some (.int .i64 p.pa) := w.hb.cell 1
theorem BankC.c2 (w : BankC G h b d r p l ml cc) : h.cell b (0 + 1 + 1) = some (.int .i64 p.pl) := w.hb.cell 2
theorem BankC.c3 (w : BankC G h b d r p l ml cc) : h.cell b (0 + 1 + 1 + 1) = some (.int .i64 p.ps) := w.hb.cell 3
theorem BankC.c4 (w : BankC G h b d r p l ml cc) : h.cell b (0 + 4) = some (.int .i64 (l.length : Nat)) := w.hb.cell 4
theorem BankC.c5 (w : BankC G h b d r p l ml cc) : h.cell b (0 + 5) = some (.map (some r)) := w.hb.cell 5

theorem spare_Bank_Left.c (w : BankD G h b d p l) (hq : Q (.int .i64 ((p.ps : Int) - (l.length : Nat))) h) : C Tryz.prog 127 #[.pointer (some ⟨b, 0, none⟩)] h Q := by
  obtain ⟨r, ml, cc, w⟩ := w
  have := w.pb.s2
  have := w.len
  apply spare_Bank_Left.ok
  refine xsIf_f rfl ⟨b, 0, rfl, b, 0, rfl, _, w.hb.cell 3, _, w.c4, ?_⟩
  rw [i64_in _ (by omega)]; exact hq

theorem spare_Bank_Where.c {i : Int} (w : BankD G h b d p l) (hy : 0 ≤ i → i < p.pl → Q (.tuple #[.int .i64 (whN p l i.toNat : Nat), .int .i64 0]) h) (hn : ¬ (0 ≤ i ∧ i < p.pl) → Q (.tuple #[.int .i64 0, .int .i64 3]) h) :
    C Tryz.prog 81 #[.pointer (some ⟨b, 0, none⟩), .int .i64 i] h Q := by
  obtain ⟨r, ml, cc, w⟩ := w
  have hs := w.pb.s2
  have hl := w.len
  have hl2 := w.pb.l2
  apply spare_Bank_Where.ok
  refine xsIf_f rfl (xsIf_intro (fun h1 => hn (by have := of_decide_eq_true h1; omega)) fun h1 => ⟨b, 0, rfl, _, w.c2, xsIf_intro (fun h2 => hn (by have := of_decide_eq_true h2; omega)) fun h2 => ?_⟩)
  have h1 := of_decide_eq_false h1
  have h2 := of_decide_eq_false h2
  have hy := hy (by omega) (by omega)
  obtain ⟨i, rfl⟩ : ∃ k : Nat, i = k := ⟨i.toNat, by omega⟩
  rw [Int.toNat_natCast] at hy
  refine ⟨b, 0, rfl, _, w.c5, r, rfl, ml, cc, w.hr, fun j v b3 hj => ?_, fun hno => ?_⟩
  · obtain ⟨k, hk, rfl⟩ := w.mm.found hj
    unfold standsP at hk
    rw [if_pos (by omega)] at hk
    have e : whN p l i = sparN p k := by unfold whN; rw [hk]
    rw [e] at hy
    have := (stN_lt _ hk).1
    exact ⟨_, rfl, b, 0, rfl, _, w.c1, _, w.c2, _, w.c3, spare_Plan_spare.c w.pb (by omega) ⟨_, rfl, hy⟩⟩
  · have hk := w.mm.lacks hno
    unfold standsP at hk
    rw [if_pos (by omega)] at hk
    have e : whN p l i = ownN p i := by unfold whN; rw [hk]
    rw [e] at hy
    exact ⟨b, 0, rfl, _, w.c1, _, w.c2, _, w.c3, spare_Plan_own.c w.pb (by omega) ⟨_, rfl, hy⟩⟩

/-- One more spare is used. -/
theorem BankC.grow {n : Nat} (w : BankC G h b d r p l ml cc) (hl : l.length < p.ps) (hd : n = 65535 ∨ (1 ≤ n ∧ n ≤ p.pl)) (hq : ∀ h', BankD G h' b d p (l ++ [n]) → Step G h G h' → Q (.int .i64 0) h') :
    spare_Bank_entry.J6 (some ⟨b, 0, none⟩) (l.length : Nat) (n : Nat) h Q := by
  have hs := w.pb.s2
  have hl2 := w.pb.l2
  apply spare_Bank_entry.J6.ok
  have e1 : IntKind.i64.wrap (((l.length : Nat) : Int) + 1) = (((l ++ [n]).length : Nat) : Int) := by rw [i64_in _ (by omega)]; simp
  unfold spare_Bank_entry.J6.wp
  rw [e1]
  have b1 := w.hb.put (0 + 4) [.int .i64 (((l ++ [n]).length : Nat) : Int)]
  have hk1 : ∀ k, k ≠ b → h.put b (0 + 4) [.int .i64 (((l ++ [n]).length : Nat) : Int)] k = h k := fun k hk => put_other h _ _ hk
  have hr1 : h.put b (0 + 4) [.int .i64 (((l ++ [n]).length : Nat) : Int)] r = some (mapO (Value.int .i64) ml cc) := by rw [hk1 _ (Ne.symm w.ne)]; exact w.hr
  have len' : (l ++ [n]).length ≤ p.ps := by simp; omega
  refine ⟨b, 0, rfl, w.hb.can (by simp), ?_⟩
  rcases hd with rfl | hd
  · refine xsIf_f rfl (hq _ ⟨r, ml, cc, w.pb, len', w.gb, w.gr, w.ne, b1, hr1, ?_⟩ (Step.put w.gb _ _))
    have := w.mm
    have e : standsP p (l ++ [65535]) = standsP p l := by
      unfold standsP
      rw [stands_snoc]
      funext i
      dsimp only
      by_cases ei : i < p.pl
      · rw [if_pos ei, if_pos ei, if_neg (by omega)]
      · rw [if_neg ei, if_neg ei]
    rw [e]; exact this
  · have e2 : IntKind.i64.wrap (IntKind.i64.wrap ((n : Nat) : Int) - 1) = ((n - 1 : Nat) : Int) := by rw [i64_in ((n : Nat) : Int) (by omega), i64_in _ (by omega)]; omega
    rw [e2]
    have es : standsP p (l ++ [n]) = fset (standsP p l) (n - 1) (some l.length) := by
      unfold standsP
      rw [stands_snoc]
      funext i
      unfold fset
      dsimp only
      by_cases ei : i = n - 1
      · rw [if_pos ei, if_pos (by omega), if_pos (by omega)]
      · rw [if_neg ei]
        by_cases e3 : i < p.pl
        · rw [if_pos e3, if_pos e3, if_neg (by omega)]
        · rw [if_neg e3, if_neg e3]
    refine xsIf_t (decide_eq_true (by omega)) ⟨b, 0, rfl, _, b1.cell 5, r, rfl, ml, cc, hr1, fun j v b3 hj => ?_, fun hno => ?_⟩
    · refine hq _ ⟨r, _, _, w.pb, len', w.gb, w.gr, w.ne, b1.keep (upd_ne w.ne), by rw [upd_same], ?_⟩ ((Step.put w.gb _ _).trans (Step.set w.gr _))
      rw [es]; exact w.mm.set (by omega) hj l.length
    · refine hq _ ⟨r, _, _, w.pb, len', w.gb, w.gr, w.ne, b1.keep (upd_ne w.ne), by rw [upd_same], ?_⟩ ((Step.put w.gb _ _).trans (Step.set w.gr _))
      rw [es]; exact w.mm.add (by omega) (by omega) hno l.length
end
end Go.Gb
namespace Go.Gb
open Go.Proofs IntWalk

/-! ## spare: entry, Format, Open -/

theorem Step.left {F G : Nat → Prop} {h h' : Heap} (s : Step F h F h') : Step (fun k => F k ∨ G k) h (fun k => F k ∨ G k) h' := s.widen
theorem Step.right {F G : Nat → Prop} {h h' : Heap} (s : Step G h G h') : Step (fun k => F k ∨ G k) h (fun k => F k ∨ G k) h' :=
  ⟨fun k hf hk => s.keep k (fun h => hf (.inr h)) hk, fun k hk => .inl hk, s.live, fun hl k hk => s.live k (hl k hk)⟩

section
variable {G : Nat → Prop} {h : Heap} {b d : Nat} {p : Pl} {l : List Nat} {Q : Value → Heap → Prop}

theorem spare_Bank_entry.zero {k : Int} (hq : Q (.int .i64 0) h) : C Tryz.prog 80 #[.pointer (some ⟨b, 0, none⟩), .int .i64 k, .int .u64 0] h Q := by
  apply spare_Bank_entry.ok
  exact xsIf_t rfl hq

theorem spare_Bank_entry.c {v : Nat} (w : BankD G h b d p l) (hl : l.length < p.ps) (hv : validW p.pl v = true) (h64 : v < 18446744073709551616) (h0 : v ≠ 0) (hq : ∀ h', BankD G h' b d p (l ++ [v % 281474976710656]) → Step G h G h' → Q (.int .i64 0) h') :
    C Tryz.prog 80 #[.pointer (some ⟨b, 0, none⟩), .int .i64 (l.length : Nat), .int .u64 (v : Nat)] h Q := by
  obtain ⟨r, ml, cc, w⟩ := w
  have hl2 := w.pb.l2
  obtain ⟨g1, g2⟩ := of_decide_eq_true hv
  apply spare_Bank_entry.ok
  refine xsIf_f (decide_eq_false (by omega)) (crc_Guarded.c h64 ⟨_, _, rfl, ?_⟩)
  rw [if_pos g1, decide_eq_true g1]
  have j6 : spare_Bank_entry.J6 (some ⟨b, 0, none⟩) (l.length : Nat) ((v % 281474976710656 : Nat) : Int) h Q := w.grow hl g2 hq
  generalize v % 281474976710656 = n at g2 j6
  have used : ∀ {x : Int}, decide (x ≠ x) = false := decide_eq_false (fun h => h rfl)
  refine xsIf_f rfl (xsIf_intro (fun e1 => xsIf_f (decide_eq_false ?_) ⟨b, 0, rfl, _, w.c2, xsIf_f (decide_eq_false ?_) ⟨b, 0, rfl, _, w.c4, xsIf_f used j6⟩⟩) fun _ => ⟨b, 0, rfl, _, w.c4, xsIf_f used j6⟩)
  · have e1 : ((n : Nat) : Int) ≠ 65535 := of_decide_eq_true e1
    omega
  · have e1 : ((n : Nat) : Int) ≠ 65535 := of_decide_eq_true e1
    rw [u64_nat' (by omega)]; omega
end

section
variable {F : Nat → Prop} {h : Heap} {d : Nat} {s : PmS} {Q : Value → Heap → Prop} {a l n : Int} {p : Pl}

theorem spare_check.c (w : PmD F h d s) (hq : Q (.int .i64 (checkI a l n s.nl)) h) : C Tryz.prog 76 #[.pointer (some ⟨d, 0, none⟩), .agg #[.int .i64 a, .int .i64 l, .int .i64 n]] h Q := by
  apply spare_check.ok
  exact xsIf_f rfl (pm_Device_Lines.c w ⟨_, rfl, spare_Plan_Check.c ⟨_, rfl, hq⟩⟩)
theorem spare_check.nil (hq : Q (.int .i64 1) h) : C Tryz.prog 76 #[.pointer none, .agg #[.int .i64 a, .int .i64 l, .int .i64 n]] h Q := by
  apply spare_check.ok
  exact xsIf_t rfl hq

/-- Lines are put as noughts. -/
def sfmt (p : Pl) (z : ByteArray) : Nat → Nat → PmS → Int × PmS
  | 0, _, s => (0, s)
  | j + 1, k, s => if (lnput s (p.pa + k : Nat) z).1 = 0 then sfmt p z j (k + 1) (lnput s (p.pa + k : Nat) z).2 else lnput s (p.pa + k : Nat) z

theorem spare_Format.L5.c (hb : PlB p) {m : Nat} (hm : m ≤ 100000) : ∀ (j k : Nat) (h : Heap) (s : PmS), k + j = m → PmD F h d s → Live F h → (∀ h', PmD F h' d (sfmt p zero64 j k s).2 → Step F h F h' → Q (.int .i64 (sfmt p zero64 j k s).1) h') →
    spare_Format.L5 (some ⟨d, 0, none⟩) (m : Int) (k : Int) p.pa p.pl p.ps h Q := by
  intro j
  induction j with
  | zero =>
    intro k h s hk w lv hq
    apply spare_Format.L5.ok
    exact xsIf_f (decide_eq_false (by omega)) (hq h w (Step.refl _ _))
  | succ j ih =>
    intro k h s hk w lv hq
    apply spare_Format.L5.ok
    unfold spare_Format.L5.wp
    have := hb.a2
    rw [show IntKind.i64.wrap ((k : Int) + 1) = ((k + 1 : Nat) : Int) by rw [i64_in _ (by omega)]; omega, show IntKind.i64.wrap ((p.pa : Int) + (k : Int)) = ((p.pa + k : Nat) : Int) by rw [i64_in _ (by omega)]; omega]
    refine xsIf_t (decide_eq_true (by omega)) (strings_Repeat.c (c := 64) (by omega) (by show 1 ≤ 1000000; omega) ⟨_, rfl, ?_⟩)
    show C Tryz.prog 78 #[.pointer (some ⟨d, 0, none⟩), .int .i64 ((p.pa + k : Nat) : Int), .string zero64] h _
    refine line_Put.c w lv fun h1 w1 st1 => ⟨_, rfl, ?_⟩
    unfold sfmt at hq
    refine xsIf_intro (fun e => ?_) fun e => ?_
    · have e := of_decide_eq_true e
      rw [if_neg e] at hq
      exact hq h1 w1 st1
    · have e : (lnput s (p.pa + k : Nat) zero64).1 = 0 := by simpa using e
      rw [if_pos e] at hq
      exact ih (k + 1) h1 _ (by omega) w1 (st1.dom lv) fun h' w' st => hq h' w' (st1.trans st)

def sformat (p : Pl) (s : PmS) : Int × PmS := sfmt p zero64 (tblN p + p.pl) 0 s

theorem spare_Format.c (w : PmD F h d s) (lv : Live F h) (ok : PlOk p s.nl) (hq : ∀ h', PmD F h' d (sformat p s).2 → Step F h F h' → Q (.int .i64 (sformat p s).1) h') : C Tryz.prog 30 #[.pointer (some ⟨d, 0, none⟩), plV p] h Q := by
  apply spare_Format.ok
  refine spare_check.c w ⟨_, rfl, ?_⟩
  rw [ok.check]
  have hb := ok.b
  have := tblN_le hb
  have := hb.l2
  refine xsIf_f rfl (spare_Plan_table.c hb ⟨_, rfl, ?_⟩)
  rw [i64_in _ (by omega), show ((tblN p : Nat) : Int) + (p.pl : Int) = ((tblN p + p.pl : Nat) : Int) by omega]
  exact spare_Format.L5.c hb (by omega) (tblN p + p.pl) 0 h s (by omega) w lv hq

theorem spare_Format.no (w : PmD F h d s) (he : checkI a l n s.nl ≠ 0) (hq : Q (.int .i64 (checkI a l n s.nl)) h) : C Tryz.prog 30 #[.pointer (some ⟨d, 0, none⟩), .agg #[.int .i64 a, .int .i64 l, .int .i64 n]] h Q := by
  apply spare_Format.ok
  exact spare_check.c w ⟨_, rfl, xsIf_t (decide_eq_true he) hq⟩
theorem spare_Format.nil (hq : Q (.int .i64 1) h) : C Tryz.prog 30 #[.pointer none, .agg #[.int .i64 a, .int .i64 l, .int .i64 n]] h Q := by
  apply spare_Format.ok
  exact spare_check.nil ⟨_, rfl, xsIf_t rfl hq⟩
theorem spare_Open.no (w : PmD F h d s) (he : checkI a l n s.nl ≠ 0) (hq : Q (.tuple #[.pointer none, .int .i64 (checkI a l n s.nl)]) h) : C Tryz.prog 32 #[.pointer (some ⟨d, 0, none⟩), .agg #[.int .i64 a, .int .i64 l, .int .i64 n]] h Q := by
  apply spare_Open.ok
  exact spare_check.c w ⟨_, rfl, xsIf_t (decide_eq_true he) hq⟩
theorem spare_Open.nil (hq : Q (.tuple #[.pointer none, .int .i64 1]) h) : C Tryz.prog 32 #[.pointer none, .agg #[.int .i64 a, .int .i64 l, .int .i64 n]] h Q := by
  apply spare_Open.ok
  exact spare_check.nil ⟨_, rfl, xsIf_t rfl hq⟩

theorem entsTo_step {lines : Nat} {f : Nat → Nat} {m k : Nat} {l : List Nat} (h : entsTo lines f m = some l) (hk : k ≤ m) : ∃ l', entsTo lines f k = some l' := by
  induction m generalizing l with
  | zero => obtain rfl : k = 0 := by omega
            exact ⟨_, rfl⟩
  | succ m ih =>
    by_cases e : k = m + 1
    · rw [e]; exact ⟨l, h⟩
    · unfold entsTo at h
      cases e2 : entsTo lines f m with
      | none => rw [e2] at h; cases h
      | some l2 => exact ih e2 (by omega)

theorem spare_Open.L6.c {G : Nat → Prop} {b : Nat} {l0 : List Nat} (hb : PlB p) (w : PmD F h d s) (ho : s.off = false) (hf : 8 * p.pa + p.ps ≤ 8 * s.nl) (wok : PmOk s) (he : sents s p = some l0) (ap : Apart F G) : ∀ (j k : Nat) (h' : Heap) (l : List Nat), k + j = p.ps → entsTo p.pl (twd s p) k = some l → BankD G h' b d p l → PmD F h' d s →
    (∀ h'', BankD G h'' b d p l0 → Step G h' G h'' → Q (.tuple #[.pointer (some ⟨b, 0, none⟩), .int .i64 0]) h'') →
    spare_Open.L6 (some ⟨d, 0, none⟩) (some ⟨b, 0, none⟩) (p.ps : Int) (k : Int) p.pa p.pl p.ps h' Q := by
  have hs := hb.s2
  have ha := hb.a2
  intro j
  induction j with
  | zero =>
    intro k h' l hk hl wb wd hq
    apply spare_Open.L6.ok
    have : k = p.ps := by omega
    subst this
    have : l = l0 := by unfold sents at he; rw [hl] at he; cases he; rfl
    subst this
    exact xsIf_f (decide_eq_false (by omega)) (hq h' wb (Step.refl _ _))
  | succ j ih =>
    intro k h' l hk hl wb wd hq
    apply spare_Open.L6.ok
    unfold spare_Open.L6.wp
    rw [show IntKind.i64.wrap ((k : Int) + 1) = ((k + 1 : Nat) : Int) by rw [i64_in _ (by omega)]; omega, show IntKind.i64.wrap (IntKind.i64.wrap ((p.pa : Int) * 8) + (k : Int)) = ((8 * p.pa + k : Nat) : Int) by rw [i64_in ((p.pa : Int) * 8) (by omega), i64_in _ (by omega)]; omega]
    refine xsIf_t (decide_eq_true (by omega)) (pm_Device_Load.c wd ⟨_, _, rfl, ?_⟩)
    have hld : pload s ((8 * p.pa + k : Nat) : Int) = (pval s (8 * p.pa + k), 0) := by
      have e : pready s ((8 * p.pa + k : Nat) : Int) ((8 * s.nl : Nat) : Int) = 0 := by unfold pready; rw [ho, if_neg (by simp)]; exact if_pos (by omega)
      unfold pload pval; rw [if_pos e, Int.toNat_natCast]; first | done | (cases s.buf (8 * p.pa + k) <;> rfl)
    rw [hld]
    refine xsIf_f rfl ?_
    have hv := wok.val (8 * p.pa + k)
    unfold R64 at hv
    have ev : pval s (8 * p.pa + k) = ((twd s p k : Nat) : Int) := by unfold twd; omega
    show C Tryz.prog 80 #[.pointer (some ⟨b, 0, none⟩), .int .i64 (k : Int), .int .u64 (pval s (8 * p.pa + k))] h' _
    rw [ev]
    obtain ⟨l2, h2⟩ := entsTo_step (k := k + 1) he (by omega)
    have h3 := h2
    unfold entsTo at h3
    rw [hl] at h3
    dsimp only at h3
    by_cases e0 : twd s p k = 0
    · rw [if_pos e0] at h3
      cases h3
      rw [e0]
      exact spare_Bank_entry.zero ⟨_, rfl, xsIf_f rfl (ih (k + 1) h' l (by omega) h2 wb wd hq)⟩
    · rw [if_neg e0] at h3
      by_cases e1 : validW p.pl (twd s p k) = true ∧ l.length = k
      · rw [if_pos e1] at h3
        cases h3
        obtain ⟨e1, rfl⟩ := e1
        refine spare_Bank_entry.c wb (by omega) e1 (by omega) e0 fun h'' wb' st => ⟨_, rfl, xsIf_f rfl ?_⟩
        exact ih (l.length + 1) h'' _ (by omega) h2 wb' (wd.keep (st.same ap.symm)) fun h3 wb3 st3 => hq h3 wb3 (st.trans st3)
      · rw [if_neg e1] at h3; cases h3

/-- The bank as it lasts, in new blocks. -/
theorem spare_Open.c {l0 : List Nat} (w : PmD F h d s) (lv : Live F h) (i : SpI p s l0)
    (hq : ∀ b G h', BankD G h' b d p l0 → PmD F h' d s → (∀ k, G k → h k = none) → Live F h' → Live G h' → Part h h' → Q (.tuple #[.pointer (some ⟨b, 0, none⟩), .int .i64 0]) h') :
    C Tryz.prog 32 #[.pointer (some ⟨d, 0, none⟩), plV p] h Q := by
  apply spare_Open.ok
  refine spare_check.c w ⟨_, rfl, ?_⟩
  rw [i.ok.check]
  refine xsIf_f rfl fun r hr b hb => ?_
  obtain ⟨nbr, hb0⟩ := fresh_ne hb
  generalize hh2 : upd (upd h r (Obj.map #[] 0)) b (Obj.cells #[.pointer (some ⟨d, 0, none⟩), .int .i64 p.pa, .int .i64 p.pl, .int .i64 p.ps, .int .i64 0, .map (some r)] 136 (0, 0)) = h2
  have hk2 : ∀ k, h k ≠ none → h2 k = h k := fun k hk => by
    rw [← hh2, upd_ne (fun e => hk (by rw [e]; exact hb0)), upd_ne (fun e => hk (by rw [e]; exact hr))]
  have w2 : PmD F h2 d s := w.keep fun k _ hk => hk2 k hk
  have wb : BankD (fun k => k = b ∨ k = r) h2 b d p [] := by
    refine ⟨r, [], 0, i.ok.b, Nat.zero_le _, .inl rfl, .inr rfl, nbr, ?_, ?_, ?_⟩
    · rw [← hh2]; exact Blk.new _ _ _ _
    · rw [← hh2, upd_ne (Ne.symm nbr), upd_same]; rfl
    · have : standsP p [] = fun _ => none := by
        funext i; unfold standsP; split <;> rfl
      rw [this]; exact MapG.empty
  have fit := i.ok.fit
  have hfit : 8 * p.pa + p.ps ≤ 8 * s.nl := by unfold sizeN tblN at fit; omega
  have ap : Apart F (fun k => k = b ∨ k = r) := fun k hk hf => by
    rcases hk with rfl | rfl
    · exact lv _ hf hb0
    · exact lv _ hf hr
  have lf2 : Live F h2 := fun k hk => by rw [hk2 k (lv k hk)]; exact lv k hk
  have lg2 : Live (fun k => k = b ∨ k = r) h2 := fun k hk => by
    rcases hk with rfl | rfl
    · rw [← hh2, upd_same]; simp
    · rw [← hh2, upd_ne (Ne.symm nbr), upd_same]; simp
  refine spare_Open.L6.c (h := h2) (l0 := l0) i.ok.b w2 i.on.off hfit i.w i.en ap p.ps 0 h2 [] (by omega) rfl wb w2 fun h3 wb3 st3 => ?_
  refine hq b _ h3 wb3 (w2.keep (st3.same ap.symm)) (fun k hk => ?_) (st3.alive lf2) (st3.dom lg2) fun k o hko => ?_
  · rcases hk with rfl | rfl
    · exact hb0
    · exact hr
  · have hkn : h k ≠ none := by rw [hko]; simp
    have : ¬ (k = b ∨ k = r) := fun e => by
      rcases e with rfl | rfl
      · exact hkn hb0
      · exact hkn hr
    rw [st3.keep k this (by rw [hk2 k hkn]; exact hkn), hk2 k hkn]; exact hko
end
end Go.Gb
namespace Go.Gb
open Go.Proofs IntWalk

/-! ## spare: Read, say, retire, Write, WriteWord -/

/-- A device and a bank on it. -/
structure DB (F G : Nat → Prop) (h : Heap) (d b : Nat) (p : Pl) (s : PmS) (l : List Nat) : Prop where
  dv : PmD F h d s
  bk : BankD G h b d p l
  lf : Live F h
  lg : Live G h
  ap : Apart F G

abbrev FG (F G : Nat → Prop) : Nat → Prop := fun k => F k ∨ G k

section
variable {F G : Nat → Prop} {h : Heap} {d b : Nat} {p : Pl} {s : PmS} {l : List Nat} {Q : Value → Heap → Prop}

theorem DB.dev {s' : PmS} {h' : Heap} (w : DB F G h d b p s l) (w' : PmD F h' d s') (st : Step F h F h') : DB F G h' d b p s' l :=
  ⟨w', w.bk.keep (st.same w.ap), st.dom w.lf, st.alive w.lg, w.ap⟩
theorem DB.bank {l' : List Nat} {h' : Heap} (w : DB F G h d b p s l) (w' : BankD G h' b d p l') (st : Step G h G h') : DB F G h' d b p s l' :=
  ⟨w.dv.keep (st.same w.ap.symm), w', st.alive w.lf, st.dom w.lg, w.ap⟩
theorem DB.part {h' : Heap} (w : DB F G h d b p s l) (pt : Part h h') : DB F G h' d b p s l :=
  ⟨w.dv.keep fun _ _ hk => part_live pt hk, w.bk.keep fun _ _ hk => part_live pt hk, (Step.of_part pt).dom w.lf, (Step.of_part pt).dom w.lg, w.ap⟩

theorem spare_Bank_Read.c {i : Int} (w : DB F G h d b p s l) (ok : PmOk s) (hy : 0 ≤ i → i < p.pl → Q (.tuple #[.string (lnget s (whN p l i.toNat : Nat)).1, .int .i64 (lnget s (whN p l i.toNat : Nat)).2]) h) (hn : ¬ (0 ≤ i ∧ i < p.pl) → Q (.tuple #[.string ⟨#[]⟩, .int .i64 3]) h) :
    C Tryz.prog 38 #[.pointer (some ⟨b, 0, none⟩), .int .i64 i] h Q := by
  apply spare_Bank_Read.ok
  refine spare_Bank_Where.c w.bk (fun h0 h1 => ⟨_, _, rfl, xsIf_f rfl ?_⟩) fun h0 => ⟨_, _, rfl, xsIf_t rfl (hn h0)⟩
  obtain ⟨r, ml, cc, wb⟩ := w.bk
  exact ⟨b, 0, rfl, _, wb.c0, line_Get.c w.dv ok ⟨_, _, rfl, hy h0 h1⟩⟩

set_option maxRecDepth 100000 in
theorem spare_Bank_say.c {x : Nat} (w : DB F G h d b p s l) (hl : l.length < p.ps) (hx : x = 65535 ∨ (1 ≤ x ∧ x ≤ p.pl))
    (hq : ∀ h', DB F G h' d b p (lnputw s (p.pa + l.length / 8 : Nat) (l.length % 8 : Nat) (guardN x : Nat)).2 (if (lnputw s (p.pa + l.length / 8 : Nat) (l.length % 8 : Nat) (guardN x : Nat)).1 = 0 then l ++ [x] else l) → Step (FG F G) h (FG F G) h' →
      Q (.int .i64 (lnputw s (p.pa + l.length / 8 : Nat) (l.length % 8 : Nat) (guardN x : Nat)).1) h') :
    C Tryz.prog 128 #[.pointer (some ⟨b, 0, none⟩), .int .u64 (x : Nat)] h Q := by
  obtain ⟨r, ml, cc, wb⟩ := w.bk
  have hs := wb.pb.s2
  have ha := wb.pb.a2
  have hl2 := wb.pb.l2
  obtain ⟨v1, v2, v3⟩ := guardN_valid hx hl2
  apply spare_Bank_say.ok
  have e1 : IntKind.i64.wrap ((p.pa : Int) + iquo .i64 ((l.length : Nat) : Int) 8) = ((p.pa + l.length / 8 : Nat) : Int) := by
    rw [iquo_i64 (by omega) (by omega) (by omega), i64_in _ (by omega)]; omega
  have e2 : irem ((l.length : Nat) : Int) 8 = ((l.length % 8 : Nat) : Int) := irem_nat _ 8
  have main : C Tryz.prog 84 #[.pointer (some ⟨d, 0, none⟩), .int .i64 (IntKind.i64.wrap ((p.pa : Int) + iquo .i64 ((l.length : Nat) : Int) 8)), .int .i64 (irem ((l.length : Nat) : Int) 8), .int .u64 (guardN x : Nat)] h fun (r : Value) (h' : Heap) =>
      ∃ (e : Int), r = .int .i64 e ∧ spare_Bank_say.J2 (some ⟨b, 0, none⟩) (x : Nat) e h' Q := by
    rw [e1, e2]
    refine line_PutWord.c w.dv w.lf fun h1 w1 st1 => ⟨_, rfl, ?_⟩
    apply spare_Bank_say.J2.ok
    have db1 := w.dev w1 st1
    have wb1 := wb.keep (st1.same w.ap)
    refine xsIf_intro (fun e => ?_) fun e => ?_
    · have e := of_decide_eq_true e
      rw [e, if_pos rfl] at hq
      have en : C Tryz.prog 80 #[.pointer (some ⟨b, 0, none⟩), .int .i64 (l.length : Nat), .int .u64 (guardN x : Nat)] h1 fun (r : Value) (h' : Heap) => ∃ (x : Int), r = .int .i64 x ∧ Q (.int .i64 x) h' := by
        refine spare_Bank_entry.c ⟨r, ml, cc, wb1⟩ hl v1 (guardN_lt x) v2 fun h2 wb2 st2 => ⟨_, rfl, hq h2 ?_ (st1.left.trans st2.right)⟩
        rw [v3] at wb2
        exact db1.bank wb2 st2
      exact ⟨b, 0, rfl, ⟨_, wb1.c4, crc_Guard.c (by omega) ⟨_, rfl, en⟩⟩, crc_Guard.c (by omega) ⟨_, rfl, _, wb1.c4, en⟩⟩
    · have e := of_decide_eq_false e
      rw [if_neg e] at hq
      exact hq h1 db1 st1.left
  have gd : ∀ {K : Int → Prop}, K (guardN x : Nat) → C Tryz.prog 147 #[.int .u64 (x : Nat)] h fun (r : Value) (h' : Heap) => ∃ (y : Int), r = .int .u64 y ∧ (h' = h ∧ K y) := fun hk => crc_Guard.c (by omega) ⟨_, rfl, rfl, hk⟩
  refine ⟨b, 0, rfl, b, 0, rfl, b, 0, rfl, b, 0, rfl, ?_⟩
  have c1 : h.cell b (0 + 1 + 0) = some (.int .i64 p.pa) := wb.c1
  repeat' (first | exact main | (refine And.intro ?_ ?_) | (refine ⟨_, wb.c0, ?_⟩) | (refine ⟨_, c1, ?_⟩) | (refine ⟨_, wb.c4, ?_⟩) | (refine crc_Guard.c (by omega) ⟨_, rfl, ?_⟩))
end
end Go.Gb
namespace Go.Gb
open Go.Proofs IntWalk

/-! ## gabionlaw04: wakes, LineNone, LineCosts -/

section
variable {h : Heap} {Q : Value → Heap → Prop} {a : Int}

theorem pm_Device_Off.nil (hq : Q (.bool false) h) : C Tryz.prog 60 #[.pointer none] h Q := by
  apply pm_Device_Off.ok
  exact xsIf_f rfl hq

theorem line_there.nil (hq : Q (.int .i64 1) h) : C Tryz.prog 102 #[.pointer none, .int .i64 a] h Q := by
  apply line_there.ok
  exact xsIf_t rfl hq
theorem line_Get.nil (hq : Q (.tuple #[.string ⟨#[]⟩, .int .i64 1]) h) : C Tryz.prog 82 #[.pointer none, .int .i64 a] h Q := by
  apply line_Get.ok
  exact line_there.nil ⟨_, rfl, xsIf_t (by decide) (pm_Device_Off.nil ⟨_, rfl, xsIf_t rfl hq⟩)⟩
theorem line_Put.nil {b : ByteArray} (hq : Q (.int .i64 1) h) : C Tryz.prog 78 #[.pointer none, .int .i64 a, .string b] h Q := by
  apply line_Put.ok
  exact le_Words.c2 fun f _ => ⟨_, _, _, _, _, _, _, _, _, rfl, line_there.nil ⟨_, rfl, xsIf_t (by decide) hq⟩⟩
theorem line_PutWord.nil {k v : Int} (hq : Q (.int .i64 1) h) : C Tryz.prog 84 #[.pointer none, .int .i64 a, .int .i64 k, .int .u64 v] h Q := by
  apply line_PutWord.ok
  exact line_there.nil ⟨_, rfl, xsIf_t (by decide) hq⟩
theorem line_Took.nil {b : ByteArray} (hq : Q (.bool false) h) : C Tryz.prog 56 #[.pointer none, .int .i64 a, .string b] h Q := by
  apply line_Took.ok
  refine le_Words.c2 fun f _ => ⟨_, _, _, _, _, _, _, _, _, rfl, xsIf_intro (fun _ => hq) fun _ => line_there.nil ⟨_, rfl, xsIf_t (by decide) hq⟩⟩
end

theorem Cl.of {s : PmS} (c : Cl { s with count := 0 }) (h0 : 0 ≤ s.count) (h1 : s.count < 1000000000) : Cl s := ⟨c.off, c.fuse, c.buf, h0, h1⟩
theorem Cl.new (n : Nat) : Cl (pnew n) := ⟨rfl, rfl, fun _ _ => rfl, Int.le_refl _, by show (0 : Int) < _; omega⟩

theorem bytes_word_eq {b c : ByteArray} (hb : b.size = 64) (hc : c.size = 64) (h : ∀ k, k < 8 → wordAt b k = wordAt c k) : b = c := by
  rw [← lnbytes_words b hb, ← lnbytes_words c hc]
  unfold lnbytes
  rw [textN_congr 8 h]

theorem lnget_clean {s : PmS} {a : Nat} {b : ByteArray} (cl : Cl s) (ok : PmOk s) (ha : a < s.nl) (hb : b.size = 64) (hm : ∀ k, k < 8 → s.media (8 * a + k) = ((wordAt b k : Nat) : Int)) : lnget s (a : Int) = (b, 0) := by
  unfold lnget
  rw [cl.off, if_neg (by simp), if_pos (by unfold lthere; rw [if_pos (by omega)]), Int.toNat_natCast]
  congr 1
  refine Eq.trans ?_ (lnbytes_words b hb)
  unfold lnbytes
  rw [textN_congr 8]
  intro k hk
  show (pval s (8 * a + k)).toNat = _
  unfold pval
  rw [cl.buf _ (by omega)]
  show (s.media (8 * a + k)).toNat = _
  rw [hm k hk]; omega

set_option maxRecDepth 100000 in
theorem abc_word : wordAt (fullB ⟨#[UInt8.ofNat 97, UInt8.ofNat 98, UInt8.ofNat 99]⟩) 0 ≠ 0 := by
  have : wordAt (fullB ⟨#[UInt8.ofNat 97, UInt8.ofNat 98, UInt8.ofNat 99]⟩) 0 = 6513249 := by kernel_rfl
  rw [this]; decide

/-- What a put costs. -/
theorem lnput_cost {s : PmS} {b : ByteArray} (cl : Cl s) (x : Int) (hb : b.size = 64) (hc : s.count < 10000) : ∃ f s', lnput s x b = (f, s') ∧ Cl s' ∧ s'.nl = s.nl ∧ ((f = 0 ∧ s'.count = s.count + 10) ∨ (f = 3 ∧ s'.count = s.count)) := by
  have c0 := cl.c0
  by_cases ht : lthere s x = 0
  · obtain ⟨n, rfl, hn⟩ := lthere_ok ht
    obtain ⟨s', e, c, n', _, k, _⟩ := lnput_clean cl hn hb
    exact ⟨0, s', e, c.of (by omega) (by omega), n', .inl ⟨rfl, k⟩⟩
  · refine ⟨3, s, ?_, cl, rfl, .inr ⟨rfl, rfl⟩⟩
    unfold lnput; rw [if_pos hb, if_neg ht]
theorem lnputw_cost {s : PmS} (cl : Cl s) (x k v : Int) (hc : s.count < 10000) : ∃ f s', lnputw s x k v = (f, s') ∧ Cl s' ∧ s'.nl = s.nl ∧ ((f = 0 ∧ s'.count = s.count + 3) ∨ ((f = 2 ∨ f = 3) ∧ s'.count = s.count)) := by
  have c0 := cl.c0
  by_cases hk : 0 ≤ k ∧ k < 8
  · by_cases ht : lthere s x = 0
    · obtain ⟨n, rfl, hn⟩ := lthere_ok ht
      obtain ⟨k, rfl⟩ : ∃ j : Nat, k = j := ⟨k.toNat, by omega⟩
      obtain ⟨s', e, c, n', _, k, _⟩ := lnputw_clean (v := v) cl hn (show k < 8 by omega)
      exact ⟨0, s', e, c.of (by omega) (by omega), n', .inl ⟨rfl, k⟩⟩
    · refine ⟨3, s, ?_, cl, rfl, .inr ⟨.inr rfl, rfl⟩⟩
      unfold lnputw; rw [if_pos hk, if_neg ht]
  · refine ⟨2, s, ?_, cl, rfl, .inr ⟨.inl rfl, rfl⟩⟩
    unfold lnputw; rw [if_neg hk]

end Go.Gb
namespace Go.Gb
open Go.Proofs IntWalk

/-! ## spare: retire, Write, WriteWord -/

theorem chunk_left {a b : List UInt8} {j : Nat} (h : 8 * j + 8 ≤ a.length) : chunk (a ++ b) j = chunk a j := by
  unfold chunk
  rw [List.drop_append_of_le_length (by omega), List.take_append_of_le_length (by rw [List.length_drop]; omega)]
theorem chunk_right {a b : List UInt8} {j n : Nat} (h : a.length = 8 * n) (hj : n ≤ j) : chunk (a ++ b) j = chunk b (j - n) := by
  unfold chunk
  have e : 8 * j = a.length + 8 * (j - n) := by omega
  rw [e, List.drop_append, List.drop_of_length_le (show a.length ≤ a.length + 8 * (j - n) by omega), Nat.add_sub_cancel_left, List.nil_append]
theorem chunk_take {a : List UInt8} {j n : Nat} (hj : j < n) : chunk (a.take (8 * n)) j = chunk a j := by
  unfold chunk
  rw [List.drop_take, List.take_take, show min 8 (8 * n - 8 * j) = 8 by omega]
theorem chunk_drop {a : List UInt8} {j n : Nat} : chunk (a.drop (8 * n)) j = chunk a (n + j) := by
  unfold chunk
  rw [List.drop_drop, show 8 * n + 8 * j = 8 * (n + j) by omega]

theorem with_text {w : ByteArray} {k v : Nat} (hw : w.size = 64) (hk : k < 8) (hv : v < 18446744073709551616) :
    sext w 0 ((8 * k : Nat) : Int) ++ ⟨(putL v 8).toArray⟩ ++ sext w ((8 * (k + 1) : Nat) : Int) (w.size : Int) = withW w k v := by
  have hl : w.data.toList.length = 64 := by
    have : w.data.toList.length = w.size := by simp
    omega
  have e1 : sext w 0 ((8 * k : Nat) : Int) = ⟨(w.data.toList.take (8 * k)).toArray⟩ := by
    unfold sext
    apply ByteArray.ext
    rw [Int.toNat_natCast, ByteArray.data_extract]
    apply Array.ext'
    rw [Array.toList_extract, List.extract_eq_take_drop]
    show (w.data.toList.drop 0).take (8 * k - 0) = _
    simp
  have e2 : sext w ((8 * (k + 1) : Nat) : Int) (w.size : Int) = ⟨(w.data.toList.drop (8 * (k + 1))).toArray⟩ := by
    unfold sext
    apply ByteArray.ext
    rw [Int.toNat_natCast, Int.toNat_natCast, ByteArray.data_extract]
    apply Array.ext'
    rw [Array.toList_extract, List.extract_eq_take_drop, List.take_of_length_le]
    rw [List.length_drop, hl]; omega
  have hb : ∀ j, (if j = k then v else wordAt w j) < 18446744073709551616 := fun j => by split; exact hv; exact wordAt_lt _ _
  rw [e1, e2, bytes_append, bytes_append]
  have ta : (w.data.toList.take (8 * k)).length = 8 * k := by rw [List.length_take, hl]; omega
  refine bytes_word_eq ?_ (withW_size _ _ _) fun j hj => ?_
  · rw [bytes_size, List.length_append, List.length_append, ta, putL_length, List.length_drop, hl]; omega
  · unfold withW
    rw [wordAt_text hj (hb j)]
    show getL (chunk (w.data.toList.take (8 * k) ++ putL v 8 ++ w.data.toList.drop (8 * (k + 1))) j) = _
    rw [List.append_assoc]
    by_cases h1 : j < k
    · rw [chunk_left (by rw [ta]; omega), chunk_take h1, if_neg (by omega)]; rfl
    · rw [chunk_right ta (by omega)]
      by_cases h2 : j = k
      · subst h2
        rw [Nat.sub_self, chunk_left (by rw [putL_length]; omega), if_pos rfl]
        unfold chunk
        rw [List.drop_zero, List.take_of_length_le (by rw [putL_length]; omega), getL_put]
        exact Nat.mod_eq_of_lt hv
      · rw [chunk_right (n := 1) (by rw [putL_length]) (by omega), chunk_drop, if_neg h2, show k + 1 + (j - k - 1) = j by omega]; rfl

section
variable {F G : Nat → Prop} {h : Heap} {d b : Nat} {p : Pl} {s : PmS} {l : List Nat} {Q : Value → Heap → Prop}

open Classical in
theorem took_yes {s : PmS} {a : Nat} {x : ByteArray} (t : lntook s (a : Int) x) : took s a x = true := by unfold took; exact decide_eq_true t
open Classical in
theorem took_no {s : PmS} {a : Nat} {x : ByteArray} (t : ¬ lntook s (a : Int) x) : ¬ took s a x = true := by unfold took; rw [decide_eq_false t]; simp

theorem spare_Bank_retire.L1.c {i : Nat} {B : ByteArray} (hi : i < p.pl) : ∀ (m : Nat) (h : Heap) (s : PmS) (l : List Nat), l.length + m = p.ps → DB F G h d b p s l →
    (∀ h', DB F G h' d b p (sretire p i B m s l).2.1 (sretire p i B m s l).2.2 → Step (FG F G) h (FG F G) h' → Q (.int .i64 (sretire p i B m s l).1) h') → spare_Bank_retire.L1 (some ⟨b, 0, none⟩) (i : Int) B h Q := by
  intro m
  induction m with
  | zero =>
    intro h s l hm w hq
    apply spare_Bank_retire.L1.ok
    refine spare_Bank_Left.c w.bk ⟨_, rfl, xsIf_f (decide_eq_false (by omega)) (hq h w (Step.refl _ _))⟩
  | succ m ih =>
    intro h s l hm w hq
    obtain ⟨r, ml, cc, wb⟩ := w.bk
    have hs := wb.pb.s2
    have hl2 := wb.pb.l2
    apply spare_Bank_retire.L1.ok
    refine spare_Bank_Left.c w.bk ⟨_, rfl, xsIf_t (decide_eq_true (by omega)) ⟨b, 0, rfl, b, 0, rfl, _, wb.c1, _, wb.c2, _, wb.c3, _, wb.c4, spare_Plan_spare.c wb.pb (by omega) ⟨_, rfl, b, 0, rfl, _, wb.c0, line_Put.c w.dv w.lf fun h1 w1 st1 => ⟨_, rfl, ?_⟩⟩⟩⟩
    unfold sretire at hq
    have db1 := w.dev w1 st1
    have wb1 := wb.keep (st1.same w.ap)
    refine xsIf_intro (fun e => ?_) fun e => ?_
    · have e := of_decide_eq_true e
      rw [if_neg e] at hq
      exact hq h1 db1 st1.left
    · have e : (lnput s (sparN p l.length : Nat) B).1 = 0 := by simpa using e
      rw [if_pos e] at hq
      generalize (lnput s (sparN p l.length : Nat) B).2 = s1 at hq w1 db1
      refine ⟨b, 0, rfl, _, wb1.c0, line_Took.c w1 (fun t => ⟨_, rfl, xsIf_t rfl ?_⟩) fun t => ⟨_, rfl, xsIf_f rfl ?_⟩⟩
      · rw [if_pos (took_yes t)] at hq
        rw [show IntKind.u64.wrap (IntKind.u64.wrap (i : Int) + 1) = ((i + 1 : Nat) : Int) by rw [u64_nat' (by omega), show ((i : Int) + 1) = ((i + 1 : Nat) : Int) by omega, u64_nat' (by omega)]]
        exact spare_Bank_say.c db1 (by omega) (.inr ⟨by omega, by omega⟩) fun h2 db2 st2 => ⟨_, rfl, hq h2 db2 (st1.left.trans st2)⟩
      · rw [if_neg (took_no t)] at hq
        refine spare_Bank_say.c (x := 65535) db1 (by omega) (.inl rfl) fun h2 db2 st2 => ⟨_, rfl, ?_⟩
        refine xsIf_intro (fun e2 => ?_) fun e2 => ?_
        · have e2 := of_decide_eq_true e2
          rw [if_neg e2] at hq db2
          exact hq h2 db2 (st1.left.trans st2)
        · have e2 : (lnputw s1 (p.pa + l.length / 8 : Nat) (l.length % 8 : Nat) (guardN 65535 : Nat)).1 = 0 := by simpa using e2
          rw [if_pos e2] at hq db2
          exact ih h2 _ _ (by simp; omega) db2 fun h3 db3 st3 => hq h3 db3 ((st1.left.trans st2).trans st3)

theorem spare_Bank_retire.c {i : Nat} {B : ByteArray} (hi : i < p.pl) (w : DB F G h d b p s l)
    (hq : ∀ h', DB F G h' d b p (sretire p i B (p.ps - l.length) s l).2.1 (sretire p i B (p.ps - l.length) s l).2.2 → Step (FG F G) h (FG F G) h' → Q (.int .i64 (sretire p i B (p.ps - l.length) s l).1) h') :
    C Tryz.prog 85 #[.pointer (some ⟨b, 0, none⟩), .int .i64 (i : Int), .string B] h Q := by
  obtain ⟨r, ml, cc, wb⟩ := w.bk
  have := wb.len
  apply spare_Bank_retire.ok
  exact spare_Bank_retire.L1.c hi (p.ps - l.length) h s l (by omega) w hq

/-- Write as a whole. -/
noncomputable def sWrite (p : Pl) (l : List Nat) (s : PmS) (i : Int) (b : ByteArray) : Int × PmS × List Nat :=
  if b.size = 64 then (if 0 ≤ i ∧ i < p.pl then swrite p l s i.toNat b else (3, s, l)) else (2, s, l)
noncomputable def sWriteWord (p : Pl) (l : List Nat) (s : PmS) (i k : Int) (v : Nat) : Int × PmS × List Nat :=
  if 0 ≤ k ∧ k < 8 then (if 0 ≤ i ∧ i < p.pl then swritew p l s i.toNat k.toNat v else (3, s, l)) else (2, s, l)

theorem spare_Bank_Write.c {i : Int} {B : ByteArray} (w : DB F G h d b p s l)
    (hq : ∀ h', DB F G h' d b p (sWrite p l s i B).2.1 (sWrite p l s i B).2.2 → Step (FG F G) h (FG F G) h' → Q (.int .i64 (sWrite p l s i B).1) h') :
    C Tryz.prog 44 #[.pointer (some ⟨b, 0, none⟩), .int .i64 i, .string B] h Q := by
  obtain ⟨r, ml, cc, wb⟩ := w.bk
  apply spare_Bank_Write.ok
  unfold sWrite at hq
  refine spare_Bank_Where.c w.bk (fun h0 h1 => ⟨_, _, rfl, xsIf_f rfl ?_⟩) fun h0 => ⟨_, _, rfl, xsIf_f rfl ?_⟩
  · by_cases hb : B.size = 64
    · rw [if_pos hb, if_pos ⟨h0, h1⟩] at hq
      obtain ⟨i, rfl⟩ : ∃ k : Nat, i = k := ⟨i.toNat, by omega⟩
      rw [Int.toNat_natCast] at hq ⊢
      unfold swrite at hq
      refine xsIf_f (decide_eq_false (by omega)) (xsIf_f rfl ⟨b, 0, rfl, _, wb.c0, line_Put.c w.dv w.lf fun h1 w1 st1 => ⟨_, rfl, ?_⟩⟩)
      have db1 := w.dev w1 st1
      have wb1 := wb.keep (st1.same w.ap)
      refine xsIf_intro (fun e => ?_) fun e => ?_
      · have e := of_decide_eq_true e
        rw [if_neg e] at hq
        exact hq _ db1 st1.left
      · have e : (lnput s (whN p l i : Nat) B).1 = 0 := by simpa using e
        rw [if_pos e] at hq
        generalize (lnput s (whN p l i : Nat) B).2 = s1 at hq w1 db1
        refine ⟨b, 0, rfl, _, wb1.c0, line_Took.c w1 (fun t => ⟨_, rfl, xsIf_t rfl ?_⟩) fun t => ⟨_, rfl, xsIf_f rfl ?_⟩⟩
        · rw [if_pos (took_yes t)] at hq
          exact hq _ db1 st1.left
        · rw [if_neg (took_no t)] at hq
          exact spare_Bank_retire.c (by omega) db1 fun h2 db2 st2 => ⟨_, rfl, hq h2 db2 (st1.left.trans st2)⟩
    · rw [if_neg hb] at hq
      exact xsIf_t (decide_eq_true (by omega)) (hq h w (Step.refl _ _))
  · by_cases hb : B.size = 64
    · rw [if_pos hb, if_neg h0] at hq
      exact xsIf_f (decide_eq_false (by omega)) (xsIf_t rfl (hq h w (Step.refl _ _)))
    · rw [if_neg hb] at hq
      exact xsIf_t (decide_eq_true (by omega)) (hq h w (Step.refl _ _))

theorem lnget_size {a : Nat} (h0 : (lnget s (a : Int)).2 = 0) : (lnget s (a : Int)).1.size = 64 := by
  unfold lnget at h0 ⊢
  split
  · rename_i h; rw [if_pos h] at h0; cases h0
  · rename_i h
    rw [if_neg h] at h0
    split
    · exact lnbytes_size _
    · rename_i h2; rw [if_neg h2] at h0; cases h0

theorem spare_Bank_WriteWord.c {i k : Int} {v : Nat} (w : DB F G h d b p s l) (ok : PmOk s) (hv : v < 18446744073709551616)
    (hq : ∀ h', DB F G h' d b p (sWriteWord p l s i k v).2.1 (sWriteWord p l s i k v).2.2 → Step (FG F G) h (FG F G) h' → Q (.int .i64 (sWriteWord p l s i k v).1) h') :
    C Tryz.prog 33 #[.pointer (some ⟨b, 0, none⟩), .int .i64 i, .int .i64 k, .int .u64 (v : Nat)] h Q := by
  obtain ⟨r, ml, cc, wb⟩ := w.bk
  apply spare_Bank_WriteWord.ok
  unfold sWriteWord at hq
  have kk : ∀ {X : Prop} {e : Int}, (¬ (0 ≤ k ∧ k < 8) → X) → (0 ≤ k → k < 8 → X) → X := fun a c => by
    by_cases h : 0 ≤ k ∧ k < 8
    · exact c h.1 h.2
    · exact a h
  refine spare_Bank_Where.c w.bk (fun h0 h1 => ⟨_, _, rfl, xsIf_f rfl ?_⟩) fun h0 => ⟨_, _, rfl, xsIf_f rfl ?_⟩
  · refine xsIf_intro (fun e1 => ?_) fun e1 => xsIf_intro (fun e2 => ?_) fun e2 => ?_
    · have e1 := of_decide_eq_true e1
      rw [if_neg (by omega)] at hq
      exact hq h w (Step.refl _ _)
    · have e2 := of_decide_eq_true e2
      rw [if_neg (by omega)] at hq
      exact hq h w (Step.refl _ _)
    · have e1 := of_decide_eq_false e1
      have e2 := of_decide_eq_false e2
      rw [if_pos (by omega), if_pos ⟨h0, h1⟩] at hq
      obtain ⟨i, rfl⟩ : ∃ j : Nat, i = j := ⟨i.toNat, by omega⟩
      obtain ⟨k, rfl⟩ : ∃ j : Nat, k = j := ⟨k.toNat, by omega⟩
      rw [Int.toNat_natCast, Int.toNat_natCast] at hq
      rw [Int.toNat_natCast]
      unfold swritew at hq
      refine xsIf_f rfl ⟨b, 0, rfl, _, wb.c0, line_Get.c w.dv ok ⟨_, _, rfl, ?_⟩⟩
      refine xsIf_intro (fun e => ?_) fun e => ?_
      · have e := of_decide_eq_true e
        rw [if_neg e] at hq
        exact hq h w (Step.refl _ _)
      · have e : (lnget s (whN p l i : Nat)).2 = 0 := by simpa using e
        rw [if_pos e] at hq
        have hz := lnget_size e
        generalize (lnget s (whN p l i : Nat)).1 = was at hq hz
        have w1 : IntKind.i64.wrap (8 * (k : Int)) = ((8 * k : Nat) : Int) := by rw [i64_in _ (by omega)]; omega
        have w2 : IntKind.i64.wrap (8 * IntKind.i64.wrap ((k : Int) + 1)) = ((8 * (k + 1) : Nat) : Int) := by rw [i64_in ((k : Int) + 1) (by omega), i64_in _ (by omega)]; omega
        rw [w1, w2]
        refine ⟨by omega, by omega, le_Put.c hv ⟨_, rfl, ?_⟩⟩
        rw [show cnt 8 = 8 by decide, with_text hz (by omega) hv]
        have s1 : (sext was 0 ((8 * k : Nat) : Int)).size ≤ 64 := by unfold sext; rw [ByteArray.size_extract]; omega
        have s2 : (⟨(putL v 8).toArray⟩ : ByteArray).size = 8 := by rw [bytes_size, putL_length]
        have s3 : (sext was ((8 * (k + 1) : Nat) : Int) (was.size : Int)).size ≤ 64 := by unfold sext; rw [ByteArray.size_extract]; omega
        refine ⟨by rw [s2]; omega, by rw [ByteArray.size_append, s2]; omega, b, 0, rfl, _, wb.c0, line_PutWord.c w.dv w.lf fun h1 w1 st1 => ⟨_, rfl, ?_⟩⟩
        have db1 := w.dev w1 st1
        have wb1 := wb.keep (st1.same w.ap)
        refine xsIf_intro (fun e => ?_) fun e => ?_
        · have e := of_decide_eq_true e
          rw [if_neg e] at hq
          exact hq _ db1 st1.left
        · have e : (lnputw s (whN p l i : Nat) (k : Nat) (v : Nat)).1 = 0 := by simpa using e
          rw [if_pos e] at hq
          generalize (lnputw s (whN p l i : Nat) (k : Nat) (v : Nat)).2 = s1 at hq w1 db1
          refine ⟨b, 0, rfl, _, wb1.c0, line_Took.c w1 (fun t => ⟨_, rfl, xsIf_t rfl ?_⟩) fun t => ⟨_, rfl, xsIf_f rfl ?_⟩⟩
          · rw [if_pos (took_yes t)] at hq
            exact hq _ db1 st1.left
          · rw [if_neg (took_no t)] at hq
            exact spare_Bank_retire.c (by omega) db1 fun h2 db2 st2 => ⟨_, rfl, hq h2 db2 (st1.left.trans st2)⟩
  · refine xsIf_intro (fun e1 => ?_) fun e1 => xsIf_intro (fun e2 => ?_) fun e2 => ?_
    · have e1 := of_decide_eq_true e1
      rw [if_neg (by omega)] at hq
      exact hq h w (Step.refl _ _)
    · have e2 := of_decide_eq_true e2
      rw [if_neg (by omega)] at hq
      exact hq h w (Step.refl _ _)
    · have e1 := of_decide_eq_false e1
      have e2 := of_decide_eq_false e2
      rw [if_pos (by omega), if_neg h0] at hq
      exact xsIf_t rfl (hq h w (Step.refl _ _))
end
end Go.Gb
namespace Go.Gb
open Go.Proofs IntWalk

/-! ## gabionref05 over the same pure state -/

section
variable {h : Heap} {Q : Value → Heap → Prop} {a l s n : Int} {p : Pl}

end

section
variable {F : Nat → Prop} {h : Heap} {m : Nat} {s : PmS} {p : Pl} {l : List Nat} {Q : Value → Heap → Prop}

abbrev natsI (l : List Nat) : List Int := l.map fun (k : Nat) => (k : Int)

end
end Go.Gb
namespace Go.Gb
open Go.Proofs IntWalk

section
variable {F : Nat → Prop} {m : Nat} {p : Pl} {Q : Value → Heap → Prop}

/-- What lasts is these bytes. -/
theorem media_took {s : PmS} {a : Nat} {B : ByteArray} (ok : PmOk s) (ha : a < s.nl) (hb : B.size = 64) : (lnbytes (fun k => (s.media (8 * a + k)).toNat) = B) ↔ took s a B = true := by
  have hv : ∀ k, (s.media (8 * a + k)).toNat < 18446744073709551616 ∧ s.media (8 * a + k) = (((s.media (8 * a + k)).toNat : Nat) : Int) := fun k => by
    have := ok.media (8 * a + k); unfold R64 at this; omega
  have wx : ∀ k, k < 8 → wordAt (lnbytes fun k => (s.media (8 * a + k)).toNat) k = (s.media (8 * a + k)).toNat := fun k hk => wordAt_text hk (hv k).1
  have lt : lthere s (a : Int) = 0 := by unfold lthere; exact if_pos (by omega)
  constructor
  · intro e
    refine took_yes ⟨hb, lt, fun k hk => ?_⟩
    rw [Int.toNat_natCast, ← e, wx k hk]; exact (hv k).2
  · intro t
    have t : lntook s (a : Int) B := Classical.byContradiction fun n => took_no n t
    refine bytes_word_eq (lnbytes_size _) hb fun k hk => ?_
    rw [wx k hk]
    have h1 := t.2.2 k hk
    rw [Int.toNat_natCast] at h1
    have h2 := (hv k).2
    omega

variable {h : Heap} {s : PmS} {l : List Nat}

theorem ents_small (sp : SpI p s l) : ∀ x ∈ l, x < 1000000 := fun x hx => by
  obtain ⟨k, hk, rfl⟩ := List.getElem_of_mem hx
  have := (entsTo_some _ _ sp.en).2.2.2 k hk
  have hl := sp.ok.l2
  obtain ⟨h1, h2, _⟩ := this
  rw [List.getD_eq_getElem?_getD, List.getElem?_eq_getElem hk] at h1
  have h1 : l[k] = twd s p k % 281474976710656 := h1
  have := (of_decide_eq_true h2).2
  omega

theorem zero64_eq : (⟨(List.replicate 64 (0 : UInt8)).toArray⟩ : ByteArray) = zero64 := by
  unfold zero64
  have : ∀ n, List.replicate n (0 : UInt8) = Lib.repeatL [UInt8.ofNat 0] n := by
    intro n
    induction n with
    | zero => rfl
    | succ n ih => rw [List.replicate_succ, ih]; rfl
  rw [this]

end
end Go.Gb
namespace Go.Gb
open Go.Proofs IntWalk

/-! ## Mixed; LineMixes -/

def mixP (was is0 got : ByteArray) : Prop := was.size = 64 ∧ is0.size = 64 ∧ got.size = 64 ∧ ∀ k, k < 8 → wordAt got k = wordAt was k ∨ wordAt got k = wordAt is0 k

theorem sext_chunk (s : ByteArray) (k : Nat) : sext s ((8 * k : Nat) : Int) ((8 * k + 8 : Nat) : Int) = ⟨(chunk s.data.toList k).toArray⟩ := by
  unfold sext chunk
  apply ByteArray.ext
  rw [Int.toNat_natCast, Int.toNat_natCast, ByteArray.data_extract]
  apply Array.ext'
  rw [Array.toList_extract, List.extract_eq_take_drop, show 8 * k + 8 - 8 * k = 8 by omega]
theorem sext_word {s : ByteArray} {k : Nat} (hs : s.size = 64) (hk : k < 8) : sext s ((8 * k : Nat) : Int) ((8 * k + 8 : Nat) : Int) = ⟨(putL (wordAt s k) 8).toArray⟩ := by
  rw [sext_chunk, put_word s hs k hk]
theorem sext_eq {x y : ByteArray} {k : Nat} (hx : x.size = 64) (hy : y.size = 64) (hk : k < 8) : sext x ((8 * k : Nat) : Int) ((8 * k + 8 : Nat) : Int) = sext y ((8 * k : Nat) : Int) ((8 * k + 8 : Nat) : Int) ↔ wordAt x k = wordAt y k := by
  constructor
  · intro h
    rw [sext_chunk, sext_chunk] at h
    have h2 : (chunk x.data.toList k) = (chunk y.data.toList k) := by
      have := congrArg (fun b : ByteArray => b.data.toList) h
      simpa using this
    unfold wordAt; rw [h2]
  · intro h
    rw [sext_word hx hk, sext_word hy hk, h]

section
variable {h : Heap} {Q : Value → Heap → Prop} {was is0 got : ByteArray}

end

end Go.Gb
namespace Go.Gb
open Go.Proofs IntWalk

/-! ## What the lines of a bank read -/

def rdN (md : Nat → Int) (a : Nat) : ByteArray := lnbytes fun k => (md (8 * a + k)).toNat
def rd (p : Pl) (s : PmS) (l : List Nat) (j : Nat) : ByteArray := rdN s.media (whN p l j)

theorem rdN_congr {f g : Nat → Int} {a : Nat} (h : ∀ k, k < 8 → f (8 * a + k) = g (8 * a + k)) : rdN f a = rdN g a := by
  unfold rdN lnbytes
  rw [textN_congr 8]
  intro k hk
  rw [h k hk]
theorem rdN_size (f : Nat → Int) (a : Nat) : (rdN f a).size = 64 := lnbytes_size _
theorem rdN_eq {f : Nat → Int} {a : Nat} {B : ByteArray} (hB : B.size = 64) (h : ∀ k, k < 8 → f (8 * a + k) = ((wordAt B k : Nat) : Int)) : rdN f a = B := by
  refine Eq.trans ?_ (lnbytes_words B hB)
  unfold rdN lnbytes
  rw [textN_congr 8]
  intro k hk
  rw [h k hk]; omega

theorem wh_ne {p : Pl} {l : List Nat} {i j : Nat} (hi : i < p.pl) (hj : j < p.pl) (h : i ≠ j) : whN p l i ≠ whN p l j := by
  unfold whN
  cases ei : stands l i with
  | none =>
    cases ej : stands l j with
    | none => unfold ownN; dsimp only; omega
    | some k => unfold ownN sparN; dsimp only; omega
  | some k =>
    cases ej : stands l j with
    | none => unfold ownN sparN; dsimp only; omega
    | some k2 =>
      have h1 := (stN_lt _ ei).2
      have h2 := (stN_lt _ ej).2
      unfold sparN
      dsimp only
      intro e
      have : k = k2 := by omega
      subst this
      omega
theorem wh_spar {p : Pl} {l : List Nat} {j : Nat} (hj : j < p.pl) : whN p l j ≠ sparN p l.length := by
  unfold whN
  cases ej : stands l j with
  | none => unfold ownN sparN; dsimp only; omega
  | some k => have := (stN_lt _ ej).1; unfold sparN; dsimp only; omega
theorem wh_snoc {p : Pl} {l : List Nat} {x j : Nat} : whN p (l ++ [x]) j = if x = j + 1 then sparN p l.length else whN p l j := by
  unfold whN
  rw [stands_snoc]
  by_cases e : x = j + 1
  · simp only [if_pos e]
  · simp only [if_neg e]

/-- What a write comes to, by what the lines read. -/
def Out (p : Pl) (i : Nat) (B : ByteArray) (rd0 : Nat → ByteArray) (M : ByteArray → Prop) (r : Int × PmS × List Nat) : Prop :=
  (r.1 = 0 ∧ SpI p r.2.1 r.2.2 ∧ ∀ j, j < p.pl → rd p r.2.1 r.2.2 j = if j = i then B else rd0 j) ∨
  (r.1 = 10 ∧ SpI p r.2.1 r.2.2 ∧ ∀ j, j < p.pl → rd p r.2.1 r.2.2 j = rd0 j) ∨
  (r.1 = 6 ∧ r.2.1.off = true ∧ PmOk r.2.1 ∧ ∀ ks, ∃ l', SpI p (pboot r.2.1 ks) l' ∧ (∀ j, j < p.pl → j ≠ i → rd p (pboot r.2.1 ks) l' j = rd0 j) ∧ M (rd p (pboot r.2.1 ks) l' i))

section
variable {p : Pl} {s : PmS} {l : List Nat}

/-- A line that is put, as it reads. -/
theorem put_rd (o : On s) {a c : Nat} {B : ByteArray} (ha : a < s.nl) (hc : c < s.nl) (hB : B.size = 64) (h0 : (lnput s (a : Int) B).1 = 0) : rdN (lnput s (a : Int) B).2.media c = if c = a ∧ s.bad a = false then B else rdN s.media c := by
  obtain ⟨_, m⟩ := o.put0 ha hB h0
  by_cases e : c = a ∧ s.bad a = false
  · rw [if_pos e]
    refine rdN_eq hB fun k hk => ?_
    rw [m _ (by omega), if_pos ⟨by omega, e.2⟩, show (8 * c + k) % 8 = k by omega]
  · rw [if_neg e]
    refine rdN_congr fun k hk => ?_
    rw [m _ (by omega), if_neg (fun h => e ⟨by omega, h.2⟩)]
theorem put_boot_rd (o : On s) {a c : Nat} {B : ByteArray} (ha : a < s.nl) (hc : c < s.nl) (hne : c ≠ a) (hB : B.size = 64) (h0 : (lnput s (a : Int) B).1 ≠ 0) (ks : List Bool) : rdN (pboot (lnput s (a : Int) B).2 ks).media c = rdN s.media c := by
  obtain ⟨_, _, h⟩ := o.put6 ha hB h0
  obtain ⟨_, m⟩ := h ks
  refine rdN_congr fun k hk => ?_
  rcases m (8 * c + k) (by omega) with h | h
  · exact h
  · omega
theorem putw_rd (o : On s) {a k0 c : Nat} {v : Int} (ha : a < s.nl) (hk0 : k0 < 8) (hc : c < s.nl) (hne : c ≠ a) (h0 : (lnputw s (a : Int) (k0 : Int) v).1 = 0) : rdN (lnputw s (a : Int) (k0 : Int) v).2.media c = rdN s.media c := by
  obtain ⟨_, m⟩ := o.putw0 ha hk0 h0
  refine rdN_congr fun k hk => ?_
  rw [m _ (by omega), if_neg (fun h => by omega)]
theorem putw_boot_rd (o : On s) {a k0 c : Nat} {v : Int} (ha : a < s.nl) (hk0 : k0 < 8) (hc : c < s.nl) (hne : c ≠ a) (h0 : (lnputw s (a : Int) (k0 : Int) v).1 ≠ 0) (ks : List Bool) : rdN (pboot (lnputw s (a : Int) (k0 : Int) v).2 ks).media c = rdN s.media c := by
  obtain ⟨_, _, h⟩ := o.putw6 ha hk0 h0
  obtain ⟨_, m⟩ := h ks
  refine rdN_congr fun k hk => ?_
  rcases m (8 * c + k) (by omega) with h | h
  · exact h
  · omega

/-- A line that didn't take it is as it was. -/
theorem not_took (o : On s) (ok : PmOk s) {a : Nat} {B : ByteArray} (ha : a < s.nl) (hB : B.size = 64) (h0 : (lnput s (a : Int) B).1 = 0) (ht : ¬ took (lnput s (a : Int) B).2 a B = true) : s.bad a = true := by
  cases e : s.bad a with
  | true => rfl
  | false =>
    have h := put_rd o ha ha hB h0
    rw [if_pos ⟨rfl, e⟩] at h
    exact absurd ((media_took (ok.put _ _) (by rw [lnput_nl]; exact ha) hB).1 h) ht

theorem retire_out {i : Nat} {B : ByteArray} {rd0 : Nat → ByteArray} (hi : i < p.pl) (hB : B.size = 64) : ∀ (m : Nat) (s : PmS) (l : List Nat), l.length + m = p.ps → SpI p s l → (∀ j, j < p.pl → rd p s l j = rd0 j) →
    Out p i B rd0 (fun x => x = rd0 i ∨ x = B) (sretire p i B m s l)
  | 0, s, l, _, w, h => .inr (.inl ⟨rfl, w, h⟩)
  | m + 1, s, l, hm, w, hr => by
    have hll : l.length < p.ps := by omega
    obtain ⟨f1, f2⟩ := spar_fit w.ok hll
    have wl : ∀ {j}, j < p.pl → whN p l j < s.nl ∧ p.pa + tblN p ≤ whN p l j := fun hj => whN_lt w.ok w.len hj
    unfold sretire
    by_cases h0 : (lnput s (sparN p l.length : Nat) B).1 = 0
    · rw [if_pos h0]
      have w1 := w.put f2 f1 hB h0
      have r1 : ∀ j, j < p.pl → rd p (lnput s (sparN p l.length : Nat) B).2 l j = rd0 j := fun j hj => by
        unfold rd
        rw [put_rd w.on f1 (wl hj).1 hB h0, if_neg (fun h => wh_spar hj h.1)]
        exact hr j hj
      have nl1 := lnput_nl s (sparN p l.length : Nat) B
      generalize (lnput s (sparN p l.length : Nat) B).2 = s1 at w1 nl1 r1
      obtain ⟨g1, g2, g3, g4⟩ := say_at w1.ok hll
      have h8 : l.length % 8 < 8 := Nat.mod_lt _ (by omega)
      have far : ∀ {c}, p.pa + tblN p ≤ c → c ≠ p.pa + l.length / 8 := fun h e => by omega
      by_cases ht : took s1 (sparN p l.length) B = true
      · rw [if_pos ht]
        have hx : i + 1 = 65535 ∨ (1 ≤ i + 1 ∧ i + 1 ≤ p.pl) := .inr ⟨by omega, by omega⟩
        have hsp : rdN s1.media (sparN p l.length) = B := (media_took w1.w (by omega) hB).2 ht
        by_cases h2 : (lnputw s1 (p.pa + l.length / 8 : Nat) (l.length % 8 : Nat) (guardN (i + 1) : Nat)).1 = 0
        · rw [if_pos h2]
          refine .inl ⟨h2, w1.say hx hll h2, fun j hj => ?_⟩
          unfold rd
          rw [wh_snoc]
          by_cases e : j = i
          · rw [if_pos (by omega), if_pos e, putw_rd w1.on g1 h8 (by omega) (far f2) h2]; exact hsp
          · rw [if_neg (by omega), if_neg e, putw_rd w1.on g1 h8 (by rw [nl1]; exact (wl hj).1) (far (wl hj).2) h2]; exact r1 j hj
        · have h6 := w1.on.putw6 g1 h8 h2
          have hlt := guardN_lt (i + 1)
          refine .inr (.inr ⟨h6.1, h6.2.1, w1.w.putw _ _ ⟨by omega, by omega⟩, fun ks => ?_⟩)
          rcases w1.boot_say hx hll h2 ks with hs | hs
          · refine ⟨l, hs, fun j hj _ => ?_, .inl ?_⟩
            · unfold rd
              rw [putw_boot_rd w1.on g1 h8 (by rw [nl1]; exact (wl hj).1) (far (wl hj).2) h2]; exact r1 j hj
            · unfold rd
              rw [putw_boot_rd w1.on g1 h8 (by rw [nl1]; exact (wl hi).1) (far (wl hi).2) h2]; exact r1 i hi
          · refine ⟨_, hs, fun j hj hne => ?_, .inr ?_⟩
            · show rdN (pboot (lnputw s1 (p.pa + l.length / 8 : Nat) (l.length % 8 : Nat) (guardN (i + 1) : Nat)).2 ks).media (whN p (l ++ [i + 1]) j) = _
              rw [wh_snoc, if_neg (by omega), putw_boot_rd w1.on g1 h8 (by rw [nl1]; exact (wl hj).1) (far (wl hj).2) h2]; exact r1 j hj
            · show rdN (pboot (lnputw s1 (p.pa + l.length / 8 : Nat) (l.length % 8 : Nat) (guardN (i + 1) : Nat)).2 ks).media (whN p (l ++ [i + 1]) i) = _
              rw [wh_snoc, if_pos rfl, putw_boot_rd w1.on g1 h8 (by omega) (far f2) h2]; exact hsp
      · rw [if_neg ht]
        have hx : (65535 : Nat) = 65535 ∨ (1 ≤ (65535 : Nat) ∧ (65535 : Nat) ≤ p.pl) := .inl rfl
        have pl2 := w.ok.l2
        by_cases h2 : (lnputw s1 (p.pa + l.length / 8 : Nat) (l.length % 8 : Nat) (guardN 65535 : Nat)).1 = 0
        · rw [if_pos h2]
          refine retire_out hi hB m _ (l ++ [65535]) (by simp; omega) (w1.say hx hll h2) fun j hj => ?_
          unfold rd
          rw [wh_snoc, if_neg (by omega), putw_rd w1.on g1 h8 (by rw [nl1]; exact (wl hj).1) (far (wl hj).2) h2]; exact r1 j hj
        · rw [if_neg h2]
          have h6 := w1.on.putw6 g1 h8 h2
          have hlt := guardN_lt 65535
          refine .inr (.inr ⟨h6.1, h6.2.1, w1.w.putw _ _ ⟨by omega, by omega⟩, fun ks => ?_⟩)
          have both : ∀ j, j < p.pl → rdN (pboot (lnputw s1 (p.pa + l.length / 8 : Nat) (l.length % 8 : Nat) (guardN 65535 : Nat)).2 ks).media (whN p l j) = rd0 j := fun j hj => by
            rw [putw_boot_rd w1.on g1 h8 (by rw [nl1]; exact (wl hj).1) (far (wl hj).2) h2]; exact r1 j hj
          rcases w1.boot_say hx hll h2 ks with hs | hs
          · exact ⟨l, hs, fun j hj _ => both j hj, .inl (both i hi)⟩
          · refine ⟨_, hs, fun j hj _ => ?_, .inl ?_⟩
            · show rdN _ (whN p (l ++ [65535]) j) = _
              rw [wh_snoc, if_neg (by omega)]; exact both j hj
            · show rdN _ (whN p (l ++ [65535]) i) = _
              rw [wh_snoc, if_neg (by omega)]; exact both i hi
    · rw [if_neg h0]
      have h6 := w.on.put6 f1 hB h0
      refine .inr (.inr ⟨h6.1, h6.2.1, w.w.put _ _, fun ks => ⟨l, w.boot_put f2 f1 hB h0 ks, fun j hj _ => ?_, .inl ?_⟩⟩)
      · unfold rd
        rw [put_boot_rd w.on f1 (wl hj).1 (wh_spar hj) hB h0]; exact hr j hj
      · unfold rd
        rw [put_boot_rd w.on f1 (wl hi).1 (wh_spar hi) hB h0]; exact hr i hi

theorem Out.weaken {i : Nat} {B : ByteArray} {rd0 : Nat → ByteArray} {M M' : ByteArray → Prop} {r : Int × PmS × List Nat} (o : Out p i B rd0 M r) (h : ∀ x, M x → M' x) : Out p i B rd0 M' r := by
  rcases o with o | o | ⟨a, b, c, d⟩
  · exact .inl o
  · exact .inr (.inl o)
  · refine .inr (.inr ⟨a, b, c, fun ks => ?_⟩)
    obtain ⟨l', x, y, z⟩ := d ks
    exact ⟨l', x, y, h _ z⟩

theorem swrite_out (w : SpI p s l) {i : Nat} {B : ByteArray} (hi : i < p.pl) (hB : B.size = 64) : Out p i B (rd p s l) (fun x => mixP (rd p s l i) B x) (swrite p l s i B) := by
  have wl : ∀ {j}, j < p.pl → whN p l j < s.nl ∧ p.pa + tblN p ≤ whN p l j := fun hj => whN_lt w.ok w.len hj
  obtain ⟨f1, f2⟩ := wl hi
  have hlen := w.len
  have mixr : ∀ x, x = rd p s l i ∨ x = B → mixP (rd p s l i) B x := fun x hx => by
    rcases hx with rfl | rfl
    · exact ⟨rdN_size _ _, hB, rdN_size _ _, fun k _ => .inl rfl⟩
    · exact ⟨rdN_size _ _, hB, hB, fun k _ => .inr rfl⟩
  unfold swrite
  by_cases h0 : (lnput s (whN p l i : Nat) B).1 = 0
  · rw [if_pos h0]
    have w1 := w.put f2 f1 hB h0
    by_cases ht : took (lnput s (whN p l i : Nat) B).2 (whN p l i) B = true
    · rw [if_pos ht]
      refine .inl ⟨rfl, w1, fun j hj => ?_⟩
      by_cases e : j = i
      · rw [if_pos e, e]
        exact (media_took w1.w (by rw [lnput_nl]; exact f1) hB).2 ht
      · rw [if_neg e]
        unfold rd
        rw [put_rd w.on f1 (wl hj).1 hB h0, if_neg (fun h => wh_ne hj hi e h.1)]
    · rw [if_neg ht]
      have hbad := not_took w.on w.w f1 hB h0 ht
      refine (retire_out hi hB (p.ps - l.length) _ l (by omega) w1 fun j hj => ?_).weaken mixr
      unfold rd
      rw [put_rd w.on f1 (wl hj).1 hB h0, if_neg (fun h => by rw [hbad] at h; cases h.2)]
  · rw [if_neg h0]
    have h6 := w.on.put6 f1 hB h0
    refine .inr (.inr ⟨h6.1, h6.2.1, w.w.put _ _, fun ks => ⟨l, w.boot_put f2 f1 hB h0 ks, fun j hj hne => ?_, ?_⟩⟩)
    · unfold rd
      rw [put_boot_rd w.on f1 (wl hj).1 (wh_ne hj hi hne) hB h0]
    · obtain ⟨o, m⟩ := h6.2.2 ks
      have ok6 := (w.w.put (whN p l i : Nat) B).boot ks
      have hv : ∀ w', ((pboot (lnput s (whN p l i : Nat) B).2 ks).media w').toNat < 18446744073709551616 ∧ 0 ≤ (pboot (lnput s (whN p l i : Nat) B).2 ks).media w' := fun w' => by
        have := ok6.media w'; unfold R64 at this; omega
      have hv0 : ∀ w', (s.media w').toNat < 18446744073709551616 := fun w' => by have := w.w.media w'; unfold R64 at this; omega
      refine ⟨rdN_size _ _, hB, rdN_size _ _, fun k hk => ?_⟩
      unfold rd rdN
      rw [wordAt_text hk (hv _).1, wordAt_text hk (hv0 _)]
      rcases m (8 * whN p l i + k) (by omega) with h | ⟨_, _, h⟩
      · left; rw [h]
      · right; rw [h, show (8 * whN p l i + k) % 8 = k by omega]; omega

theorem swritew_out (w : SpI p s l) {i k v : Nat} (hi : i < p.pl) (hk : k < 8) (hv : v < 18446744073709551616) : Out p i (withW (rd p s l i) k v) (rd p s l) (fun x => x = rd p s l i ∨ x = withW (rd p s l i) k v) (swritew p l s i k v) := by
  have wl : ∀ {j}, j < p.pl → whN p l j < s.nl ∧ p.pa + tblN p ≤ whN p l j := fun hj => whN_lt w.ok w.len hj
  obtain ⟨f1, f2⟩ := wl hi
  have hlen := w.len
  have hr : R64 ((v : Nat) : Int) := ⟨by omega, by omega⟩
  have hB := withW_size (rd p s l i) k v
  unfold swritew
  rw [lnget_on w.on f1, if_pos rfl]
  show Out p i (withW (rd p s l i) k v) (rd p s l) _ (if (lnputw s (whN p l i : Nat) (k : Nat) (v : Nat)).1 = 0 then
      (if took (lnputw s (whN p l i : Nat) (k : Nat) (v : Nat)).2 (whN p l i) (withW (rd p s l i) k v) = true then (0, (lnputw s (whN p l i : Nat) (k : Nat) (v : Nat)).2, l)
        else sretire p i (withW (rd p s l i) k v) (p.ps - l.length) (lnputw s (whN p l i : Nat) (k : Nat) (v : Nat)).2 l)
    else ((lnputw s (whN p l i : Nat) (k : Nat) (v : Nat)).1, (lnputw s (whN p l i : Nat) (k : Nat) (v : Nat)).2, l))
  have hv0 : ∀ w', (s.media w').toNat < 18446744073709551616 ∧ s.media w' = (((s.media w').toNat : Nat) : Int) := fun w' => by have := w.w.media w'; unfold R64 at this; omega
  have wd : ∀ j, j < 8 → wordAt (rd p s l i) j = (s.media (8 * whN p l i + j)).toNat := fun j hj => wordAt_text hj (hv0 _).1
  have wb : ∀ j, j < 8 → wordAt (withW (rd p s l i) k v) j = if j = k then v else wordAt (rd p s l i) j := fun j hj => wordAt_text hj (by split; exact hv; exact wordAt_lt _ _)
  by_cases h0 : (lnputw s (whN p l i : Nat) (k : Nat) (v : Nat)).1 = 0
  · rw [if_pos h0]
    have w1 := w.putw f2 f1 hk hr h0
    obtain ⟨o, m⟩ := w.on.putw0 f1 hk h0
    by_cases ht : took (lnputw s (whN p l i : Nat) (k : Nat) (v : Nat)).2 (whN p l i) (withW (rd p s l i) k v) = true
    · rw [if_pos ht]
      refine .inl ⟨rfl, w1, fun j hj => ?_⟩
      by_cases e : j = i
      · rw [if_pos e, e]
        exact (media_took w1.w (by rw [lnputw_nl]; exact f1) hB).2 ht
      · rw [if_neg e]
        unfold rd
        rw [putw_rd w.on f1 hk (wl hj).1 (wh_ne hj hi e) h0]
    · rw [if_neg ht]
      have hbad : s.bad (whN p l i) = true := by
        cases e : s.bad (whN p l i) with
        | true => rfl
        | false =>
          refine absurd ((media_took w1.w (by rw [lnputw_nl]; exact f1) hB).1 ?_) ht
          refine rdN_eq hB fun j hj => ?_
          rw [m _ (by omega), wb j hj]
          by_cases ej : j = k
          · rw [if_pos ⟨by omega, e⟩, if_pos ej]
          · rw [if_neg (fun h => by omega), if_neg ej, wd j hj]; exact (hv0 _).2
      refine retire_out hi hB (p.ps - l.length) _ l (by omega) w1 fun j hj => ?_
      unfold rd
      refine rdN_congr fun q hq => ?_
      have := (wl hj).1
      rw [m _ (by omega), if_neg (fun h => by rw [hbad] at h; cases h.2)]
  · rw [if_neg h0]
    have h6 := w.on.putw6 f1 hk h0
    refine .inr (.inr ⟨h6.1, h6.2.1, w.w.putw _ _ hr, fun ks => ⟨l, w.boot_putw f2 f1 hk hr h0 ks, fun j hj hne => ?_, ?_⟩⟩)
    · unfold rd
      rw [putw_boot_rd w.on f1 hk (wl hj).1 (wh_ne hj hi hne) h0]
    · obtain ⟨o, m⟩ := h6.2.2 ks
      have hk8 := m (8 * whN p l i + k) (by omega)
      have oth : ∀ j, j < 8 → j ≠ k → (pboot (lnputw s (whN p l i : Nat) (k : Nat) (v : Nat)).2 ks).media (8 * whN p l i + j) = s.media (8 * whN p l i + j) := fun j hj hne => by
        rcases m (8 * whN p l i + j) (by omega) with h | ⟨h, _⟩
        · exact h
        · omega
      rcases hk8 with h | ⟨_, _, h⟩
      · left
        unfold rd
        refine rdN_congr fun j hj => ?_
        by_cases ej : j = k
        · rw [ej]; exact h
        · exact oth j hj ej
      · right
        refine rdN_eq hB fun j hj => ?_
        rw [wb j hj]
        by_cases ej : j = k
        · rw [if_pos ej, ej]; exact h
        · rw [if_neg ej, wd j hj, oth j hj ej]; exact (hv0 _).2
end
end Go.Gb
namespace Go.Gb
open Go.Proofs IntWalk

/-! ## ring, pure -/

structure RPl where
  pa : Nat
  pl : Nat
  ps : Nat
  psi : Nat
def RPl.bk (p : RPl) : Pl := ⟨p.pa, p.pl + 2, p.ps⟩

structure Gp where
  s0 : Int
  s1 : Int
  s2 : Int
structure RS where
  s : PmS
  l : List Nat
  g : Gp
  n : Nat

structure Gp.ok (g : Gp) (pl : Nat) : Prop where
  r : rightP g.s0 g.s1 pl
  l : 0 ≤ g.s2
  h : g.s2 < 4294967296
def Gp.pk (g : Gp) : Nat := (Gb.pk g.s0 g.s1 g.s2).toNat
def Gp.slot (g : Gp) (pl i : Nat) : Nat := (slotE g.s0 g.s1 pl i).toNat
def Gp.next (g : Gp) (pl : Nat) : Gp := ⟨(nextS g.s0 g.s1 g.s2 pl).1, (nextS g.s0 g.s1 g.s2 pl).2.1, (nextS g.s0 g.s1 g.s2 pl).2.2.1⟩
def Gp.src (g : Gp) (pl : Nat) : Nat := (nextS g.s0 g.s1 g.s2 pl).2.2.2.1.toNat
def Gp.dst (g : Gp) (pl : Nat) : Nat := (nextS g.s0 g.s1 g.s2 pl).2.2.2.2.toNat

theorem pk_lt {s0 s1 s2 : Int} (h0 : 0 ≤ s2) (h1 : s2 < 4294967296) : 0 ≤ pk s0 s1 s2 ∧ pk s0 s1 s2 < 18446744073709551616 := by unfold pk; omega
theorem Gp.pk_int (g : Gp) (h0 : 0 ≤ g.s2) (h1 : g.s2 < 4294967296) : ((g.pk : Nat) : Int) = Gb.pk g.s0 g.s1 g.s2 := by
  have := pk_lt (s0 := g.s0) (s1 := g.s1) h0 h1
  unfold Gp.pk; omega
theorem Gp.pk_lt {g : Gp} {pl : Nat} (o : g.ok pl) : g.pk < 18446744073709551616 := by
  have := Gb.pk_lt (s0 := g.s0) (s1 := g.s1) o.l o.h
  unfold Gp.pk; omega

theorem Gp.slot_at {g : Gp} {pl i : Nat} (o : g.ok pl) (hi : i < pl) : ((g.slot pl i : Nat) : Int) = slotE g.s0 g.s1 pl i ∧ g.slot pl i ≤ pl ∧ ((g.slot pl i : Nat) : Int) ≠ g.s1 ∧ lineE g.s0 g.s1 pl (g.slot pl i : Nat) = i := by
  have h := lineE_slotE o.r (i := (i : Int)) (by omega) (by omega)
  have e : ((g.slot pl i : Nat) : Int) = slotE g.s0 g.s1 pl i := by unfold Gp.slot; omega
  rw [e]
  exact ⟨rfl, by unfold Gp.slot; omega, h.2.2.2, h.1⟩
theorem Gp.slot_inj {g : Gp} {pl i j : Nat} (o : g.ok pl) (hi : i < pl) (hj : j < pl) (e : g.slot pl i = g.slot pl j) : i = j := by
  have h1 := (Gp.slot_at o hi).2.2.2
  have h2 := (Gp.slot_at o hj).2.2.2
  rw [e, h2] at h1
  omega

/-- A move: from the slot before the gap to the gap. -/
theorem Gp.move {g : Gp} {pl : Nat} (o : g.ok pl) : (g.next pl).ok pl ∧ ((g.dst pl : Nat) : Int) = g.s1 ∧ g.dst pl ≤ pl ∧ g.src pl ≤ pl ∧ g.src pl ≠ g.dst pl ∧ ((g.src pl : Nat) : Int) = (g.next pl).s1 ∧ (g.next pl).s2 = IntKind.u32.wrap (g.s2 + 1) ∧
    ∀ i, i < pl → (g.next pl).slot pl i = if g.slot pl i = g.src pl then g.dst pl else g.slot pl i := by
  obtain ⟨t0, t1, e, hr, hne, hm, _, _⟩ := nextS_move (s2 := g.s2) o.r
  have hr' := hr
  have ho := o.r
  unfold rightP at hr' ho
  have e1 : g.next pl = ⟨t0, t1, IntKind.u32.wrap (g.s2 + 1)⟩ := by unfold Gp.next; rw [e]
  have e2 : g.src pl = t1.toNat := by unfold Gp.src; rw [e]
  have e3 : g.dst pl = g.s1.toNat := by unfold Gp.dst; rw [e]
  have hw : 0 ≤ IntKind.u32.wrap (g.s2 + 1) ∧ IntKind.u32.wrap (g.s2 + 1) < 4294967296 := by rw [u32_w]; omega
  have ok : (g.next pl).ok pl := by rw [e1]; exact ⟨hr, hw.1, hw.2⟩
  refine ⟨ok, by omega, by omega, by omega, by omega, by rw [e1]; show ((g.src pl : Nat) : Int) = t1; omega, by rw [e1], fun i hi => ?_⟩
  obtain ⟨a1, a2, a3, a4⟩ := Gp.slot_at o hi
  have b1 := Gp.slot_at ok hi
  generalize hq : g.slot pl i = q at a1 a2 a3 a4
  rw [e2, e3]
  have hs : ∀ q' : Nat, q' ≤ pl → (q' : Int) ≠ t1 → lineE t0 t1 pl q' = i → (g.next pl).slot pl i = q' := fun q' h1 h2 h3 => by
    have := (slotE_lineE hr (p := (q' : Int)) (by omega) (by omega) h2).1
    rw [h3] at this
    unfold Gp.slot
    rw [e1]
    show (slotE t0 t1 pl i).toNat = q'
    omega
  by_cases h : q = t1.toNat
  · rw [if_pos h]
    refine hs _ (by omega) (by omega) ?_
    have := hm g.s1 (by omega) (by omega)
    rw [if_neg (fun h => hne h.symm), if_pos rfl] at this
    rw [show ((g.s1.toNat : Nat) : Int) = g.s1 by omega, this, ← a4, show (q : Int) = t1 by omega]
  · rw [if_neg h]
    refine hs _ a2 (by omega) ?_
    have := hm (q : Int) (by omega) (by omega)
    rw [if_neg (by omega), if_neg a3] at this
    rw [this, a4]

noncomputable def rmove2 (x : RS) (g' : Gp) (b : Int × PmS × List Nat) : Int × RS := if b.1 = 0 then (0, ⟨b.2.1, b.2.2, g', 0⟩) else (b.1, ⟨b.2.1, b.2.2, x.g, x.n⟩)
noncomputable def rmove1 (p : RPl) (x : RS) (a : Int × PmS × List Nat) : Int × RS :=
  if a.1 = 0 then rmove2 x (x.g.next p.pl) (swritew p.bk a.2.2 a.2.1 (p.pl + 1) 0 (x.g.next p.pl).pk) else (a.1, ⟨a.2.1, a.2.2, x.g, x.n⟩)
/-- The region moves on. -/
noncomputable def rmove (p : RPl) (x : RS) : Int × RS := rmove1 p x (swrite p.bk x.l x.s (x.g.dst p.pl) (rd p.bk x.s x.l (x.g.src p.pl)))

noncomputable def rput2 (x : RS) (r : Int × PmS × List Nat) : Int × RS := (r.1, ⟨r.2.1, r.2.2, x.g, if r.1 = 0 then x.n + 1 else x.n⟩)
noncomputable def rput (p : RPl) (f : PmS → List Nat → Nat → Int × PmS × List Nat) (x : RS) (i : Nat) : Int × RS := rput2 x (f x.s x.l (x.g.slot p.pl i))
/-- A line's slot is written, perhaps behind a move. -/
noncomputable def rwrite (p : RPl) (f : PmS → List Nat → Nat → Int × PmS × List Nat) (x : RS) (i : Nat) : Int × RS :=
  if p.psi ≤ x.n then (if (rmove p x).1 = 0 then rput p f (rmove p x).2 i else rmove p x) else rput p f x i

/-- What a line of the region reads. -/
def rr (p : RPl) (x : RS) (j : Nat) : ByteArray := rd p.bk x.s x.l (x.g.slot p.pl j)

structure RgI (p : RPl) (x : RS) : Prop where
  sp : SpI p.bk x.s x.l
  g : x.g.ok p.pl
  reg : wordAt (rd p.bk x.s x.l (p.pl + 1)) 0 = x.g.pk
  l1 : 1 ≤ p.pl
  l2 : p.pl ≤ 1024
  q1 : 1 ≤ p.psi
  q2 : p.psi ≤ 65535
  n : x.n ≤ p.psi

theorem bk_pl (p : RPl) : p.bk.pl = p.pl + 2 := rfl

/-- Another state of the same region: the lines that count are as they were. -/
theorem RgI.keep {p : RPl} {x x' : RS} (w : RgI p x) (sp : SpI p.bk x'.s x'.l) (hg : x'.g = x.g) (hn : x'.n ≤ p.psi) (hreg : rd p.bk x'.s x'.l (p.pl + 1) = rd p.bk x.s x.l (p.pl + 1)) : RgI p x' :=
  ⟨sp, by rw [hg]; exact w.g, by rw [hreg, hg]; exact w.reg, w.l1, w.l2, w.q1, w.q2, hn⟩

def MOut (p : RPl) (x : RS) (r : Int × RS) : Prop :=
  (r.1 = 0 ∧ RgI p r.2 ∧ (∀ j, j < p.pl → rr p r.2 j = rr p x j) ∧ r.2.n = 0 ∧ r.2.g = x.g.next p.pl) ∨
  (r.1 = 10 ∧ RgI p r.2 ∧ (∀ j, j < p.pl → rr p r.2 j = rr p x j) ∧ r.2.n = x.n ∧ r.2.g = x.g) ∨
  (r.1 = 6 ∧ r.2.s.off = true ∧ PmOk r.2.s ∧ ∀ ks, ∃ l' g', RgI p ⟨pboot r.2.s ks, l', g', 0⟩ ∧ ∀ j, j < p.pl → rr p ⟨pboot r.2.s ks, l', g', 0⟩ j = rr p x j)

theorem wordAt_withW {b : ByteArray} {v : Nat} (hv : v < 18446744073709551616) : wordAt (withW b 0 v) 0 = v := by
  have := wordAt_text (f := fun j => if j = 0 then v else wordAt b j) (k := 0) (by omega) (by rw [if_pos rfl]; exact hv)
  rw [if_pos rfl] at this
  exact this

theorem rmove_out {p : RPl} {x : RS} (w : RgI p x) : MOut p x (rmove p x) := by
  obtain ⟨ok, d1, d2, d3, d4, d5, _, mv⟩ := Gp.move w.g
  have hB := rdN_size x.s.media (whN p.bk x.l (x.g.src p.pl))
  have o := swrite_out w.sp (i := x.g.dst p.pl) (B := rd p.bk x.s x.l (x.g.src p.pl)) (by rw [bk_pl]; omega) hB
  have hn0 : (0 : Nat) ≤ p.psi := Nat.zero_le _
  unfold rmove
  generalize swrite p.bk x.l x.s (x.g.dst p.pl) (rd p.bk x.s x.l (x.g.src p.pl)) = a at o
  unfold rmove1
  have sl : ∀ j, j < p.pl → x.g.slot p.pl j < p.bk.pl ∧ x.g.slot p.pl j ≠ x.g.dst p.pl ∧ x.g.slot p.pl j ≠ p.pl + 1 := fun j hj => by
    have := Gp.slot_at w.g hj
    rw [bk_pl]; exact ⟨by omega, by omega, by omega⟩
  have rg : p.pl + 1 < p.bk.pl ∧ p.pl + 1 ≠ x.g.dst p.pl := by rw [bk_pl]; omega
  rcases o with ⟨e, sp, m⟩ | ⟨e, sp, m⟩ | ⟨e, off, pok, m⟩
  · rw [if_pos e]
    have hreg : rd p.bk a.2.1 a.2.2 (p.pl + 1) = rd p.bk x.s x.l (p.pl + 1) := by rw [m _ rg.1, if_neg rg.2]
    have hl : ∀ j, j < p.pl → rd p.bk a.2.1 a.2.2 (x.g.slot p.pl j) = rr p x j := fun j hj => by rw [m _ (sl j hj).1, if_neg (sl j hj).2.1]; rfl
    have hdst : rd p.bk a.2.1 a.2.2 (x.g.dst p.pl) = rd p.bk x.s x.l (x.g.src p.pl) := by rw [m _ (by rw [bk_pl]; omega), if_pos rfl]
    have o2 := swritew_out sp (i := p.pl + 1) (k := 0) (v := (x.g.next p.pl).pk) rg.1 (by omega) (Gp.pk_lt ok)
    have w0 : RgI p ⟨a.2.1, a.2.2, x.g, x.n⟩ := w.keep sp rfl w.n hreg
    generalize a.2.1 = s1 at sp hreg hl hdst o2 w0
    generalize a.2.2 = l1 at sp hreg hl hdst o2 w0
    generalize swritew p.bk l1 s1 (p.pl + 1) 0 (x.g.next p.pl).pk = b at o2
    unfold rmove2
    /- the lines behind the move -/
    have after : ∀ (s' : PmS) (l' : List Nat), (∀ j, j < p.bk.pl → j ≠ p.pl + 1 → rd p.bk s' l' j = rd p.bk s1 l1 j) → ∀ j, j < p.pl → rd p.bk s' l' ((x.g.next p.pl).slot p.pl j) = rr p x j := fun s' l' hh j hj => by
      rw [mv j hj]
      by_cases e : x.g.slot p.pl j = x.g.src p.pl
      · rw [if_pos e, hh _ (by rw [bk_pl]; omega) (by omega), hdst, ← e]; rfl
      · rw [if_neg e, hh _ (sl j hj).1 (sl j hj).2.2]; exact hl j hj
    have newreg : ∀ (s' : PmS) (l' : List Nat) (n : Nat), n ≤ p.psi → SpI p.bk s' l' → rd p.bk s' l' (p.pl + 1) = withW (rd p.bk s1 l1 (p.pl + 1)) 0 (x.g.next p.pl).pk → RgI p ⟨s', l', x.g.next p.pl, n⟩ := fun s' l' n hn sp' e' =>
      ⟨sp', ok, by show wordAt (rd p.bk s' l' (p.pl + 1)) 0 = _; rw [e', wordAt_withW (Gp.pk_lt ok)], w.l1, w.l2, w.q1, w.q2, hn⟩
    rcases o2 with ⟨e2, sp2, m2⟩ | ⟨e2, sp2, m2⟩ | ⟨e2, off2, pok2, m2⟩
    · rw [if_pos e2]
      refine .inl ⟨rfl, newreg _ _ _ hn0 sp2 (by rw [m2 _ rg.1, if_pos rfl]), after _ _ fun j hj hne => by rw [m2 j hj, if_neg hne], rfl, rfl⟩
    · rw [if_neg (by omega)]
      exact .inr (.inl ⟨e2, w0.keep sp2 rfl w.n (m2 _ rg.1), fun j hj => (m2 _ (sl j hj).1).trans (hl j hj), rfl, rfl⟩)
    · rw [if_neg (by omega)]
      refine .inr (.inr ⟨e2, off2, pok2, fun ks => ?_⟩)
      obtain ⟨l', sp', m', y⟩ := m2 ks
      rcases y with y | y
      · exact ⟨l', x.g, w0.keep sp' rfl hn0 y, fun j hj => (m' _ (sl j hj).1 (sl j hj).2.2).trans (hl j hj)⟩
      · exact ⟨l', x.g.next p.pl, newreg _ _ _ hn0 sp' y, after _ _ m'⟩
  · rw [if_neg (by omega)]
    exact .inr (.inl ⟨e, w.keep sp rfl w.n (m _ rg.1), fun j hj => m _ (sl j hj).1, rfl, rfl⟩)
  · rw [if_neg (by omega)]
    refine .inr (.inr ⟨e, off, pok, fun ks => ?_⟩)
    obtain ⟨l', sp', m', -⟩ := m ks
    exact ⟨l', x.g, w.keep sp' rfl hn0 (m' _ rg.1 rg.2), fun j hj => m' _ (sl j hj).1 (sl j hj).2.1⟩

def ROut (p : RPl) (i : Nat) (B : ByteArray) (rd0 : Nat → ByteArray) (M : ByteArray → Prop) (r : Int × RS) : Prop :=
  (r.1 = 0 ∧ RgI p r.2 ∧ ∀ j, j < p.pl → rr p r.2 j = if j = i then B else rd0 j) ∨
  (r.1 = 10 ∧ RgI p r.2 ∧ ∀ j, j < p.pl → rr p r.2 j = rd0 j) ∨
  (r.1 = 6 ∧ r.2.s.off = true ∧ PmOk r.2.s ∧ ∀ ks, ∃ l' g', RgI p ⟨pboot r.2.s ks, l', g', 0⟩ ∧ (∀ j, j < p.pl → j ≠ i → rr p ⟨pboot r.2.s ks, l', g', 0⟩ j = rd0 j) ∧ M (rr p ⟨pboot r.2.s ks, l', g', 0⟩ i))

/-- What is written at a slot: the whole line, or a word of it. -/
def FOut (p : RPl) (x : RS) (f : PmS → List Nat → Nat → Int × PmS × List Nat) (T : ByteArray → ByteArray) (M : ByteArray → ByteArray → Prop) : Prop :=
  ∀ (s : PmS) (l : List Nat) (k : Nat), k < p.bk.pl → SpI p.bk s l → Out p.bk k (T (rd p.bk s l k)) (rd p.bk s l) (M (rd p.bk s l k)) (f s l k)

theorem rput_out {p : RPl} {x : RS} {f : PmS → List Nat → Nat → Int × PmS × List Nat} {T : ByteArray → ByteArray} {M : ByteArray → ByteArray → Prop} (w : RgI p x) (hn : x.n < p.psi) {i : Nat} (hi : i < p.pl) (hf : FOut p x f T M) :
    ROut p i (T (rr p x i)) (rr p x) (M (rr p x i)) (rput p f x i) := by
  obtain ⟨-, a2, a3, -⟩ := Gp.slot_at w.g hi
  have o := hf x.s x.l (x.g.slot p.pl i) (by rw [bk_pl]; omega) w.sp
  unfold rput
  generalize f x.s x.l (x.g.slot p.pl i) = r at o
  unfold rput2
  have sl : ∀ j, j < p.pl → x.g.slot p.pl j < p.bk.pl := fun j hj => by
    have := Gp.slot_at w.g hj
    rw [bk_pl]; omega
  have rg : p.pl + 1 < p.bk.pl ∧ p.pl + 1 ≠ x.g.slot p.pl i := by rw [bk_pl]; omega
  rcases o with ⟨e, sp, m⟩ | ⟨e, sp, m⟩ | ⟨e, off, pok, m⟩
  · refine .inl ⟨e, w.keep sp rfl ?_ (by show rd p.bk r.2.1 r.2.2 (p.pl + 1) = _; rw [m _ rg.1, if_neg rg.2]), fun j hj => ?_⟩
    · show (if r.1 = 0 then x.n + 1 else x.n) ≤ _
      split <;> omega
    · show rd p.bk r.2.1 r.2.2 (x.g.slot p.pl j) = _
      rw [m _ (sl j hj)]
      by_cases e : j = i
      · rw [if_pos (by rw [e]), if_pos e]; rfl
      · rw [if_neg (fun h => e (Gp.slot_inj w.g hj hi h)), if_neg e]; rfl
  · exact .inr (.inl ⟨e, w.keep sp rfl (by show (if r.1 = 0 then x.n + 1 else x.n) ≤ _; split <;> omega) (m _ rg.1), fun j hj => m _ (sl j hj)⟩)
  · refine .inr (.inr ⟨e, off, pok, fun ks => ?_⟩)
    obtain ⟨l', sp', m', y⟩ := m ks
    exact ⟨l', x.g, w.keep sp' rfl (Nat.zero_le _) (m' _ rg.1 rg.2), fun j hj hne => m' _ (sl j hj) fun h => hne (Gp.slot_inj w.g hj hi h), y⟩

theorem rwrite_out {p : RPl} {x : RS} {f : PmS → List Nat → Nat → Int × PmS × List Nat} {T : ByteArray → ByteArray} {M : ByteArray → ByteArray → Prop} (w : RgI p x) {i : Nat} (hi : i < p.pl) (hf : FOut p x f T M) (hM : M (rr p x i) (rr p x i)) :
    ROut p i (T (rr p x i)) (rr p x) (M (rr p x i)) (rwrite p f x i) := by
  unfold rwrite
  by_cases h : p.psi ≤ x.n
  · rw [if_pos h]
    rcases rmove_out w with ⟨e, w1, m, n0, _⟩ | ⟨e, w1, m, _⟩ | ⟨e, off, pok, m⟩
    · rw [if_pos e]
      have o := rput_out w1 (by have := w.q1; omega) hi (f := f) (T := T) (M := M) hf
      rw [m i hi] at o
      rcases o with ⟨e2, w2, m2⟩ | ⟨e2, w2, m2⟩ | ⟨e2, off, pok, m2⟩
      · exact .inl ⟨e2, w2, fun j hj => by
          rw [m2 j hj]
          by_cases e : j = i
          · rw [if_pos e, if_pos e]
          · rw [if_neg e, if_neg e]; exact m j hj⟩
      · exact .inr (.inl ⟨e2, w2, fun j hj => (m2 j hj).trans (m j hj)⟩)
      · refine .inr (.inr ⟨e2, off, pok, fun ks => ?_⟩)
        obtain ⟨l', g', w', m', y⟩ := m2 ks
        exact ⟨l', g', w', fun j hj hne => (m' j hj hne).trans (m j hj), y⟩
    · rw [if_neg (by omega)]
      exact .inr (.inl ⟨e, w1, m⟩)
    · rw [if_neg (by omega)]
      refine .inr (.inr ⟨e, off, pok, fun ks => ?_⟩)
      obtain ⟨l', g', w', m'⟩ := m ks
      exact ⟨l', g', w', fun j hj _ => m' j hj, by rw [m' i hi]; exact hM⟩
  · rw [if_neg h]
    exact rput_out w (by omega) hi hf
end Go.Gb
namespace Go.Gb
open Go.Proofs IntWalk

/-! ## gabionlaw05: a new bank; wakes -/

theorem getL_zero : ∀ n, getL (List.replicate n (0 : UInt8)) = 0
  | 0 => rfl
  | n + 1 => by rw [List.replicate_succ]; show (0 : UInt8).toNat + 256 * getL (List.replicate n 0) = 0; rw [getL_zero n]; rfl
theorem zero64_list : zero64.data.toList = List.replicate 64 (0 : UInt8) := by
  unfold zero64
  have : ∀ n, List.replicate n (0 : UInt8) = Lib.repeatL [UInt8.ofNat 0] n := by
    intro n
    induction n with
    | zero => rfl
    | succ n ih => rw [List.replicate_succ, ih]; rfl
  rw [this 64]
theorem zero64_word (k : Nat) : wordAt zero64 k = 0 := by
  unfold wordAt chunk
  rw [zero64_list, List.drop_replicate, List.take_replicate]
  exact getL_zero _

theorem sfmt_clean {p : Pl} : ∀ (j k : Nat) (s : PmS), Cl s → (∀ w, w < 8 * s.nl → s.media w = 0) → p.pa + k + j ≤ s.nl → s.count + 10 * j < 900000000 → PmOk s →
    ∃ s', sfmt p zero64 j k s = (0, s') ∧ Cl s' ∧ (∀ w, w < 8 * s.nl → s'.media w = 0) ∧ s'.nl = s.nl ∧ s'.bad = s.bad ∧ s'.count = s.count + 10 * j ∧ PmOk s'
  | 0, k, s, c, m, _, _, o => ⟨s, rfl, c, m, rfl, rfl, by omega, o⟩
  | j + 1, k, s, c, m, hf, hc, o => by
    have c0 := c.c0
    obtain ⟨s1, e1, c1, n1, b1, k1, m1⟩ := lnput_clean (b := zero64) c (show p.pa + k < s.nl by omega) zero64_size
    have o1 : PmOk s1 := by have := o.put (p.pa + k : Nat) zero64; rw [e1] at this; exact this
    have hm1 : ∀ w, w < 8 * s.nl → s1.media w = 0 := fun w hw => by
      rw [m1 w hw]
      split
      · rw [zero64_word]; rfl
      · exact m w hw
    obtain ⟨s2, e2, c2, m2, n2, b2, k2, o2⟩ := sfmt_clean (p := p) j (k + 1) s1 (c1.of (by omega) (by omega)) (by rw [n1]; exact hm1) (by rw [n1]; omega) (by omega) o1
    refine ⟨s2, ?_, c2, by rw [← n1]; exact m2, n2.trans n1, b2.trans b1, by omega, o2⟩
    unfold sfmt
    rw [e1, if_pos rfl]; exact e2

theorem Cl.on {s : PmS} (c : Cl s) : On s := ⟨c.off, by rw [c.fuse]; exact Int.le_refl _, c.buf⟩

/-- A new bank on a new device. -/
theorem sformat_new {p : Pl} {n : Nat} (ok : PlOk p n) : ∃ s, sformat p (pnew n) = (0, s) ∧ Cl s ∧ SpI p s [] ∧ s.nl = n ∧ s.bad = (fun _ => false) ∧ (∀ w, w < 8 * n → s.media w = 0) ∧ s.count ≤ 20000 := by
  have fit := ok.fit
  have l2 := ok.l2
  have ht := tblN_le ok.b
  unfold sizeN at fit
  obtain ⟨s, e, c, m, n1, b, k, o⟩ := sfmt_clean (p := p) (tblN p + p.pl) 0 (pnew n) (Cl.new n) (fun _ _ => rfl) (by show p.pa + 0 + (tblN p + p.pl) ≤ n; omega) (by show (0 : Int) + _ < _; omega) (PmOk.new n)
  have n1 : s.nl = n := n1
  have m : ∀ w, w < 8 * n → s.media w = 0 := m
  have k : s.count = 0 + 10 * ((tblN p + p.pl : Nat) : Int) := k
  refine ⟨s, e, c, ⟨ok.of n1, c.on, ?_, fun _ _ _ => by rw [b]; rfl, o⟩, n1, b, m, by omega⟩
  unfold sents
  refine entsTo_zeros (c := 0) rfl p.ps (Nat.zero_le _) fun j _ hj => ?_
  unfold twd
  have f := (tbl_fit ok hj).1
  rw [c.on.val (by rw [n1]; exact f), m _ f]; rfl

abbrev pw : Pl := ⟨0, 4, 2⟩
theorem pw_ok : PlOk pw 7 := ⟨by decide, by decide, by decide, by decide, by decide⟩

theorem wakes_write {s : PmS} {B : ByteArray} (c : Cl s) (o : PmOk s) (nl : s.nl = 7) (b1 : s.bad 1 = true) (b0 : s.bad 0 = false) (b5 : s.bad 5 = false) (m : ∀ w, w < 56 → s.media w = 0) (hc : s.count ≤ 30000) (hB : B.size = 64) (hw : wordAt B 0 ≠ 0) :
    ∃ s', sWrite pw [] s 0 B = (0, s', [1]) ∧ On s' ∧ PmOk s' ∧ s'.nl = 7 ∧ lnget s' ((5 : Nat) : Int) = (B, 0) := by
  have c0 := c.c0
  obtain ⟨s1, e1, cl1, n1, bb1, k1, m1⟩ := lnput_clean (b := B) c (show 1 < s.nl by omega) hB
  have cl1 := cl1.of (by omega) (by omega)
  have o1 : PmOk s1 := by have := o.put (1 : Nat) B; rw [e1] at this; exact this
  obtain ⟨s2, e2, cl2, n2, bb2, k2, m2⟩ := lnput_clean (b := B) cl1 (show 5 < s1.nl by omega) hB
  have cl2 := cl2.of (by omega) (by omega)
  have o2 : PmOk s2 := by have := o1.put (5 : Nat) B; rw [e2] at this; exact this
  have g1 := guardN_lt 1
  obtain ⟨s3, e3, cl3, n3, bb3, k3, m3⟩ := lnputw_clean (v := ((guardN 1 : Nat) : Int)) cl2 (show 0 < s2.nl by omega) (show 0 < 8 by omega)
  have cl3 := cl3.of (by omega) (by omega)
  have o3 : PmOk s3 := by have := o2.putw (0 : Nat) (0 : Nat) (v := ((guardN 1 : Nat) : Int)) ⟨by omega, by omega⟩; rw [e3] at this; exact this
  have t1 : ¬ took s1 1 B = true := took_no fun t => by
    have h1 := t.2.2 0 (by omega)
    rw [show 8 * ((1 : Nat) : Int).toNat + 0 = 8 from rfl, m1 8 (by omega), if_neg (fun h => by rw [b1] at h; cases h.2), m 8 (by omega)] at h1
    omega
  have hm2 : ∀ k, k < 8 → s2.media (8 * 5 + k) = ((wordAt B k : Nat) : Int) := fun k hk => by
    rw [m2 _ (by omega), if_pos ⟨by omega, by rw [bb1]; exact b5⟩, show (8 * 5 + k) % 8 = k by omega]
  have t2 : took s2 5 B = true := took_yes ⟨hB, by unfold lthere; exact if_pos (by omega), fun k hk => hm2 k hk⟩
  refine ⟨s3, ?_, cl3.on, o3, by omega, lnget_clean cl3 o3 (by omega) hB fun k hk => by rw [m3 _ (by omega), if_neg (fun h => by omega)]; exact hm2 k hk⟩
  unfold sWrite
  rw [if_pos hB, if_pos ⟨by omega, by show (0 : Int) < 4; omega⟩]
  show swrite pw [] s 0 B = _
  unfold swrite
  have ew : whN pw [] 0 = 1 := rfl
  rw [ew, e1, if_pos rfl, if_neg t1]
  show sretire pw 0 B 2 s1 [] = _
  unfold sretire
  have es : sparN pw ([] : List Nat).length = 5 := rfl
  rw [es, e2, if_pos rfl, if_pos t2]
  show ((lnputw s2 ((0 : Nat) : Int) ((0 : Nat) : Int) (guardN (0 + 1) : Nat)).1, (lnputw s2 ((0 : Nat) : Int) ((0 : Nat) : Int) (guardN (0 + 1) : Nat)).2, if (lnputw s2 ((0 : Nat) : Int) ((0 : Nat) : Int) (guardN (0 + 1) : Nat)).1 = 0 then [] ++ [0 + 1] else []) = _
  rw [e3]; rfl

end Go.Gb
namespace Go.Gb
open Go.Proofs IntWalk

/-! ## SparePlays: both devices and the bank -/

/-- Between two acts: on, and the bank agrees; or the power failed. -/
def StB (p : Pl) (s : PmS) (l : List Nat) : Prop := SpI p s l ∨ (s.off = true ∧ PmOk s ∧ ∀ ks, ∃ l', SpI p (pboot s ks) l')

theorem StB.ok {p : Pl} {s : PmS} {l : List Nat} (t : StB p s l) : PmOk s := by
  rcases t with t | t
  · exact t.w
  · exact t.2.1
theorem Res.st {p : Pl} {n : Nat} {r : Int × PmS × List Nat} (t : Res p n r) : StB p r.2.1 r.2.2 := by
  rcases t.2 with h | h
  · exact .inl h.2
  · exact .inr h.2

theorem sWrite_st {p : Pl} {s : PmS} {l : List Nat} (w : SpI p s l) (i : Int) (B : ByteArray) : StB p (sWrite p l s i B).2.1 (sWrite p l s i B).2.2 ∧ (sWrite p l s i B).2.1.nl = s.nl := by
  unfold sWrite
  split
  · rename_i hb
    split
    · rename_i hi
      have := swrite_res w (i := i.toNat) (by omega) hb
      exact ⟨this.st, this.1⟩
    · exact ⟨.inl w, rfl⟩
  · exact ⟨.inl w, rfl⟩
theorem sWriteWord_st {p : Pl} {s : PmS} {l : List Nat} (w : SpI p s l) (i k : Int) {v : Nat} (hv : v < 18446744073709551616) : StB p (sWriteWord p l s i k v).2.1 (sWriteWord p l s i k v).2.2 ∧ (sWriteWord p l s i k v).2.1.nl = s.nl := by
  unfold sWriteWord
  split
  · split
    · have := swritew_res w (i := i.toNat) (k := k.toNat) (by omega) (by omega) hv
      exact ⟨this.st, this.1⟩
    · exact ⟨.inl w, rfl⟩
  · exact ⟨.inl w, rfl⟩

structure Tr (h0 h : Heap) (F G M : Nat → Prop) (d b m : Nat) (p : Pl) (s : PmS) (l : List Nat) : Prop where
  db : DB F G h d b p s l
  rf : RfD M h m s
  lm : Live M h
  ap : Apart (FG F G) M
  pt : Part h0 h
  ff : ∀ k, h0 k ≠ none → ¬ FG F G k
  fm : ∀ k, h0 k ≠ none → ¬ M k

section
variable {h0 h h1 h2 : Heap} {F G M : Nat → Prop} {d b m : Nat} {p : Pl} {s s' : PmS} {l l' : List Nat} {Q : Value → Heap → Prop}

theorem Tr.next (i : Tr h0 h F G M d b m p s l) (w1 : DB F G h1 d b p s' l') (st1 : Step (FG F G) h (FG F G) h1) (w2 : RfD M h2 m s') (st2 : Step M h1 M h2) : Tr h0 h2 F G M d b m p s' l' := by
  have e : ∀ k, FG F G k → h1 k ≠ none → h2 k = h1 k := st2.same i.ap.symm
  exact ⟨⟨w1.dv.keep fun k hk => e k (.inl hk), w1.bk.keep fun k hk => e k (.inr hk), st2.alive w1.lf, st2.alive w1.lg, w1.ap⟩, w2, st2.dom (st1.alive i.lm), i.ap, st2.part (st1.part i.pt i.ff) i.fm, i.ff, i.fm⟩
theorem Tr.part (i : Tr h0 h F G M d b m p s l) (pt : Part h h1) : Tr h0 h1 F G M d b m p s l :=
  ⟨i.db.part pt, i.rf.keep fun _ _ hk => part_live pt hk, (Step.of_part pt).dom i.lm, i.ap, i.pt.trans pt, i.ff, i.fm⟩

/-- The bank is opened anew. -/
theorem Tr.open {G' : Nat → Prop} {b' : Nat} (i : Tr h0 h F G M d b m p s l) (wb : BankD G' h1 b' d p l') (wd : PmD F h1 d s) (fr : ∀ k, G' k → h k = none) (lf : Live F h1) (lg : Live G' h1) (pt : Part h h1) : Tr h0 h1 F G' M d b' m p s l' := by
  refine ⟨⟨wd, wb, lf, lg, fun k hg hf => i.db.lf k hf (fr k hg)⟩, i.rf.keep fun _ _ hk => part_live pt hk, (Step.of_part pt).dom i.lm, fun k hm hfg => ?_, i.pt.trans pt, fun k hk hfg => ?_, i.fm⟩
  · rcases hfg with hf | hg
    · exact i.ap k hm (.inl hf)
    · exact i.lm k hm (fr k hg)
  · rcases hfg with hf | hg
    · exact i.ff k hk (.inl hf)
    · have := fr k hg
      rw [part_live i.pt hk] at this
      exact hk this

/-- A small plan. -/
theorem small_pl (x0 x1 x2 : Int) : ∃ p : Pl, PlB p ∧ p.pa ≤ 2 ∧ p.pl ≤ 4 ∧ p.ps ≤ 10 ∧ irem (imax 0 x0) 3 = p.pa ∧ IntKind.i64.wrap (1 + irem (imax 0 x1) 4) = p.pl ∧ irem (imax 0 x2) 11 = p.ps := by
  obtain ⟨a, ha⟩ : ∃ q : Nat, imax 0 x0 = q := ⟨(imax 0 x0).toNat, by rw [imax_eq]; omega⟩
  obtain ⟨l, hl⟩ : ∃ q : Nat, imax 0 x1 = q := ⟨(imax 0 x1).toNat, by rw [imax_eq]; omega⟩
  obtain ⟨s, hs⟩ : ∃ q : Nat, imax 0 x2 = q := ⟨(imax 0 x2).toNat, by rw [imax_eq]; omega⟩
  refine ⟨⟨a % 3, 1 + l % 4, s % 11⟩, ⟨by show 1 ≤ 1 + l % 4; omega, by show 1 + l % 4 ≤ 1026; omega, by show s % 11 ≤ 64; omega, by show a % 3 ≤ 8192; omega⟩, by show a % 3 ≤ 2; omega, by show 1 + l % 4 ≤ 4; omega, by show s % 11 ≤ 10; omega, ?_, ?_, ?_⟩
  · rw [ha]; exact irem_nat a 3
  · rw [hl, show irem ((l : Nat) : Int) 4 = ((l % 4 : Nat) : Int) from irem_nat l 4, i64_in _ (by omega)]
    show (1 : Int) + ((l % 4 : Nat) : Int) = ((1 + l % 4 : Nat) : Int); omega
  · rw [hs]; exact irem_nat s 11
end
end Go.Gb
namespace Go.Gb
open Go.Proofs IntWalk

/-! ## LinePlays -/

theorem sext_le (s : ByteArray) (r : Int) : (sext s 0 r).size ≤ r.toNat := by
  unfold sext; rw [ByteArray.size_extract]; omega

theorem PmOk.brk {s : PmS} (o : PmOk s) (f : Nat → Bool) : PmOk { s with bad := f } := o.of rfl rfl

/-- Both devices, of three lines. -/
structure Tri (h0 h : Heap) (F G : Nat → Prop) (d m : Nat) (s : PmS) : Prop where
  t : Two h0 h F G d m s
  nl : s.nl = 3
  ok : PmOk s

structure Act6 where
  a0 : Int
  a1 : Int
  a2 : Int
  a3 : Int
  s : ByteArray
  ka : Option Addr
  kc : Nat
  ks : List Bool
def Act6.row (x : Act6) : List Value := [.int .i64 x.a0, .int .i64 x.a1, .int .i64 x.a2, .int .u64 x.a3, .string x.s, .slice x.ka x.ks.length x.kc]
theorem Act6.row_length (x : Act6) : x.row.length = 6 := rfl

section
variable {h0 h : Heap} {F G : Nat → Prop} {d m : Nat} {s : PmS} {Q : Value → Heap → Prop} {a : Option Addr} {n cp : Nat} {N t : Int} {b : ByteArray}

end

end Go.Gb
namespace Go.Gb
open Go.Proofs IntWalk

/-! ## A device without a fuse; SpareAgain -/

structure F0 (s : PmS) : Prop where
  off : s.off = false
  fuse : s.fuse = 0

theorem F0.store {s : PmS} (f : F0 s) {k : Nat} {v : Int} (hk : k < 8 * s.nl) : (pstore s (k : Int) v).1 = 0 ∧ F0 (pstore s (k : Int) v).2 := by
  rw [pstore_nf f.off f.fuse hk]; exact ⟨rfl, f.off, ptick_fuse f.fuse⟩
theorem F0.llast {s : PmS} (f : F0 s) {a : Nat} (ha : a < s.nl) : (llast s (a : Int)).1 = 0 ∧ F0 (llast s (a : Int)).2 := by
  unfold Gb.llast
  rw [pflush_nf f.off f.fuse ha, if_pos rfl]
  have f2 : F0 { ptick s with buf := fbuf s.buf a 8 } := ⟨f.off, ptick_fuse f.fuse⟩
  rw [pfence_run f2.off (by rw [f2.fuse]; decide)]
  exact ⟨rfl, f2.off, ptick_fuse f2.fuse⟩
theorem F0.stores {a : Nat} {g : Nat → Nat} : ∀ (j k : Nat) (s : PmS), k + j = 8 → F0 s → a < s.nl → (lstores a g j k s).1 = 0 ∧ F0 (lstores a g j k s).2
  | 0, k, s, _, f, ha => f.llast ha
  | j + 1, k, s, hk, f, ha => by
    have h := f.store (v := ((g k : Nat) : Int)) (show 8 * a + k < 8 * s.nl by omega)
    unfold lstores
    rw [if_pos h.1]
    exact F0.stores j (k + 1) _ (by omega) h.2 (by rw [pstore_nl]; exact ha)
theorem F0.put {s : PmS} (f : F0 s) {a : Nat} {b : ByteArray} (ha : a < s.nl) (hb : b.size = 64) : (lnput s (a : Int) b).1 = 0 ∧ F0 (lnput s (a : Int) b).2 := by
  unfold lnput
  rw [if_pos hb, if_pos (by unfold lthere; exact if_pos (by omega)), Int.toNat_natCast]
  exact F0.stores 8 0 s (by omega) f ha
theorem F0.putw {s : PmS} (f : F0 s) {a k : Nat} {v : Int} (ha : a < s.nl) (hk : k < 8) : (lnputw s (a : Int) (k : Int) v).1 = 0 ∧ F0 (lnputw s (a : Int) (k : Int) v).2 := by
  have h := f.store (v := v) (show 8 * a + k < 8 * s.nl by omega)
  unfold lnputw
  rw [if_pos (by omega), if_pos (by unfold lthere; exact if_pos (by omega)), show (8 * (a : Int) + (k : Int)) = ((8 * a + k : Nat) : Int) by omega, if_pos h.1]
  exact h.2.llast (by rw [pstore_nl]; exact ha)

theorem sretire_f0 {p : Pl} {i : Nat} {b : ByteArray} (hi : i < p.pl) (hb : b.size = 64) : ∀ (m : Nat) (s : PmS) (l : List Nat), l.length + m = p.ps → SpI p s l → F0 s →
    ((sretire p i b m s l).1 = 0 ∨ (sretire p i b m s l).1 = 10) ∧ F0 (sretire p i b m s l).2.1
  | 0, s, l, _, _, f => ⟨.inr rfl, f⟩
  | m + 1, s, l, hm, w, f => by
    obtain ⟨f1, f2⟩ := spar_fit w.ok (show l.length < p.ps by omega)
    have h1 := f.put f1 hb
    have w1 := w.put f2 f1 hb h1.1
    have nl1 := lnput_nl s (sparN p l.length : Nat) b
    unfold sretire
    rw [if_pos h1.1]
    have h2 := h1.2
    generalize (lnput s (sparN p l.length : Nat) b).2 = s1 at w1 nl1 h2
    obtain ⟨g1, g2, g3, g4⟩ := say_at w1.ok (show l.length < p.ps by omega)
    by_cases ht : took s1 (sparN p l.length) b = true
    · rw [if_pos ht]
      have h3 := h2.putw (v := ((guardN (i + 1) : Nat) : Int)) g1 (Nat.mod_lt l.length (show 0 < 8 by omega))
      exact ⟨.inl h3.1, h3.2⟩
    · rw [if_neg ht]
      have h3 := h2.putw (v := ((guardN 65535 : Nat) : Int)) g1 (Nat.mod_lt l.length (show 0 < 8 by omega))
      rw [if_pos h3.1]
      exact sretire_f0 hi hb m _ _ (by simp; omega) (w1.say (.inl rfl) (by omega) h3.1) h3.2

theorem swrite_f0 {p : Pl} {s : PmS} {l : List Nat} (w : SpI p s l) (f : F0 s) {i : Nat} {b : ByteArray} (hi : i < p.pl) (hb : b.size = 64) : ((swrite p l s i b).1 = 0 ∨ (swrite p l s i b).1 = 10) ∧ F0 (swrite p l s i b).2.1 := by
  obtain ⟨f1, f2⟩ := whN_lt w.ok w.len hi
  have hlen := w.len
  have h1 := f.put f1 hb
  have w1 := w.put f2 f1 hb h1.1
  unfold swrite
  rw [if_pos h1.1]
  by_cases ht : took (lnput s (whN p l i : Nat) b).2 (whN p l i) b = true
  · rw [if_pos ht]; exact ⟨.inl rfl, h1.2⟩
  · rw [if_neg ht]; exact sretire_f0 hi hb (p.ps - l.length) _ l (by omega) w1 h1.2

theorem swrite_spi {p : Pl} {s : PmS} {l : List Nat} (w : SpI p s l) (f : F0 s) {i : Nat} {b : ByteArray} (hi : i < p.pl) (hb : b.size = 64) : SpI p (swrite p l s i b).2.1 (swrite p l s i b).2.2 := by
  have r := swrite_res w hi hb
  have z := swrite_f0 w f hi hb
  rcases r.2 with h | h
  · exact h.2
  · have := h.1
    rcases z.1 with z | z
    · rw [z] at this; cases this
    · rw [z] at this; cases this

/-- A device and a bank, beside what there was. -/
structure Dq (h0 h : Heap) (F G : Nat → Prop) (d b : Nat) (p : Pl) (s : PmS) (l : List Nat) : Prop where
  db : DB F G h d b p s l
  pt : Part h0 h
  ff : ∀ k, h0 k ≠ none → ¬ FG F G k

section
variable {h0 h h1 : Heap} {F G : Nat → Prop} {d b : Nat} {p : Pl} {s s' : PmS} {l l' : List Nat} {Q : Value → Heap → Prop} {a : Option Addr} {n cp : Nat} {N t : Int}

theorem Dq.next (i : Dq h0 h F G d b p s l) (w : DB F G h1 d b p s' l') (st : Step (FG F G) h (FG F G) h1) : Dq h0 h1 F G d b p s' l' := ⟨w, st.part i.pt i.ff, i.ff⟩
theorem Dq.part (i : Dq h0 h F G d b p s l) (pt : Part h h1) : Dq h0 h1 F G d b p s l := ⟨i.db.part pt, i.pt.trans pt, i.ff⟩

theorem SpI.brk {k : Nat} (sp : SpI p s l) (hk : p.pa + tblN p ≤ k) : SpI p { s with bad := fset s.bad k true } l :=
  ⟨sp.ok, ⟨sp.on.off, sp.on.f0, sp.on.buf⟩, sp.en, fun t g1 g2 => by show fset s.bad k true t = false; unfold fset; rw [if_neg (by omega)]; exact sp.tb t g1 g2, sp.w.of rfl rfl⟩

end

end Go.Gb
namespace Go.Gb
open Go.Proofs IntWalk

/-! ## LineTorn: the pure part -/

/-- A device of one line; each word is the old one or the new one; what is stored is new. -/
structure Tn (s : PmS) (A B : Nat → Int) : Prop where
  nl : s.nl = 1
  bad : s.bad = fun _ => false
  f0 : 0 ≤ s.fuse
  med : ∀ w, w < 8 → s.media w = A w ∨ s.media w = B w
  buf : ∀ w, w < 8 → ∀ x, s.buf w = some x → x.1 = B w

theorem Tn.begin {s : PmS} {A B : Nat → Int} (t : Tn s A B) (ho : s.off = false) {a o : Int} (h0 : 0 ≤ a) (h1 : a < o) :
    Tn (pbegin s a o).2 A B ∧ (((pbegin s a o).1 = 0 ∧ (pbegin s a o).2.off = false) ∨ ((pbegin s a o).1 = 6 ∧ (pbegin s a o).2.off = true)) := by
  have f0 := t.f0
  by_cases hf : s.fuse = 1
  · rw [pbegin_fails ho hf h0 h1]
    exact ⟨⟨t.nl, t.bad, Int.le_refl _, t.med, t.buf⟩, .inr ⟨rfl, rfl⟩⟩
  · rw [pbegin_run ho hf h0 h1]
    refine ⟨⟨t.nl, t.bad, ?_, t.med, t.buf⟩, .inl ⟨rfl, ho⟩⟩
    show 0 ≤ if 0 < s.fuse then s.fuse - 1 else s.fuse
    split <;> omega

theorem Tn.store {s : PmS} {A B : Nat → Int} (t : Tn s A B) (ho : s.off = false) {k : Nat} (hk : k < 8) :
    Tn (pstore s (k : Int) (B k)).2 A B ∧ (((pstore s (k : Int) (B k)).1 = 0 ∧ (pstore s (k : Int) (B k)).2.off = false ∧ (pstore s (k : Int) (B k)).2.buf = fset s.buf k (some (B k, false)) ∧ (pstore s (k : Int) (B k)).2.media = s.media) ∨
      ((pstore s (k : Int) (B k)).1 = 6 ∧ (pstore s (k : Int) (B k)).2.off = true)) := by
  have nl := t.nl
  obtain ⟨t2, r⟩ := t.begin (a := (k : Int)) (o := ((8 * s.nl : Nat) : Int)) ho (by omega) (by omega)
  unfold pstore
  by_cases e : (pbegin s (k : Int) ((8 * s.nl : Nat) : Int)).1 = 0
  · rw [if_pos e, Int.toNat_natCast]
    refine ⟨⟨t2.nl, t2.bad, t2.f0, t2.med, fun w hw x hx => ?_⟩, .inl ⟨rfl, ?_, rfl, pbegin_media _ _ _⟩⟩
    · have hx : fset s.buf k (some (B k, false)) w = some x := hx
      unfold fset at hx
      split at hx
      · rename_i e2; cases hx; rw [e2]
      · exact t.buf w hw x hx
    · rcases r with r | r
      · exact r.2
      · rw [e] at r; cases r.1
  · rw [if_neg e]
    refine ⟨t2, .inr ?_⟩
    rcases r with r | r
    · exact absurd r.1 e
    · exact r

theorem Tn.flush {s : PmS} {A B : Nat → Int} (t : Tn s A B) (ho : s.off = false) :
    Tn (pflush s 0).2 A B ∧ (((pflush s 0).1 = 0 ∧ (pflush s 0).2.off = false ∧ (pflush s 0).2.buf = fbuf s.buf 0 8 ∧ (pflush s 0).2.media = s.media) ∨ ((pflush s 0).1 = 6 ∧ (pflush s 0).2.off = true)) := by
  have nl := t.nl
  obtain ⟨t2, r⟩ := t.begin (a := 0) (o := (s.nl : Int)) ho (by omega) (by omega)
  unfold pflush
  by_cases e : (pbegin s 0 (s.nl : Int)).1 = 0
  · rw [if_pos e]
    refine ⟨⟨t2.nl, t2.bad, t2.f0, t2.med, fun w hw x hx => ?_⟩, .inl ⟨rfl, ?_, rfl, pbegin_media _ _ _⟩⟩
    · have hx : fbuf s.buf 0 8 w = some x := hx
      unfold fbuf at hx
      split at hx
      · cases e2 : s.buf w with
        | none => rw [e2] at hx; cases hx
        | some y => rw [e2] at hx; cases hx; exact t.buf w hw y e2
      · exact t.buf w hw x hx
    · rcases r with r | r
      · exact r.2
      · rw [e] at r; cases r.1
  · rw [if_neg e]
    refine ⟨t2, .inr ?_⟩
    rcases r with r | r
    · exact absurd r.1 e
    · exact r

theorem Tn.plast {s : PmS} {A B : Nat → Int} (t : Tn s A B) {ws : List Nat} (hws : ∀ w ∈ ws, s.buf w ≠ none) : Tn (plast s ws) A B := by
  refine ⟨t.nl, t.bad, t.f0, fun w hw => ?_, fun w hw x hx => ?_⟩
  · show lmedia s ws w = A w ∨ lmedia s ws w = B w
    unfold lmedia
    split
    · rename_i h
      cases e : s.buf w with
      | none => exact absurd e (hws w h.1)
      | some x => exact .inr (t.buf w hw x e)
    · exact t.med w hw
  · have hx : lbuf s ws w = some x := hx
    unfold lbuf at hx
    split at hx
    · cases hx
    · exact t.buf w hw x hx

theorem Tn.fence {s : PmS} {A B : Nat → Int} (t : Tn s A B) (ho : s.off = false) :
    Tn (pfence s).2 A B ∧ (((pfence s).1 = 0 ∧ (pfence s).2.off = false ∧ ((∀ w, w < 8 → s.buf w = some (B w, true) ∨ (s.buf w = none ∧ s.media w = B w)) → ∀ w, w < 8 → (pfence s).2.media w = B w)) ∨ ((pfence s).1 = 6 ∧ (pfence s).2.off = true)) := by
  have nl := t.nl
  obtain ⟨t2, r⟩ := t.begin (a := 0) (o := 1) ho (by omega) (by omega)
  have bf := pbegin_buf s 0 1
  have md := pbegin_media s 0 1
  unfold pfence
  by_cases e : (pbegin s 0 1).1 = 0
  · rw [if_pos e]
    generalize (pbegin s 0 1).2 = s2 at t2 r bf md
    have hfl : ∀ w ∈ flushed s2, s2.buf w ≠ none := fun w hw => by
      rw [flushed_mem] at hw
      obtain ⟨_, v, hv⟩ := hw
      rw [hv]; simp
    refine ⟨t2.plast hfl, .inl ⟨rfl, ?_, fun hc w hw => ?_⟩⟩
    · show s2.off = false
      rcases r with r | r
      · exact r.2
      · rw [e] at r; cases r.1
    · show lmedia s2 (flushed s2) w = B w
      have nl2 := t2.nl
      unfold lmedia
      rcases hc w hw with h1 | ⟨h1, h2⟩
      · rw [if_pos ⟨flushed_mem.2 ⟨by omega, B w, by rw [bf]; exact h1⟩, by rw [t2.bad]⟩, bf, h1]
      · rw [if_neg, md]
        · exact h2
        · rintro ⟨h3, _⟩
          rw [flushed_mem] at h3
          obtain ⟨_, v, hv⟩ := h3
          rw [bf, h1] at hv; cases hv
  · rw [if_neg e]
    refine ⟨t2, .inr ?_⟩
    rcases r with r | r
    · exact absurd r.1 e
    · exact r

/-- The line is done: all words are new, or will be. -/
def Due (s : PmS) (B : Nat → Int) : Prop := ∀ w, w < 8 → (∃ f, s.buf w = some (B w, f)) ∨ (s.buf w = none ∧ s.media w = B w)

theorem Tn.lastT {s : PmS} {A B : Nat → Int} (t : Tn s A B) (ho : s.off = false) (hd : Due s B) :
    Tn (llast s 0).2 A B ∧ (((llast s 0).1 = 0 ∧ (llast s 0).2.off = false ∧ ∀ w, w < 8 → (llast s 0).2.media w = B w) ∨ ((llast s 0).1 = 6 ∧ (llast s 0).2.off = true)) := by
  obtain ⟨t2, r⟩ := t.flush ho
  unfold llast
  by_cases e : (pflush s 0).1 = 0
  · rw [if_pos e]
    rcases r with ⟨-, r1, r2, r3⟩ | r
    · obtain ⟨t3, r'⟩ := t2.fence r1
      refine ⟨t3, r'.imp (fun ⟨h1, h2, h3⟩ => ⟨h1, h2, h3 fun w hw => ?_⟩) id⟩
      rw [r2, r3]
      unfold fbuf
      rw [if_pos (by omega)]
      rcases hd w hw with ⟨f, h4⟩ | ⟨h4, h5⟩
      · left; rw [h4]; rfl
      · right; rw [h4]; exact ⟨rfl, h5⟩
    · rw [e] at r; cases r.1
  · rw [if_neg e]
    rcases r with r | r
    · exact absurd r.1 e
    · exact ⟨t2, .inr r⟩

theorem Tn.storesT {A B : Nat → Int} {f : Nat → Nat} (hB : ∀ k, B k = ((f k : Nat) : Int)) : ∀ (j k : Nat) (s : PmS), k + j = 8 → Tn s A B → s.off = false → (∀ w, w < k → ∃ g, s.buf w = some (B w, g)) →
    Tn (lstores 0 f j k s).2 A B ∧ (((lstores 0 f j k s).1 = 0 ∧ (lstores 0 f j k s).2.off = false ∧ ∀ w, w < 8 → (lstores 0 f j k s).2.media w = B w) ∨ ((lstores 0 f j k s).1 = 6 ∧ (lstores 0 f j k s).2.off = true)) := by
  intro j
  induction j with
  | zero =>
    intro k s hk t ho hb
    exact t.lastT ho fun w hw => .inl (hb w (by omega))
  | succ j ih =>
    intro k s hk t ho hb
    have h := t.store ho (show k < 8 by omega)
    unfold lstores
    have e0 : ((8 * 0 + k : Nat) : Int) = (k : Int) := by omega
    rw [e0, ← hB k]
    obtain ⟨t2, r⟩ := h
    by_cases e : (pstore s (k : Int) (B k)).1 = 0
    · rw [if_pos e]
      rcases r with ⟨-, r1, r2, r3⟩ | r
      · refine ih (k + 1) _ (by omega) t2 r1 fun w hw => ?_
        rw [r2]
        unfold fset
        by_cases e2 : w = k
        · rw [if_pos e2, e2]; exact ⟨false, rfl⟩
        · rw [if_neg e2]; exact hb w (by omega)
      · rw [e] at r; cases r.1
    · rw [if_neg e]
      rcases r with r | r
      · exact absurd r.1 e
      · exact ⟨t2, .inr r⟩

theorem Tn.putT {s : PmS} {A B : Nat → Int} {b : ByteArray} (t : Tn s A B) (ho : s.off = false) (hb : b.size = 64) (hB : ∀ k, B k = ((wordAt b k : Nat) : Int)) :
    Tn (lnput s 0 b).2 A B ∧ (((lnput s 0 b).1 = 0 ∧ (lnput s 0 b).2.off = false ∧ ∀ w, w < 8 → (lnput s 0 b).2.media w = B w) ∨ ((lnput s 0 b).1 = 6 ∧ (lnput s 0 b).2.off = true)) := by
  have nl := t.nl
  have h := Tn.storesT hB 8 0 s (by omega) t ho (fun w hw => by omega)
  unfold lnput
  rw [if_pos hb, if_pos (by unfold lthere; exact if_pos (by omega))]
  exact h

theorem Tn.putwT {s : PmS} {A B : Nat → Int} (t : Tn s A B) (ho : s.off = false) (hn : ∀ w, w < 8 → s.buf w = none) (hm : ∀ w, w < 8 → w ≠ 0 → s.media w = B w) :
    Tn (lnputw s 0 0 (B 0)).2 A B ∧ (((lnputw s 0 0 (B 0)).1 = 0 ∧ (lnputw s 0 0 (B 0)).2.off = false ∧ ∀ w, w < 8 → (lnputw s 0 0 (B 0)).2.media w = B w) ∨ ((lnputw s 0 0 (B 0)).1 = 6 ∧ (lnputw s 0 0 (B 0)).2.off = true)) := by
  have nl := t.nl
  obtain ⟨t2, r⟩ := t.store ho (show 0 < 8 by omega)
  unfold lnputw
  rw [if_pos (by omega), if_pos (by unfold lthere; exact if_pos (by omega)), show (8 * (0 : Int) + 0) = ((0 : Nat) : Int) from rfl]
  by_cases e : (pstore s ((0 : Nat) : Int) (B 0)).1 = 0
  · rw [if_pos e]
    rcases r with ⟨-, r1, r2, r3⟩ | r
    · refine t2.lastT r1 fun w hw => ?_
      rw [r2, r3]
      unfold fset
      by_cases e2 : w = 0
      · rw [if_pos e2, e2]; exact .inl ⟨false, rfl⟩
      · rw [if_neg e2]; exact .inr ⟨hn w hw, hm w hw e2⟩
    · rw [e] at r; cases r.1
  · rw [if_neg e]
    rcases r with r | r
    · exact absurd r.1 e
    · exact ⟨t2, .inr r⟩

theorem Tn.bootT {s : PmS} {A B : Nat → Int} (t : Tn s A B) (ks : List Bool) : Tn (pboot s ks) A B := by
  have h : Tn (Gb.plast s (keptN (pend s) ks (pend s).length)) A B := t.plast fun w hw => by
    obtain ⟨i, h1, h2⟩ := keptN_mem _ _ (Nat.le_refl _) hw
    have : w ∈ pend s := by
      rw [h2, List.getD_eq_getElem?_getD, List.getElem?_eq_getElem h1]
      exact List.getElem_mem h1
    exact (pend_mem.1 this).2
  exact ⟨h.nl, h.bad, Int.le_refl _, h.med, fun _ _ _ h => by cases h⟩

theorem Tn.getT {s : PmS} {A B : Nat → Int} (t : Tn s A B) (ho : s.off = false) (hn : s.buf = fun _ => none) : lnget s 0 = (lnbytes fun k => (s.media k).toNat, 0) := by
  have nl := t.nl
  unfold lnget
  rw [ho, if_neg (by simp), if_pos (by unfold lthere; exact if_pos (by omega))]
  congr 1
  unfold lnbytes
  rw [textN_congr 8]
  intro k hk
  show (pval s (8 * 0 + k)).toNat = _
  unfold pval
  rw [hn, show 8 * 0 + k = k by omega]
end Go.Gb
namespace Go.Gb
open Go.Proofs IntWalk

/-! ## LineTorn -/

theorem Own.bsnoc {P : Program} {h0 h : Heap} {T : TypeId} {n c b : Nat} {a : Option Addr} {l : List Bool} {x : Bool} {K : Option Addr → Nat → Nat → Heap → Prop} (w : Own h0 h T 1 a n c (l.map Value.bool)) (hb : h b = none)
    (hsz : cellSize P T = 1) (hz : (cellZero P T).length = 1) (hcap : (2 * (n + 1) + 192) * cellBytes P T ≤ 2 ^ 48)
    (hk : ∀ a' c' h', Own h0 h' T 1 a' (n + 1) c' ((l ++ [x]).map Value.bool) → K a' (n + 1) c' h') : xsApp P T (upd h b (.cells #[.bool x] T (0, 0))) a n c (some ⟨b, 0, none⟩) 1 K := by
  refine Own.append (w.keep (Part.upd hb _)) hsz (by omega) (new := [Value.bool x]) rfl rfl (readsAt_new T [Value.bool x]) hz hcap fun a' c' h' w' => ?_
  have e : l.map Value.bool ++ [Value.bool x] = (l ++ [x]).map Value.bool := by simp
  rw [e] at w'
  exact hk a' c' h' w'

theorem bools_full {h : Heap} {ka : Option Addr} {ks : List Bool} (hr : readsAt h ka (ks.map Value.bool)) : BoolsAt h ka ks := fun i hi => by
  rcases hr with h1 | ⟨b, o, rfl, hc⟩
  · exfalso
    have : ks.length = 0 := by simpa using congrArg List.length h1
    omega
  · have e := hc i (by simpa using hi)
    have e2 : h.cell b (o + i) = some (.bool (ks.getD i false)) := by rw [e]; simp [hi]
    refine ⟨b, o, rfl, fun hn => ?_, by rw [Nat.mul_one]; exact e2⟩
    unfold Heap.cell at e2; rw [hn] at e2; cases e2

theorem chunk_len {l : List UInt8} (h : l.length = 64) {k : Nat} (hk : k < 8) : (chunk l k).length = 8 := by unfold chunk; simp; omega

/-- The first word of one, the others of the other. -/
theorem torn_text {a b : ByteArray} (za : a.size = 64) (zb : b.size = 64) : sext b 0 8 ++ sext a 8 (a.size : Int) = lnbytes fun w => if w = 0 then wordAt b 0 else wordAt a w := by
  have e1 : sext b 0 8 = ⟨(putL (wordAt b 0) 8).toArray⟩ := sext_word (k := 0) zb (by omega)
  have e2 : sext a 8 (a.size : Int) = ⟨(a.data.toList.drop 8).toArray⟩ := by
    unfold sext
    apply ByteArray.ext
    rw [Int.toNat_natCast, ByteArray.data_extract]
    apply Array.ext'
    rw [Array.toList_extract, List.extract_eq_take_drop]
    show (a.data.toList.drop 8).take (a.size - 8) = _
    rw [List.take_of_length_le]
    have : a.data.toList.length = a.size := by simp
    rw [List.length_drop, this]
    exact Nat.le_refl _
  rw [e1, e2, bytes_append]
  unfold lnbytes
  rw [textN_eight]
  unfold textL
  have hl : a.data.toList.length = 64 := by have : a.data.toList.length = a.size := by simp
                                            omega
  have hd : a.data.toList.drop 8 = chunk a.data.toList 1 ++ chunk a.data.toList 2 ++ chunk a.data.toList 3 ++ chunk a.data.toList 4 ++ chunk a.data.toList 5 ++ chunk a.data.toList 6 ++ chunk a.data.toList 7 := by
    have h1 := chunks _ hl
    have h0 := chunk_len hl (show 0 < 8 by omega)
    generalize chunk a.data.toList 0 = c0 at h1 h0
    generalize chunk a.data.toList 1 = c1 at h1
    generalize chunk a.data.toList 2 = c2 at h1
    generalize chunk a.data.toList 3 = c3 at h1
    generalize chunk a.data.toList 4 = c4 at h1
    generalize chunk a.data.toList 5 = c5 at h1
    generalize chunk a.data.toList 6 = c6 at h1
    generalize chunk a.data.toList 7 = c7 at h1
    rw [h1]
    simp only [List.append_assoc]
    rw [← h0, List.drop_left]
  rw [hd]
  simp only [put_word a za 1 (by omega), put_word a za 2 (by omega), put_word a za 3 (by omega), put_word a za 4 (by omega), put_word a za 5 (by omega), put_word a za 6 (by omega), put_word a za 7 (by omega), List.append_assoc]
  simp [put_word a za 1 (by omega), put_word a za 2 (by omega), put_word a za 3 (by omega), put_word a za 4 (by omega), put_word a za 5 (by omega), put_word a za 6 (by omega), put_word a za 7 (by omega)]

section
variable {h : Heap} {Q : Value → Heap → Prop} {a b : ByteArray} {kp : Option Addr} {kn kc : Nat} {c0 c1 : Int}

end

end Go.Gb
namespace Go.Gb
open Go.Proofs IntWalk

/-! ## A clean write; a boot; J39 -/

section
variable {p : Pl} {s : PmS} {l : List Nat}

theorem swrite_clean (w : SpI p s l) (f : F0 s) (hb : ∀ k, s.bad k = false) {i : Nat} {B : ByteArray} (hi : i < p.pl) (hB : B.size = 64) :
    ∃ s', swrite p l s i B = (0, s', l) ∧ SpI p s' l ∧ F0 s' ∧ s'.bad = s.bad ∧ s'.nl = s.nl ∧ ∀ j, j < p.pl → rd p s' l j = if j = i then B else rd p s l j := by
  obtain ⟨f1, f2⟩ := whN_lt w.ok w.len hi
  have h1 := f.put f1 hB
  have ht : took (lnput s (whN p l i : Nat) B).2 (whN p l i) B = true := by
    cases e : took (lnput s (whN p l i : Nat) B).2 (whN p l i) B with
    | true => rfl
    | false =>
      have := not_took w.on w.w f1 hB h1.1 (by rw [e]; simp)
      rw [hb] at this; cases this
  have e : swrite p l s i B = (0, (lnput s (whN p l i : Nat) B).2, l) := by
    unfold swrite
    rw [if_pos h1.1, if_pos ht]
  have o := swrite_out w hi hB
  rw [e] at o
  refine ⟨_, e, w.put f2 f1 hB h1.1, h1.2, lnput_bad w.on f1 hB, lnput_nl _ _ _, ?_⟩
  rcases o with o | o | o
  · exact o.2.2
  · have := o.1; cases this
  · have := o.1; cases this

theorem SpI.boot (w : SpI p s l) (ks : List Bool) : SpI p (pboot s ks) l ∧ (∀ j, j < p.pl → rd p (pboot s ks) l j = rd p s l j) ∧ (pboot s ks).nl = s.nl := by
  obtain ⟨t, o⟩ := (w.on.tg s.media).boot ks
  have hm : ∀ k, k < 8 * s.nl → (pboot s ks).media k = s.media k := fun k hk => by
    rcases t.med k hk with h | h
    · exact h
    · exact h.2
  refine ⟨⟨w.ok.of t.nl, o, ?_, fun k a b => by rw [t.bd]; exact w.tb k a b, w.w.boot ks⟩, fun j hj => ?_, t.nl⟩
  · rw [sents_eq w.ok w.on o t.nl fun k hk => hm _ (tbl_fit w.ok hk).1]; exact w.en
  · refine rdN_congr fun k hk => hm _ ?_
    have := (whN_lt w.ok w.len hj).1
    omega

theorem lnget_rd (w : SpI p s l) {i : Nat} (hi : i < p.pl) : lnget s (whN p l i : Nat) = (rd p s l i, 0) := by
  rw [lnget_on w.on (whN_lt w.ok w.len hi).1]; rfl

theorem fullB_nil : fullB ⟨#[]⟩ = zero64 := by
  unfold fullB
  apply ByteArray.ext
  kernel_rfl

/-- What was left behind a write, as the law tells it. -/
structure Lf (a is0 got : ByteArray) (turn f : Int) : Prop where
  z0 : f = 0 → got = is0
  z10 : f = 10 → got = a
  f3 : f = 0 ∨ f = 10 ∨ f = 6
  t0 : turn = 0 → mixP a is0 got
  t1 : turn = 1 → got = a ∨ got = is0
end

section
variable {h : Heap} {Q : Value → Heap → Prop} {ba : Option Addr} {bn bc : Nat} {s0 s1 is0 got : ByteArray} {c0 c1 c2 t28 turn f : Int}

end
end Go.Gb
namespace Go.Gb
open Go.Proofs IntWalk

/-! ## SpareTorn -/

section
variable {p : Pl} {s : PmS} {l : List Nat} {F G : Nat → Prop} {h : Heap} {d b : Nat} {Q : Value → Heap → Prop}

theorem spare_Bank_Read.rd {i : Nat} (w : DB F G h d b p s l) (sp : SpI p s l) (hi : i < p.pl) (hq : Q (.tuple #[.string (rd p s l i), .int .i64 0]) h) :
    C Tryz.prog 38 #[.pointer (some ⟨b, 0, none⟩), .int .i64 (i : Int)] h Q :=
  spare_Bank_Read.c w sp.w (fun _ _ => by rw [Int.toNat_natCast, lnget_rd sp hi]; exact hq) fun hno => absurd ⟨by omega, by omega⟩ hno

/-- What a torn write left. -/
theorem Out.torn {i : Nat} {B : ByteArray} {M : ByteArray → Prop} {r : Int × PmS × List Nat} {turn : Int} (o : Out p i B (rd p s l) M r) (hi : i < p.pl) (hB : B.size = 64)
    (h0 : turn = 0 → ∀ x, M x → mixP (rd p s l i) B x) (h1 : turn = 1 → ∀ x, M x → x = rd p s l i ∨ x = B) (ks : List Bool) :
    ∃ l', SpI p (pboot r.2.1 ks) l' ∧ (∀ j, j < p.pl → j ≠ i → rd p (pboot r.2.1 ks) l' j = rd p s l j) ∧ Lf (rd p s l i) B (rd p (pboot r.2.1 ks) l' i) turn r.1 := by
  have hA : (rd p s l i).size = 64 := rdN_size _ _
  rcases o with ⟨e, w, m⟩ | ⟨e, w, m⟩ | ⟨e, _, _, m⟩
  · obtain ⟨w', m', _⟩ := w.boot ks
    refine ⟨_, w', fun j hj hne => by rw [m' j hj, m j hj, if_neg hne], ?_⟩
    rw [m' i hi, m i hi, if_pos rfl, e]
    exact ⟨fun _ => rfl, fun h => (by cases h), .inl rfl, fun _ => ⟨hA, hB, hB, fun _ _ => .inr rfl⟩, fun _ => .inr rfl⟩
  · obtain ⟨w', m', _⟩ := w.boot ks
    refine ⟨_, w', fun j hj hne => by rw [m' j hj, m j hj], ?_⟩
    rw [m' i hi, m i hi, e]
    exact ⟨fun h => (by cases h), fun _ => rfl, .inr (.inl rfl), fun _ => ⟨hA, hB, hA, fun _ _ => .inl rfl⟩, fun _ => .inl rfl⟩
  · obtain ⟨l', w', m', y⟩ := m ks
    refine ⟨l', w', m', ?_⟩
    rw [e]
    exact ⟨fun h => (by cases h), fun h => (by cases h), .inr (.inr rfl), fun h => h0 h _ y, fun h => h1 h _ y⟩
end

def p135 : Pl := ⟨1, 3, 5⟩
def bB : ByteArray := ⟨#[UInt8.ofNat 98]⟩

section
variable {h0 h : Heap} {F G : Nat → Prop} {d b : Nat} {s : PmS} {l : List Nat} {Q : Value → Heap → Prop} {ba : Option Addr} {bn bc : Nat} {s0 s1 is0 : ByteArray} {c0 c1 c2 t28 turn f : Int}

end
end Go.Gb
namespace Go.Gb
open Go.Proofs IntWalk

/-! ## ring: the region's block; where and what a line is -/

def ringV (p : RPl) : Value := .agg #[.int .i64 p.pa, .int .i64 p.pl, .int .i64 p.ps, .int .i64 p.psi]
def ringCs (b : Nat) (p : RPl) (g : Gp) (n : Nat) : List Value := [.int .i64 p.pa, .int .i64 p.pl, .int .i64 p.ps, .int .i64 p.psi, .pointer (some ⟨b, 0, none⟩), .int .i64 g.s0, .int .i64 g.s1, .int .u32 g.s2, .int .i64 (n : Nat)]

/-- A device, a bank and a region on it. -/
structure RD (F G : Nat → Prop) (h : Heap) (d b r : Nat) (p : RPl) (x : RS) : Prop where
  db : DB F G h d b p.bk x.s x.l
  rc : Blk h r (ringCs b p x.g x.n)
  nr : ¬ FG F G r

abbrev FR (F G : Nat → Prop) (r : Nat) : Nat → Prop := fun k => FG F G k ∨ k = r

/-- A plan that may be. -/
structure RpB (p : RPl) (n : Nat) : Prop where
  l1 : 1 ≤ p.pl
  l2 : p.pl ≤ 1024
  q1 : 1 ≤ p.psi
  q2 : p.psi ≤ 65535
  ok : PlOk p.bk n

theorem both {X : Prop} (h : X) : X ∧ X := ⟨h, h⟩

theorem Gp.nextS_eq {g : Gp} {pl : Nat} (o : g.ok pl) : nextS g.s0 g.s1 g.s2 pl = ((g.next pl).s0, (g.next pl).s1, (g.next pl).s2, ((g.src pl : Nat) : Int), ((g.dst pl : Nat) : Int)) := by
  obtain ⟨t0, t1, e, hr, _⟩ := nextS_move (s2 := g.s2) o.r
  have hr' := hr
  have ho := o.r
  unfold rightP at hr' ho
  unfold Gp.next Gp.src Gp.dst
  rw [e]
  dsimp only
  rw [show ((t1.toNat : Nat) : Int) = t1 by omega, show ((g.s1.toNat : Nat) : Int) = g.s1 by omega]

theorem sWrite_eq {p : Pl} {l : List Nat} {s : PmS} {i : Nat} {B : ByteArray} (hi : i < p.pl) (hB : B.size = 64) : sWrite p l s (i : Int) B = swrite p l s i B := by
  unfold sWrite; rw [if_pos hB, if_pos (by omega), Int.toNat_natCast]
theorem sWriteWord_eq {p : Pl} {l : List Nat} {s : PmS} {i k v : Nat} (hi : i < p.pl) (hk : k < 8) : sWriteWord p l s (i : Int) (k : Int) v = swritew p l s i k v := by
  unfold sWriteWord; rw [if_pos (by omega), if_pos (by omega), Int.toNat_natCast, Int.toNat_natCast]

section
variable {F G : Nat → Prop} {h h1 : Heap} {d b r n : Nat} {p : RPl} {x : RS} {Q : Value → Heap → Prop}

theorem RD.c0 (w : RD F G h d b r p x) : h.cell r (0 + 0) = some (.int .i64 p.pa) := w.rc.cell 0
theorem RD.c1 (w : RD F G h d b r p x) : h.cell r (0 + 0 + 1) = some (.int .i64 p.pl) := w.rc.cell 1
theorem RD.c2 (w : RD F G h d b r p x) : h.cell r (0 + 0 + 1 + 1) = some (.int .i64 p.ps) := w.rc.cell 2
theorem RD.c3 (w : RD F G h d b r p x) : h.cell r (0 + 0 + 1 + 1 + 1) = some (.int .i64 p.psi) := w.rc.cell 3
theorem RD.c4 (w : RD F G h d b r p x) : h.cell r (0 + 4) = some (.pointer (some ⟨b, 0, none⟩)) := w.rc.cell 4
theorem RD.c5 (w : RD F G h d b r p x) : h.cell r (0 + 5) = some (.int .i64 x.g.s0) := w.rc.cell 5
theorem RD.c6 (w : RD F G h d b r p x) : h.cell r (0 + 5 + 1) = some (.int .i64 x.g.s1) := w.rc.cell 6
theorem RD.c7 (w : RD F G h d b r p x) : h.cell r (0 + 5 + 1 + 1) = some (.int .u32 x.g.s2) := w.rc.cell 7
theorem RD.c8 (w : RD F G h d b r p x) : h.cell r (0 + 8) = some (.int .i64 (x.n : Nat)) := w.rc.cell 8

theorem RD.ap (w : RD F G h d b r p x) : Apart (FG F G) (fun k => k = r) := fun k hk hf => by
  have : k = r := hk
  subst this; exact w.nr hf
/-- The bank works on; the region's block stays. -/
theorem RD.bank {s' : PmS} {l' : List Nat} (w : RD F G h d b r p x) (w1 : DB F G h1 d b p.bk s' l') (st : Step (FG F G) h (FG F G) h1) : RD F G h1 d b r p ⟨s', l', x.g, x.n⟩ :=
  ⟨w1, w.rc.keep (st.keep r w.nr w.rc.ne), w.nr⟩
theorem RD.part (w : RD F G h d b r p x) (pt : Part h h1) : RD F G h1 d b r p x := ⟨w.db.part pt, w.rc.keep (part_live pt w.rc.ne), w.nr⟩
/-- The region's block is written. -/
theorem RD.put {x' : RS} {o : Nat} {vs : List Value} (w : RD F G h d b r p x) (hs : x'.s = x.s) (hl : x'.l = x.l) (hc : setL (ringCs b p x.g x.n) o vs = ringCs b p x'.g x'.n) : RD F G (h.put r o vs) d b r p x' ∧ Step (FR F G r) h (FR F G r) (h.put r o vs) := by
  have e : ∀ k, k ≠ r → (h.put r o vs) k = h k := fun k hk => put_other _ _ _ hk
  have hf : ∀ k, FG F G k → k ≠ r := fun k hk e => w.nr (by rw [← e]; exact hk)
  have st : Step (fun k => k = r) h (fun k => k = r) (h.put r o vs) := Step.put (F := fun k => k = r) rfl o vs
  refine ⟨⟨?_, ?_, w.nr⟩, st.right⟩
  · rw [hs, hl]
    exact ⟨w.db.dv.keep fun k hk _ => e k (hf k (.inl hk)), w.db.bk.keep fun k hk _ => e k (hf k (.inr hk)), st.alive w.db.lf, st.alive w.db.lg, w.db.ap⟩
  · have := w.rc.put o vs
    rw [hc] at this
    exact this

theorem ring_Plan_register.c (hb : RpB p n) (hq : Q (.int .i64 ((p.pl + 1 : Nat) : Int)) h) : C Tryz.prog 34 #[ringV p] h Q := by
  have := hb.l2
  apply ring_Plan_register.ok
  unfold ring_Plan_register.wp
  rw [show IntKind.i64.wrap ((p.pl : Int) + 1) = ((p.pl + 1 : Nat) : Int) by rw [i64_in _ (by omega)]; omega]
  exact hq
theorem ring_Plan_Bank.c (hb : RpB p n) (hq : Q (plV p.bk) h) : C Tryz.prog 31 #[ringV p] h Q := by
  have := hb.l2
  apply ring_Plan_Bank.ok
  refine ring_Plan_register.c hb ⟨_, rfl, ?_⟩
  rw [show IntKind.i64.wrap (((p.pl + 1 : Nat) : Int) + 1) = ((p.pl + 2 : Nat) : Int) by rw [i64_in _ (by omega)]; omega]
  exact hq
theorem ring_Plan_Check.c (hb : RpB p n) (hq : Q (.int .i64 0) h) : C Tryz.prog 74 #[ringV p, .int .i64 (n : Int)] h Q := by
  have := hb.l1
  have := hb.l2
  have := hb.q1
  have := hb.q2
  apply ring_Plan_Check.ok
  refine xsIf_f (decide_eq_false (by omega)) (xsIf_f (decide_eq_false (by omega)) (xsIf_f (decide_eq_false (by omega)) (xsIf_f (decide_eq_false (by omega)) (ring_Plan_Bank.c hb ⟨_, _, _, rfl, spare_Plan_Check.c ⟨_, rfl, ?_⟩⟩))))
  rw [hb.ok.check]; exact hq
theorem ring_check.c {s : PmS} (w : PmD F h d s) (hb : RpB p s.nl) (hq : Q (.int .i64 0) h) : C Tryz.prog 29 #[.pointer (some ⟨d, 0, none⟩), ringV p] h Q := by
  apply ring_check.ok
  exact xsIf_f rfl (pm_Device_Lines.c w ⟨_, rfl, ring_Plan_Check.c hb ⟨_, rfl, hq⟩⟩)

theorem slotS_at {g : Gp} {pl i : Nat} (o : g.ok pl) (hi : i < pl) : slotS g.s0 g.s1 pl i = ((g.slot pl i : Nat) : Int) := by
  rw [slotS_eq o.r (by omega) (by omega), (Gp.slot_at o hi).1]

theorem ring_Ring_slot.c {i : Int} (w : RD F G h d b r p x) (o : x.g.ok p.pl) (hy : 0 ≤ i → i < p.pl → Q (.tuple #[.int .i64 (x.g.slot p.pl i.toNat : Nat), .int .i64 0]) h) (hn : ¬ (0 ≤ i ∧ i < p.pl) → Q (.tuple #[.int .i64 0, .int .i64 3]) h) :
    C Tryz.prog 47 #[.pointer (some ⟨r, 0, none⟩), .int .i64 i] h Q := by
  apply ring_Ring_slot.ok
  refine xsIf_f rfl (xsIf_intro (fun h1 => hn fun h2 => by have := of_decide_eq_true h1; omega) fun h1 => ⟨r, 0, rfl, _, w.c1, xsIf_intro (fun h2 => hn fun h3 => by have := of_decide_eq_true h2; omega) fun h2 => ⟨r, 0, rfl, r, 0, rfl, _, w.c5, _, w.c6, _, w.c7, _, w.c1, ?_⟩⟩)
  have h1 := of_decide_eq_false h1
  have h2 := of_decide_eq_false h2
  obtain ⟨k, rfl⟩ : ∃ k : Nat, i = k := ⟨i.toNat, by omega⟩
  have hy := hy (by omega) (by omega)
  rw [Int.toNat_natCast] at hy
  exact gap_State_Slot.c (slotS_at o (by omega)) ⟨_, rfl, hy⟩

theorem ring_Ring_Read.c {i : Int} (w : RD F G h d b r p x) (o : x.g.ok p.pl) (sp : SpI p.bk x.s x.l) (hy : 0 ≤ i → i < p.pl → Q (.tuple #[.string (rr p x i.toNat), .int .i64 0]) h) (hn : ¬ (0 ≤ i ∧ i < p.pl) → Q (.tuple #[.string ⟨#[]⟩, .int .i64 3]) h) :
    C Tryz.prog 17 #[.pointer (some ⟨r, 0, none⟩), .int .i64 i] h Q := by
  apply ring_Ring_Read.ok
  refine ring_Ring_slot.c w o (fun h0 h1 => ⟨_, _, rfl, xsIf_f rfl ⟨r, 0, rfl, _, w.c4, ?_⟩⟩) fun h0 => ⟨_, _, rfl, xsIf_t rfl (hn h0)⟩
  have hs := (Gp.slot_at o (i := i.toNat) (by omega)).2.1
  exact spare_Bank_Read.rd w.db sp (by rw [bk_pl]; omega) ⟨_, _, rfl, hy h0 h1⟩

theorem ring_Ring_State.c (w : RD F G h d b r p x) (hq : Q (.agg #[.int .i64 x.g.s0, .int .i64 x.g.s1, .int .u32 x.g.s2]) h) : C Tryz.prog 12 #[.pointer (some ⟨r, 0, none⟩)] h Q := by
  apply ring_Ring_State.ok
  exact xsIf_f rfl ⟨r, 0, rfl, _, w.c5, _, w.c6, _, w.c7, hq⟩
theorem ring_Ring_Since.c (w : RD F G h d b r p x) (hq : Q (.int .i64 (x.n : Nat)) h) : C Tryz.prog 37 #[.pointer (some ⟨r, 0, none⟩)] h Q := by
  apply ring_Ring_Since.ok
  exact xsIf_f rfl ⟨r, 0, rfl, _, w.c8, hq⟩
end
end Go.Gb
namespace Go.Gb
open Go.Proofs IntWalk

/-! ## ring: move, write, Write, WriteWord -/

noncomputable def rWrite (p : RPl) (x : RS) (i : Int) (B : ByteArray) : Int × RS :=
  if B.size = 64 then (if 0 ≤ i ∧ i < p.pl then rwrite p (fun s l k => swrite p.bk l s k B) x i.toNat else (3, x)) else (2, x)
noncomputable def rWriteWord (p : RPl) (x : RS) (i k : Int) (v : Nat) : Int × RS :=
  if 0 ≤ k ∧ k < 8 then (if 0 ≤ i ∧ i < p.pl then rwrite p (fun s l j => swritew p.bk l s j k.toNat v) x i.toNat else (3, x)) else (2, x)

section
variable {F G : Nat → Prop} {h h1 h2 h3 : Heap} {d b r n : Nat} {p : RPl} {x : RS} {Q : Value → Heap → Prop}

theorem RgI.rb (i : RgI p x) : RpB p x.s.nl := ⟨i.l1, i.l2, i.q1, i.q2, i.sp.ok⟩

theorem Step.drop (pt : Part h1 h2) (st : Step (FG F G) h2 (FG F G) h3) (fg : ∀ k, G k → h1 k = none) : Step F h1 F h3 := by
  refine ⟨fun k hf hk => ?_, fun k hk => .inl hk, fun k hk => st.live k (by rw [part_live pt hk]; exact hk), fun hl k hk => st.live k (by rw [part_live pt (hl k hk)]; exact hl k hk)⟩
  have e := part_live pt hk
  rw [st.keep k (fun hfg => ?_) (by rw [e]; exact hk), e]
  rcases hfg with h | h
  · exact hf h
  · exact hk (fg k h)

theorem ring_Ring_move.c (w : RD F G h d b r p x) (i : RgI p x) (hq : ∀ h', RD F G h' d b r p (rmove p x).2 → Step (FR F G r) h (FR F G r) h' → Q (.int .i64 (rmove p x).1) h') :
    C Tryz.prog 89 #[.pointer (some ⟨r, 0, none⟩)] h Q := by
  obtain ⟨ok, d1, d2, d3, d4, d5, d6, -⟩ := Gp.move i.g
  have hb := i.rb
  apply ring_Ring_move.ok
  refine ⟨r, 0, rfl, r, 0, rfl, _, w.c5, _, w.c6, _, w.c7, _, w.c1, both (gap_State_Next.c (Gp.nextS_eq i.g) ⟨_, _, _, _, _, rfl, r, 0, rfl, _, w.c4, spare_Bank_Read.rd w.db i.sp (by rw [bk_pl]; omega) ⟨_, _, rfl, xsIf_f rfl ⟨r, 0, rfl, _, w.c4, spare_Bank_Write.c w.db fun h1 w1 st1 => ⟨_, rfl, ?_⟩⟩⟩⟩)⟩
  have hB : (rd p.bk x.s x.l (x.g.src p.pl)).size = 64 := rdN_size _ _
  rw [sWrite_eq (by rw [bk_pl]; omega) hB] at w1 ⊢
  have o := swrite_out i.sp (i := x.g.dst p.pl) (B := rd p.bk x.s x.l (x.g.src p.pl)) (by rw [bk_pl]; omega) hB
  unfold rmove at hq
  generalize swrite p.bk x.l x.s (x.g.dst p.pl) (rd p.bk x.s x.l (x.g.src p.pl)) = a at o w1 hq ⊢
  have w1' := w.bank w1 st1
  unfold rmove1 at hq
  by_cases e : a.1 = 0
  · rw [if_pos e] at hq
    have sp : SpI p.bk a.2.1 a.2.2 := by
      rcases o with o | o | o
      · exact o.2.1
      · exact o.2.1
      · rw [e] at o; cases o.1
    refine xsIf_f (decide_eq_false (fun h => h e)) ⟨r, 0, rfl, r, 0, rfl, _, w1'.c0, _, w1'.c1, _, w1'.c2, _, w1'.c3, ?_⟩
    refine ⟨⟨_, w1'.c4, ring_Plan_register.c hb ⟨_, rfl, gap_State_Pack.c ok.l (by have := ok.h; omega) ⟨_, rfl, ?_⟩⟩⟩, ring_Plan_register.c hb ⟨_, rfl, ⟨_, w1'.c4, gap_State_Pack.c ok.l (by have := ok.h; omega) ⟨_, rfl, ?_⟩⟩, gap_State_Pack.c ok.l (by have := ok.h; omega) ⟨_, rfl, _, w1'.c4, ?_⟩⟩⟩
    all_goals
      rw [← Gp.pk_int _ ok.l ok.h]
      refine spare_Bank_WriteWord.c w1'.db sp.w (Gp.pk_lt ok) fun h2 w2 st2 => ⟨_, rfl, ?_⟩
      have e2 : sWriteWord p.bk a.2.2 a.2.1 ((p.pl + 1 : Nat) : Int) 0 (x.g.next p.pl).pk = swritew p.bk a.2.2 a.2.1 (p.pl + 1) 0 (x.g.next p.pl).pk := sWriteWord_eq (k := 0) (by rw [bk_pl]; omega) (by omega)
      have w2 : DB F G h2 d b p.bk (sWriteWord p.bk a.2.2 a.2.1 ((p.pl + 1 : Nat) : Int) 0 (x.g.next p.pl).pk).2.1 (sWriteWord p.bk a.2.2 a.2.1 ((p.pl + 1 : Nat) : Int) 0 (x.g.next p.pl).pk).2.2 := w2
      rw [e2] at w2 ⊢
      generalize swritew p.bk a.2.2 a.2.1 (p.pl + 1) 0 (x.g.next p.pl).pk = bb at w2 hq ⊢
      have w2' := w1'.bank w2 st2
      unfold rmove2 at hq
      by_cases e3 : bb.1 = 0
      · rw [if_pos e3] at hq
        obtain ⟨w3, st3⟩ := w2'.put (x' := ⟨bb.2.1, bb.2.2, x.g.next p.pl, x.n⟩) (o := 0 + 5) (vs := [.int .i64 (x.g.next p.pl).s0, .int .i64 (x.g.next p.pl).s1, .int .u32 (x.g.next p.pl).s2]) rfl rfl rfl
        obtain ⟨w4, st4⟩ := w3.put (x' := ⟨bb.2.1, bb.2.2, x.g.next p.pl, 0⟩) (o := 0 + 8) (vs := [.int .i64 0]) rfl rfl rfl
        rw [e3]
        exact xsIf_f rfl ⟨r, 0, rfl, w2'.rc.can (by show 0 + 5 + 3 ≤ 9; omega), r, 0, rfl, w3.rc.can (by show 0 + 8 + 1 ≤ 9; omega), hq _ w4 ((st1.left.trans st2.left).trans (st3.trans st4))⟩
      · rw [if_neg e3] at hq
        exact xsIf_t (decide_eq_true e3) (hq h2 w2' (st1.left.trans st2.left))
  · rw [if_neg e] at hq
    exact xsIf_t (decide_eq_true e) (hq h1 w1' st1.left)

/-- What a slot's write does: in code and as a function. -/
def Fc (F G : Nat → Prop) (h : Heap) (d b r : Nat) (p : RPl) (fn : Nat) (fa fc : Array Value) (f : PmS → List Nat → Nat → Int × PmS × List Nat) : Prop :=
  ∀ (h1 : Heap) (x1 : RS) (k : Nat) (Q1 : Value → Heap → Prop), RD F G h1 d b r p x1 → SpI p.bk x1.s x1.l → Step (FR F G r) h (FR F G r) h1 → k < p.bk.pl →
    (∀ h2, DB F G h2 d b p.bk (f x1.s x1.l k).2.1 (f x1.s x1.l k).2.2 → Step (FG F G) h1 (FG F G) h2 → Q1 (.int .i64 (f x1.s x1.l k).1) h2) →
    C Tryz.prog fn (List.toArray (fa.toList ++ [.int .i64 (k : Nat)] ++ fc.toList)) h1 Q1

theorem ring_Ring_write.J8.c {fn : Nat} {fa fc : Array Value} {f : PmS → List Nat → Nat → Int × PmS × List Nat} {i : Nat} {h0 : Heap} (hg : goOk Tryz.prog fn = true) (hf : Fc F G h0 d b r p fn fa fc f) (w : RD F G h d b r p x) (iv : RgI p x) (st : Step (FR F G r) h0 (FR F G r) h) (hi : i < p.pl)
    (hq : ∀ h', RD F G h' d b r p (rput p f x i).2 → Step (FR F G r) h (FR F G r) h' → Q (.int .i64 (rput p f x i).1) h') : ring_Ring_write.J8 (some ⟨r, 0, none⟩) (i : Int) fn fa fc h Q := by
  have hs := (Gp.slot_at iv.g hi).2.1
  apply ring_Ring_write.J8.ok
  refine ring_Ring_slot.c w iv.g (fun _ _ => ⟨_, _, rfl, xsIf_t hg ?_⟩) fun hn => absurd ⟨by omega, by omega⟩ hn
  rw [Int.toNat_natCast]
  refine hf h x (x.g.slot p.pl i) _ w iv.sp st (by rw [bk_pl]; omega) fun h2 w2 st2 => ⟨_, rfl, ?_⟩
  unfold rput at hq
  generalize f x.s x.l (x.g.slot p.pl i) = q at w2 hq ⊢
  have w2' := w.bank w2 st2
  unfold rput2 at hq
  by_cases e : q.1 = 0
  · rw [if_pos e] at hq
    have := iv.n
    have := iv.q2
    obtain ⟨w3, st3⟩ := w2'.put (x' := ⟨q.2.1, q.2.2, x.g, x.n + 1⟩) (o := 0 + 8) (vs := [.int .i64 ((x.n + 1 : Nat) : Int)]) rfl rfl rfl
    refine xsIf_t (decide_eq_true e) ⟨r, 0, rfl, _, w2'.c8, r, 0, rfl, w2'.rc.can (by show 0 + 8 + 1 ≤ 9; omega), ?_⟩
    rw [show IntKind.i64.wrap (((x.n : Nat) : Int) + 1) = ((x.n + 1 : Nat) : Int) by rw [i64_in _ (by omega)]; omega]
    exact hq _ w3 (st2.left.trans st3)
  · rw [if_neg e] at hq
    exact xsIf_f (decide_eq_false e) (hq h2 w2' st2.left)

theorem ring_Ring_write.c {fn : Nat} {fa fc : Array Value} {f : PmS → List Nat → Nat → Int × PmS × List Nat} {i : Int} (hg : goOk Tryz.prog fn = true) (hf : Fc F G h d b r p fn fa fc f) (w : RD F G h d b r p x) (iv : RgI p x)
    (hy : 0 ≤ i → i < p.pl → ∀ h', RD F G h' d b r p (rwrite p f x i.toNat).2 → Step (FR F G r) h (FR F G r) h' → Q (.int .i64 (rwrite p f x i.toNat).1) h') (hn : ¬ (0 ≤ i ∧ i < p.pl) → Q (.int .i64 3) h) :
    C Tryz.prog 42 #[.pointer (some ⟨r, 0, none⟩), .int .i64 i, .func (.func fn) fa fc] h Q := by
  apply ring_Ring_write.ok
  refine ring_Ring_slot.c w iv.g (fun h0 h1 => ⟨_, _, rfl, xsIf_f rfl ⟨r, 0, rfl, r, 0, rfl, _, w.c8, _, w.c3, ?_⟩⟩) fun h0 => ⟨_, _, rfl, xsIf_t rfl (hn h0)⟩
  have hq := hy h0 h1
  obtain ⟨i, rfl⟩ : ∃ k : Nat, i = k := ⟨i.toNat, by omega⟩
  rw [Int.toNat_natCast] at hq
  unfold rwrite at hq
  refine xsIf_intro (fun e => ?_) fun e => ?_
  · have e := of_decide_eq_true e
    rw [if_pos (by omega)] at hq
    refine ring_Ring_move.c w iv fun h2 w2 st2 => ⟨_, rfl, ?_⟩
    have o := rmove_out iv
    generalize rmove p x = m at w2 hq o ⊢
    by_cases e2 : m.1 = 0
    · rw [if_pos e2] at hq
      rw [e2]
      have iv2 : RgI p m.2 := by
        rcases o with o | o | o
        · exact o.2.1
        · exact o.2.1
        · rw [e2] at o; cases o.1
      exact xsIf_f rfl (ring_Ring_write.J8.c hg hf w2 iv2 st2 (by omega) fun h3 w3 st3 => hq h3 w3 (st2.trans st3))
    · rw [if_neg e2] at hq
      exact xsIf_t (decide_eq_true e2) (hq h2 w2 st2)
  · have e := of_decide_eq_false e
    rw [if_neg (by omega)] at hq
    exact ring_Ring_write.J8.c hg hf w iv (Step.refl _ _) (by omega) hq

theorem RD.fresh (w : RD F G h d b r p x) {k : Nat} (hk : h k = none) : ¬ FR F G r k := fun hf => by
  rcases hf with (hf | hf) | hf
  · exact w.db.lf k hf hk
  · exact w.db.lg k hf hk
  · have hf : k = r := hf
    exact w.rc.ne (by rw [← hf]; exact hk)

theorem ring_Ring_Write.c {i : Int} {B : ByteArray} (w : RD F G h d b r p x) (iv : RgI p x)
    (hq : ∀ h', RD F G h' d b r p (rWrite p x i B).2 → Step (FR F G r) h (FR F G r) h' → Q (.int .i64 (rWrite p x i B).1) h') :
    C Tryz.prog 13 #[.pointer (some ⟨r, 0, none⟩), .int .i64 i, .string B] h Q := by
  apply ring_Ring_Write.ok
  intro b1 hb1 b2 hb2
  obtain ⟨ne, hb2'⟩ := fresh_ne hb2
  generalize e2 : upd (upd h b1 (Obj.cells #[.pointer (some ⟨r, 0, none⟩)] 34 (0, 0))) b2 (Obj.cells #[.string B] 9 (0, 0)) = h2
  have pt : Part h h2 := by rw [← e2]; exact (Part.upd hb1 _).upd' hb2' _
  have k1 : Blk h2 b1 [.pointer (some ⟨r, 0, none⟩)] := ⟨_, by rw [← e2, upd_other _ _ ne.symm, upd_same]⟩
  have k2 : Blk h2 b2 [.string B] := ⟨_, by rw [← e2, upd_same]⟩
  have w2 := w.part pt
  have f1 := w.fresh hb1
  have f2 := w.fresh hb2'
  have st0 : Step (FR F G r) h (FR F G r) h2 := Step.of_part pt
  unfold rWrite at hq
  refine ⟨_, k1.cell 0, xsIf_t rfl ⟨_, k2.cell 0, xsIf_intro (fun e => ?_) fun e => ⟨_, k1.cell 0, ?_⟩⟩⟩
  · have e := of_decide_eq_true e
    rw [if_neg (by omega)] at hq
    exact hq h2 w2 st0
  · have e := of_decide_eq_false e
    rw [if_pos (by omega)] at hq
    refine ring_Ring_write.c (f := fun s l k => swrite p.bk l s k B) (by kernel_rfl) (fun h3 x1 k Q1 w3 sp3 st3 hk hq1 => ?_) w2 iv (fun h0 h1 h' w' st' => ⟨_, rfl, ?_⟩) fun hn => ⟨_, rfl, ?_⟩
    · have c1 := k1.keep (st3.keep b1 f1 k1.ne)
      have c2 := k2.keep (st3.keep b2 f2 k2.ne)
      show C Tryz.prog 43 #[.int .i64 (k : Nat), .pointer (some ⟨b1, 0, none⟩), .pointer (some ⟨b2, 0, none⟩)] h3 Q1
      apply ring_Ring_Write_1.ok
      refine ⟨_, c1.cell 0, r, 0, rfl, _, w3.c4, _, c2.cell 0, spare_Bank_Write.c w3.db fun h4 w4 st4 => ⟨_, rfl, ?_⟩⟩
      rw [sWrite_eq hk (by omega)] at w4 ⊢
      exact hq1 h4 w4 st4
    · rw [if_pos ⟨h0, h1⟩] at hq; exact hq h' w' (st0.trans st')
    · rw [if_neg hn] at hq; exact hq h2 w2 st0

theorem ring_Ring_WriteWord.c {i k : Int} {v : Nat} (w : RD F G h d b r p x) (iv : RgI p x) (hv : v < 18446744073709551616)
    (hq : ∀ h', RD F G h' d b r p (rWriteWord p x i k v).2 → Step (FR F G r) h (FR F G r) h' → Q (.int .i64 (rWriteWord p x i k v).1) h') :
    C Tryz.prog 16 #[.pointer (some ⟨r, 0, none⟩), .int .i64 i, .int .i64 k, .int .u64 (v : Nat)] h Q := by
  apply ring_Ring_WriteWord.ok
  intro b1 hb1 b2 hb2 b3 hb3
  obtain ⟨ne, hb2'⟩ := fresh_ne hb2
  obtain ⟨ne2, hb3'⟩ := fresh_ne hb3
  obtain ⟨ne3, hb3''⟩ := fresh_ne hb3'
  generalize e2 : upd (upd (upd h b1 (Obj.cells #[.pointer (some ⟨r, 0, none⟩)] 34 (0, 0))) b2 (Obj.cells #[.int .i64 k] 3 (0, 0))) b3 (Obj.cells #[.int .u64 (v : Nat)] 49 (0, 0)) = h2
  have pt : Part h h2 := by rw [← e2]; exact ((Part.upd hb1 _).upd' hb2' _).upd' hb3'' _
  have k1 : Blk h2 b1 [.pointer (some ⟨r, 0, none⟩)] := ⟨_, by rw [← e2, upd_other _ _ ne3.symm, upd_other _ _ ne.symm, upd_same]⟩
  have k2 : Blk h2 b2 [.int .i64 k] := ⟨_, by rw [← e2, upd_other _ _ ne2.symm, upd_same]⟩
  have k3 : Blk h2 b3 [.int .u64 (v : Nat)] := ⟨_, by rw [← e2, upd_same]⟩
  have w2 := w.part pt
  have f1 := w.fresh hb1
  have f2 := w.fresh hb2'
  have f3 := w.fresh hb3''
  have st0 : Step (FR F G r) h (FR F G r) h2 := Step.of_part pt
  unfold rWriteWord at hq
  refine ⟨_, k1.cell 0, xsIf_t rfl ⟨_, k2.cell 0, xsIf_intro (fun e => ?_) fun e => ⟨_, k2.cell 0, xsIf_intro (fun e' => ?_) fun e' => ⟨_, k1.cell 0, ?_⟩⟩⟩⟩
  · have e := of_decide_eq_true e
    rw [if_neg (by omega)] at hq
    exact hq h2 w2 st0
  · have e' := of_decide_eq_true e'
    rw [if_neg (by omega)] at hq
    exact hq h2 w2 st0
  · have e := of_decide_eq_false e
    have e' := of_decide_eq_false e'
    rw [if_pos (by omega)] at hq
    obtain ⟨k, rfl⟩ : ∃ q : Nat, k = q := ⟨k.toNat, by omega⟩
    rw [Int.toNat_natCast] at hq
    refine ring_Ring_write.c (f := fun s l j => swritew p.bk l s j k v) (by kernel_rfl) (fun h3 x1 j Q1 w3 sp3 st3 hk hq1 => ?_) w2 iv (fun h0 h1 h' w' st' => ⟨_, rfl, ?_⟩) fun hn => ⟨_, rfl, ?_⟩
    · have c1 := k1.keep (st3.keep b1 f1 k1.ne)
      have c2 := k2.keep (st3.keep b2 f2 k2.ne)
      have c3 := k3.keep (st3.keep b3 f3 k3.ne)
      show C Tryz.prog 46 #[.int .i64 (j : Nat), .pointer (some ⟨b1, 0, none⟩), .pointer (some ⟨b2, 0, none⟩), .pointer (some ⟨b3, 0, none⟩)] h3 Q1
      apply ring_Ring_WriteWord_1.ok
      refine ⟨_, c1.cell 0, r, 0, rfl, _, w3.c4, _, c2.cell 0, _, c3.cell 0, spare_Bank_WriteWord.c w3.db sp3.w hv fun h4 w4 st4 => ⟨_, rfl, ?_⟩⟩
      rw [sWriteWord_eq hk (by omega)] at w4 ⊢
      exact hq1 h4 w4 st4
    · rw [if_pos ⟨h0, h1⟩] at hq; exact hq h' w' (st0.trans st')
    · rw [if_neg hn] at hq; exact hq h2 w2 st0
end
end Go.Gb
namespace Go.Gb
open Go.Proofs IntWalk

/-! ## ring: Open, Format; writes on a sound device -/

theorem get8_word {s : ByteArray} : get8 s = wordAt s 0 := rfl

theorem pk_parts {g : Gp} {pl : Nat} (o : g.ok pl) : ((g.pk % 65536 : Nat) : Int) = g.s0 ∧ ((g.pk / 65536 % 65536 : Nat) : Int) = g.s1 ∧ ((g.pk / 4294967296 : Nat) : Int) = g.s2 := by
  have e := Gp.pk_int g o.l o.h
  have hr := o.r
  have h1 := o.l
  have h2 := o.h
  unfold rightP at hr
  unfold Gb.pk at e
  omega

section
variable {F G : Nat → Prop} {h h1 h2 h3 : Heap} {d b r n : Nat} {p : RPl} {x : RS} {Q : Value → Heap → Prop}

set_option maxRecDepth 100000 in
theorem ring_Open.c (w : PmD F h d x.s) (lv : Live F h) (i : RgI p x)
    (hq : ∀ b r G h', RD F G h' d b r p ⟨x.s, x.l, x.g, 0⟩ → (∀ k, G k → h k = none) → h r = none → Part h h' → Q (.tuple #[.pointer (some ⟨r, 0, none⟩), .int .i64 0]) h') :
    C Tryz.prog 11 #[.pointer (some ⟨d, 0, none⟩), ringV p] h Q := by
  have hb := i.rb
  apply ring_Open.ok
  refine ring_check.c w hb ⟨_, rfl, xsIf_f rfl (ring_Plan_Bank.c hb ⟨_, _, _, rfl, spare_Open.c (p := p.bk) w lv i.sp fun b G h1 wb wd fg lf lg pt => ⟨_, _, rfl, xsIf_f rfl (ring_Plan_register.c hb ⟨_, rfl, ?_⟩)⟩⟩)⟩
  have db : DB F G h1 d b p.bk x.s x.l := ⟨wd, wb, lf, lg, fun k hg hf => lv k hf (fg k hg)⟩
  have hz : (rd p.bk x.s x.l (p.pl + 1)).size = 64 := rdN_size _ _
  have e0 : get8 (rd p.bk x.s x.l (p.pl + 1)) = x.g.pk := i.reg
  refine spare_Bank_Read.rd db i.sp (by rw [bk_pl]; omega) ⟨_, _, rfl, xsIf_f rfl (le_Get.c (by omega) ⟨_, rfl, ?_⟩)⟩
  rw [e0]
  refine gap_Unpack.c (Gp.pk_lt i.g) ⟨_, _, _, rfl, ?_⟩
  obtain ⟨q0, q1, q2⟩ := pk_parts i.g
  rw [q0, q1, q2]
  intro r hr
  generalize e2 : upd h1 r (Obj.cells #[.int .i64 p.pa, .int .i64 p.pl, .int .i64 p.ps, .int .i64 p.psi, .pointer (some ⟨b, 0, none⟩), .int .i64 x.g.s0, .int .i64 x.g.s1, .int .u32 x.g.s2, .int .i64 0] 98 (0, 0)) = h2
  have pt2 : Part h1 h2 := by rw [← e2]; exact Part.upd hr _
  have rd2 : RD F G h2 d b r p ⟨x.s, x.l, x.g, 0⟩ := by
    refine ⟨db.part pt2, ⟨_, by rw [← e2, upd_same]; rfl⟩, fun hf => ?_⟩
    rcases hf with hf | hf
    · exact lf r hf hr
    · exact lg r hf hr
  refine ⟨r, 0, rfl, _, rd2.c5, _, rd2.c6, _, rd2.c7, gap_State_Right.c ⟨_, rfl, xsIf_f ?_ ?_⟩⟩
  · rw [decide_eq_true i.g.r]; rfl
  · exact hq b r G h2 rd2 fg (Part.none pt hr) (pt.trans pt2)

def Gp.first (pl : Nat) : Gp := ⟨0, pl, 0⟩
theorem Gp.first_ok {pl : Nat} (h1 : 1 ≤ pl) (h2 : pl ≤ 1024) : (Gp.first pl).ok pl := ⟨⟨by omega, by omega, by show (0 : Int) ≤ 0; omega, by show (0 : Int) < pl; omega, by show (0 : Int) ≤ (pl : Int); omega, by show (pl : Int) ≤ pl; omega⟩, by show (0 : Int) ≤ 0; omega, by show (0 : Int) < 4294967296; omega⟩

theorem ring_Format.c {s s1 : PmS} (w : PmD F h d s) (lv : Live F h) (hb : RpB p s.nl) (hs : sformat p.bk s = (0, s1)) (sp : SpI p.bk s1 [])
    (hq : ∀ h', PmD F h' d (swritew p.bk [] s1 (p.pl + 1) 0 (Gp.first p.pl).pk).2.1 → Step F h F h' → Q (.int .i64 (swritew p.bk [] s1 (p.pl + 1) 0 (Gp.first p.pl).pk).1) h') :
    C Tryz.prog 9 #[.pointer (some ⟨d, 0, none⟩), ringV p] h Q := by
  have l1 := hb.l1
  have l2 := hb.l2
  have ok := Gp.first_ok l1 l2
  apply ring_Format.ok
  refine ring_check.c w hb ⟨_, rfl, xsIf_f rfl (ring_Plan_Bank.c hb ⟨_, _, _, rfl, spare_Format.c (p := p.bk) w lv hb.ok fun h1 w1 st1 => ⟨_, rfl, ?_⟩⟩)⟩
  rw [hs] at w1 ⊢
  have lv1 := st1.dom lv
  refine xsIf_f rfl (ring_Plan_Bank.c hb ⟨_, _, _, rfl, spare_Open.c (p := p.bk) w1 lv1 sp fun b G h2 wb wd fg lf lg pt => ⟨_, _, rfl, xsIf_f rfl (ring_Plan_register.c hb ⟨_, rfl, gap_First.c ⟨_, _, _, rfl, gap_State_Pack.c (by omega) (by omega) ⟨_, rfl, ?_⟩⟩⟩)⟩⟩)
  have db : DB F G h2 d b p.bk s1 [] := ⟨wd, wb, lf, lg, fun k hg hf => lv1 k hf (fg k hg)⟩
  rw [if_pos ⟨by omega, by omega⟩]
  have epk : pk 0 (p.pl : Int) 0 = (((Gp.first p.pl).pk : Nat) : Int) := (Gp.pk_int _ ok.l ok.h).symm
  rw [epk]
  refine spare_Bank_WriteWord.c db sp.w (Gp.pk_lt ok) fun h3 w3 st3 => ⟨_, rfl, ?_⟩
  have e2 : sWriteWord p.bk [] s1 ((p.pl + 1 : Nat) : Int) 0 (Gp.first p.pl).pk = swritew p.bk [] s1 (p.pl + 1) 0 (Gp.first p.pl).pk := sWriteWord_eq (k := 0) (by rw [bk_pl]; omega) (by omega)
  have w3 : DB F G h3 d b p.bk (sWriteWord p.bk [] s1 ((p.pl + 1 : Nat) : Int) 0 (Gp.first p.pl).pk).2.1 (sWriteWord p.bk [] s1 ((p.pl + 1 : Nat) : Int) 0 (Gp.first p.pl).pk).2.2 := w3
  rw [e2] at w3 ⊢
  exact hq h3 w3.dv (st1.trans (Step.drop pt st3 fg))
end

/-! ### on a sound device -/

theorem swritew_clean {p : Pl} {s : PmS} {l : List Nat} (w : SpI p s l) (f : F0 s) (hb : ∀ k, s.bad k = false) {i k v : Nat} (hi : i < p.pl) (hk : k < 8) (hv : v < 18446744073709551616) :
    ∃ s', swritew p l s i k v = (0, s', l) ∧ SpI p s' l ∧ F0 s' ∧ s'.bad = s.bad ∧ s'.nl = s.nl ∧ ∀ j, j < p.pl → rd p s' l j = if j = i then withW (rd p s l i) k v else rd p s l j := by
  obtain ⟨f1, f2⟩ := whN_lt w.ok w.len hi
  have h1 := f.putw (v := ((v : Nat) : Int)) f1 hk
  have o := swritew_out w hi hk hv
  have hr : R64 ((v : Nat) : Int) := ⟨by omega, by omega⟩
  have w1 := w.putw f2 f1 hk hr h1.1
  have e : swritew p l s i k v = (0, (lnputw s (whN p l i : Nat) (k : Nat) (v : Nat)).2, l) := by
    unfold swritew
    rw [lnget_on w.on f1, if_pos rfl, if_pos h1.1]
    refine if_pos ((media_took w1.w (by rw [lnputw_nl]; exact f1) (withW_size _ _ _)).1 ?_)
    obtain ⟨_, m⟩ := w.on.putw0 f1 hk h1.1 (v := ((v : Nat) : Int))
    refine rdN_eq (withW_size _ _ _) fun j hj => ?_
    have hv0 : ∀ w', (s.media w').toNat < 18446744073709551616 ∧ s.media w' = (((s.media w').toNat : Nat) : Int) := fun w' => by have := w.w.media w'; unfold R64 at this; omega
    have wd : wordAt (lnbytes fun k => (s.media (8 * whN p l i + k)).toNat) j = (s.media (8 * whN p l i + j)).toNat := wordAt_text (f := fun k => (s.media (8 * whN p l i + k)).toNat) hj (hv0 _).1
    have wb : wordAt (withW (lnbytes fun k => (s.media (8 * whN p l i + k)).toNat) k v) j = if j = k then v else wordAt (lnbytes fun k => (s.media (8 * whN p l i + k)).toNat) j := wordAt_text (f := fun j => if j = k then v else wordAt (lnbytes fun k => (s.media (8 * whN p l i + k)).toNat) j) hj (by split; exact hv; exact wordAt_lt _ _)
    rw [wb, m _ (by omega)]
    by_cases ej : j = k
    · rw [if_pos ⟨by omega, hb _⟩, if_pos ej]
    · rw [if_neg (fun h => ej (by omega)), if_neg ej, wd]; exact (hv0 _).2
  rw [e] at o
  refine ⟨_, e, w1, h1.2, lnputw_bad w.on f1 hk, lnputw_nl _ _ _ _, ?_⟩
  rcases o with o | o | o
  · exact o.2.2
  · have := o.1; cases this
  · have := o.1; cases this

/-- Sound, and no fuse. -/
structure Sd (s : PmS) : Prop where
  f : F0 s
  nb : ∀ k, s.bad k = false

/-- What a slot's write does on a sound device. -/
def FClean (p : RPl) (f : PmS → List Nat → Nat → Int × PmS × List Nat) : Prop :=
  ∀ (s : PmS) (l : List Nat) (k : Nat), k < p.bk.pl → SpI p.bk s l → Sd s → ∃ s', f s l k = (0, s', l) ∧ Sd s' ∧ s'.nl = s.nl

theorem FClean.write (p : RPl) {B : ByteArray} (hB : B.size = 64) : FClean p (fun s l k => swrite p.bk l s k B) := fun s l k hk sp sd => by
  obtain ⟨s', e, _, f, b, n, _⟩ := swrite_clean sp sd.f sd.nb hk hB
  exact ⟨s', e, ⟨f, fun k => by rw [b]; exact sd.nb k⟩, n⟩
theorem FClean.word (p : RPl) {j v : Nat} (hj : j < 8) (hv : v < 18446744073709551616) : FClean p (fun s l k => swritew p.bk l s k j v) := fun s l k hk sp sd => by
  obtain ⟨s', e, _, f, b, n, _⟩ := swritew_clean sp sd.f sd.nb hk hj hv
  exact ⟨s', e, ⟨f, fun k => by rw [b]; exact sd.nb k⟩, n⟩

theorem FOut.write (p : RPl) (x : RS) {B : ByteArray} (hB : B.size = 64) : FOut p x (fun s l k => swrite p.bk l s k B) (fun _ => B) (fun b y => mixP b B y) := fun _ _ _ hk sp => swrite_out sp hk hB
theorem FOut.word (p : RPl) (x : RS) {j v : Nat} (hj : j < 8) (hv : v < 18446744073709551616) : FOut p x (fun s l k => swritew p.bk l s k j v) (fun b => withW b j v) (fun b y => y = b ∨ y = withW b j v) := fun _ _ _ hk sp => swritew_out sp hk hj hv

theorem rmove_clean {p : RPl} {x : RS} (w : RgI p x) (sd : Sd x.s) : (rmove p x).1 = 0 ∧ Sd (rmove p x).2.s ∧ (rmove p x).2.s.nl = x.s.nl := by
  obtain ⟨ok, d1, d2, d3, d4, d5, _, mv⟩ := Gp.move w.g
  obtain ⟨s', e, sp, f, b, n, _⟩ := swrite_clean w.sp sd.f sd.nb (i := x.g.dst p.pl) (B := rd p.bk x.s x.l (x.g.src p.pl)) (by rw [bk_pl]; omega) (rdN_size _ _)
  have nb : ∀ k, s'.bad k = false := fun k => by rw [b]; exact sd.nb k
  obtain ⟨s2, e2, sp2, f2, b2, n2, _⟩ := swritew_clean sp f nb (i := p.pl + 1) (k := 0) (v := (x.g.next p.pl).pk) (by rw [bk_pl]; omega) (by omega) (Gp.pk_lt ok)
  have er : rmove p x = (0, ⟨s2, x.l, x.g.next p.pl, 0⟩) := by
    unfold rmove rmove1
    rw [e, if_pos rfl]
    unfold rmove2
    rw [e2, if_pos rfl]
  rw [er]
  exact ⟨rfl, ⟨f2, fun k => by rw [b2]; exact nb k⟩, n2.trans n⟩

theorem rput_clean {p : RPl} {x : RS} {f : PmS → List Nat → Nat → Int × PmS × List Nat} (w : RgI p x) (sd : Sd x.s) {i : Nat} (hi : i < p.pl) (hf : FClean p f) :
    (rput p f x i).1 = 0 ∧ Sd (rput p f x i).2.s ∧ (rput p f x i).2.s.nl = x.s.nl ∧ (rput p f x i).2.g = x.g ∧ (rput p f x i).2.n = x.n + 1 := by
  have hs := (Gp.slot_at w.g hi).2.1
  obtain ⟨s', e, sd', n⟩ := hf x.s x.l (x.g.slot p.pl i) (by rw [bk_pl]; omega) w.sp sd
  unfold rput rput2
  rw [e]
  exact ⟨rfl, sd', n, rfl, rfl⟩

/-- A write on a sound device: done; it moves on after psi of them. -/
theorem rwrite_clean {p : RPl} {x : RS} {f : PmS → List Nat → Nat → Int × PmS × List Nat} (w : RgI p x) (sd : Sd x.s) {i : Nat} (hi : i < p.pl) (hf : FClean p f) :
    (rwrite p f x i).1 = 0 ∧ Sd (rwrite p f x i).2.s ∧ (rwrite p f x i).2.s.nl = x.s.nl ∧ (rwrite p f x i).2.g = (if p.psi ≤ x.n then x.g.next p.pl else x.g) ∧ (rwrite p f x i).2.n = (if p.psi ≤ x.n then 1 else x.n + 1) := by
  unfold rwrite
  by_cases h : p.psi ≤ x.n
  · rw [if_pos h, if_pos h, if_pos h]
    obtain ⟨e, sd1, n1⟩ := rmove_clean w sd
    rw [if_pos e]
    rcases rmove_out w with ⟨_, w1, _, z, g1⟩ | ⟨e2, _⟩ | ⟨e2, _⟩
    · have r := rput_clean w1 sd1 hi hf
      exact ⟨r.1, r.2.1, r.2.2.1.trans n1, r.2.2.2.1.trans g1, by rw [r.2.2.2.2, z]⟩
    · rw [e] at e2; cases e2
    · rw [e] at e2; cases e2
  · rw [if_neg h, if_neg h, if_neg h]
    exact rput_clean w sd hi hf

/-- A new region on a new device. -/
theorem rformat_new {p : RPl} {n : Nat} (hb : RpB p n) : ∃ s1 s2, sformat p.bk (pnew n) = (0, s1) ∧ SpI p.bk s1 [] ∧ swritew p.bk [] s1 (p.pl + 1) 0 (Gp.first p.pl).pk = (0, s2, []) ∧ RgI p ⟨s2, [], Gp.first p.pl, 0⟩ ∧ Sd s2 ∧ s2.nl = n ∧ ∀ j, j < p.pl → rr p ⟨s2, [], Gp.first p.pl, 0⟩ j = zero64 := by
  obtain ⟨s1, e1, cl, sp, n1, b1, m1, k1⟩ := sformat_new hb.ok
  have ok := Gp.first_ok hb.l1 hb.l2
  obtain ⟨s2, e2, sp2, f2, b2, n2, r2⟩ := swritew_clean sp ⟨cl.off, cl.fuse⟩ (fun k => by rw [b1]) (i := p.pl + 1) (k := 0) (v := (Gp.first p.pl).pk) (by rw [bk_pl]; omega) (by omega) (Gp.pk_lt ok)
  refine ⟨s1, s2, e1, sp, e2, ⟨sp2, ok, ?_, hb.l1, hb.l2, hb.q1, hb.q2, Nat.zero_le _⟩, ⟨f2, fun k => by rw [b2, b1]⟩, n2.trans n1, fun j hj => ?_⟩
  · show wordAt (rd p.bk s2 [] (p.pl + 1)) 0 = _
    rw [r2 _ (by rw [bk_pl]; omega), if_pos rfl, wordAt_withW (Gp.pk_lt ok)]
  · have hs := Gp.slot_at ok hj
    show rd p.bk s2 [] ((Gp.first p.pl).slot p.pl j) = _
    rw [r2 _ (by rw [bk_pl]; omega), if_neg (by omega)]
    refine rdN_eq rfl fun k hk => ?_
    have := (whN_lt (p := p.bk) (l := []) (n := n) hb.ok (Nat.zero_le _) (show (Gp.first p.pl).slot p.pl j < p.bk.pl by rw [bk_pl]; omega)).1
    rw [zero64_word, m1 _ (by omega)]; rfl
end Go.Gb
namespace Go.Gb
open Go.Proofs IntWalk

/-! ## SpareTorn: the turns -/

theorem p135_ok : PlOk p135 12 := ⟨by decide, by decide, by decide, by decide, by decide⟩

theorem torn_word {a : ByteArray} (za : a.size = 64) : sext a 0 8 ++ ⟨#[UInt8.ofNat 1, UInt8.ofNat 2, UInt8.ofNat 3, UInt8.ofNat 4, UInt8.ofNat 5, UInt8.ofNat 6, UInt8.ofNat 7, UInt8.ofNat 8]⟩ ++ sext a 16 (a.size : Int) = withW a 1 578437695752307201 := by
  have h := with_text (w := a) (k := 1) (v := 578437695752307201) za (by omega) (by omega)
  rw [show (⟨(putL 578437695752307201 8).toArray⟩ : ByteArray) = ⟨#[UInt8.ofNat 1, UInt8.ofNat 2, UInt8.ofNat 3, UInt8.ofNat 4, UInt8.ofNat 5, UInt8.ofNat 6, UInt8.ofNat 7, UInt8.ofNat 8]⟩ by kernel_rfl] at h
  exact h

section
variable {hk h0 h : Heap} {F G : Nat → Prop} {d b : Nat} {s : PmS} {l : List Nat} {Q : Value → Heap → Prop} {ba : Option Addr} {bs : List Int} {bc bc2 : Nat} {s0 s1 : ByteArray} {c0 c1 c2 t28 turn : Int}

end

end Go.Gb
namespace Go.Gb
open Go.Proofs IntWalk

/-! ## gabionlaw07: full, wakes -/

theorem gabionlaw07_full.c {s : ByteArray} {h : Heap} {Q : Value → Heap → Prop} (hs : s.size ≤ 140737488351232) (hq : Q (.string (fullB s)) h) : C Tryz.prog 14 #[.string s] h Q := by
  apply gabionlaw07_full.ok
  refine strings_Repeat.c (c := 64) (by omega) (by show 1 ≤ 1000000; omega) ⟨_, rfl, ?_, ?_, hq⟩
  · show ((s.size + zero64.size : Nat) : Int) ≤ _
    rw [zero64_size]; omega
  · show (0 : Int) ≤ 64 ∧ (64 : Int) ≤ ((s ++ zero64).size : Int)
    rw [ByteArray.size_append, zero64_size]; omega

theorem rwrite_sound {p : RPl} {x : RS} {f : PmS → List Nat → Nat → Int × PmS × List Nat} {T : ByteArray → ByteArray} {M : ByteArray → ByteArray → Prop} (w : RgI p x) (sd : Sd x.s) {i : Nat} (hi : i < p.pl) (hf : FClean p f) (ho : FOut p x f T M) (hM : M (rr p x i) (rr p x i)) :
    ∃ x', rwrite p f x i = (0, x') ∧ RgI p x' ∧ Sd x'.s ∧ x'.s.nl = x.s.nl ∧ x'.g = (if p.psi ≤ x.n then x.g.next p.pl else x.g) ∧ x'.n = (if p.psi ≤ x.n then 1 else x.n + 1) ∧ ∀ j, j < p.pl → rr p x' j = if j = i then T (rr p x i) else rr p x j := by
  obtain ⟨c1, c2, c3, c4, c5⟩ := rwrite_clean w sd hi hf
  have o := rwrite_out w hi ho hM
  generalize rwrite p f x i = q at c1 c2 c3 c4 c5 o
  obtain ⟨e, x'⟩ := q
  have c1 : e = 0 := c1
  subst c1
  rcases o with o | o | o
  · exact ⟨x', rfl, o.2.1, c2, c3, c4, c5, o.2.2⟩
  · have := o.1; cases this
  · have := o.1; cases this

theorem mixP_self {b : ByteArray} {B : ByteArray} (hb : b.size = 64) (hB : B.size = 64) : mixP b B b := ⟨hb, hB, hb, fun _ _ => .inl rfl⟩
theorem rr_size (p : RPl) (x : RS) (j : Nat) : (rr p x j).size = 64 := rdN_size _ _

theorem rWrite_eq {p : RPl} {x : RS} {i : Nat} {B : ByteArray} (hi : i < p.pl) (hB : B.size = 64) : rWrite p x (i : Int) B = rwrite p (fun s l k => swrite p.bk l s k B) x i := by
  unfold rWrite; rw [if_pos hB, if_pos (by omega), Int.toNat_natCast]
theorem rWriteWord_eq {p : RPl} {x : RS} {i k v : Nat} (hi : i < p.pl) (hk : k < 8) : rWriteWord p x (i : Int) (k : Int) v = rwrite p (fun s l j => swritew p.bk l s j k v) x i := by
  unfold rWriteWord; rw [if_pos (by omega), if_pos (by omega), Int.toNat_natCast, Int.toNat_natCast]

/-- A line is written on a sound device. -/
theorem rWrite_sound {p : RPl} {x : RS} (w : RgI p x) (sd : Sd x.s) {i : Nat} (hi : i < p.pl) {B : ByteArray} (hB : B.size = 64) :
    ∃ x', rWrite p x (i : Int) B = (0, x') ∧ RgI p x' ∧ Sd x'.s ∧ x'.s.nl = x.s.nl ∧ x'.g = (if p.psi ≤ x.n then x.g.next p.pl else x.g) ∧ x'.n = (if p.psi ≤ x.n then 1 else x.n + 1) ∧ ∀ j, j < p.pl → rr p x' j = if j = i then B else rr p x j := by
  rw [rWrite_eq hi hB]
  exact rwrite_sound w sd hi (FClean.write p hB) (FOut.write p x hB) (mixP_self (rr_size _ _ _) hB)
theorem rWriteWord_sound {p : RPl} {x : RS} (w : RgI p x) (sd : Sd x.s) {i k v : Nat} (hi : i < p.pl) (hk : k < 8) (hv : v < 18446744073709551616) :
    ∃ x', rWriteWord p x (i : Int) (k : Int) v = (0, x') ∧ RgI p x' ∧ Sd x'.s ∧ x'.s.nl = x.s.nl ∧ x'.g = (if p.psi ≤ x.n then x.g.next p.pl else x.g) ∧ x'.n = (if p.psi ≤ x.n then 1 else x.n + 1) ∧ ∀ j, j < p.pl → rr p x' j = if j = i then withW (rr p x i) k v else rr p x j := by
  rw [rWriteWord_eq hi hk]
  exact rwrite_sound w sd hi (FClean.word p hk hv) (FOut.word p x hk hv) (.inl rfl)

/-- A region, beside what there was. -/
structure Rq (h0 h : Heap) (F G : Nat → Prop) (d b r : Nat) (p : RPl) (x : RS) : Prop where
  rd : RD F G h d b r p x
  pt : Part h0 h
  ff : ∀ k, h0 k ≠ none → ¬ FR F G r k

section
variable {F G : Nat → Prop} {h0 h h1 : Heap} {d b r n : Nat} {p : RPl} {x x' : RS} {Q : Value → Heap → Prop}

theorem Rq.next (i : Rq h0 h F G d b r p x) (w : RD F G h1 d b r p x') (st : Step (FR F G r) h (FR F G r) h1) : Rq h0 h1 F G d b r p x' := ⟨w, st.part i.pt i.ff, i.ff⟩
theorem Rq.part (i : Rq h0 h F G d b r p x) (pt : Part h h1) : Rq h0 h1 F G d b r p x := ⟨i.rd.part pt, i.pt.trans pt, i.ff⟩
theorem Rq.dev {s' : PmS} (i : Rq h0 h F G d b r p x) (w : PmD F h1 d s') (st : Step F h F h1) : Rq h0 h1 F G d b r p ⟨s', x.l, x.g, x.n⟩ :=
  i.next (i.rd.bank (i.rd.db.dev w st) st.left) st.left.left

/-- The region is opened on its device. -/
theorem Rq.of_open {h2 : Heap} (w : RD F G h2 d b r p x) (pt : Part h h1) (pt2 : Part h1 h2) (hF : ∀ k, h k ≠ none → ¬ F k) (hG : ∀ k, G k → h1 k = none) (hr : h1 r = none) : Rq h h2 F G d b r p x := by
  refine ⟨w, pt.trans pt2, fun k hk hf => ?_⟩
  have e := part_live pt hk
  rcases hf with (hf | hf) | hf
  · exact hF k hk hf
  · rw [hG k hf] at e; exact hk e.symm
  · have hf : k = r := hf
    rw [hf, hr] at e; rw [hf] at hk; exact hk e.symm

def pwr : RPl := ⟨0, 4, 0, 2⟩
theorem pwr_ok : RpB pwr 6 := ⟨by decide, by decide, by decide, by decide, by decide, by decide, by decide, by decide, by decide⟩

set_option maxRecDepth 100000 in
theorem gabionlaw07_wakes.c {h : Heap} (hq : ∀ h', Part h h' → Q (.bool true) h') : C Tryz.prog 10 #[] h Q := by
  apply gabionlaw07_wakes.ok
  obtain ⟨s1, s2, e1, sp1, e2, rg, sd, n2, rz⟩ := rformat_new pwr_ok
  refine pm_New.c (n := 6) (by omega) (by omega) fun d F h1 w1 fr lv1 p1 => ⟨_, _, rfl, ring_Format.c (p := pwr) w1 lv1 pwr_ok e1 sp1 fun h2 w2 st2 => ⟨_, rfl, ?_⟩⟩
  rw [e2] at w2 ⊢
  have hff : ∀ k, h k ≠ none → ¬ F k := fun k hk' hf => hk' (fr k hf)
  have P2 : Part h h2 := st2.part p1 hff
  have lv2 := st2.dom lv1
  refine ring_Open.c (p := pwr) (x := ⟨s2, [], Gp.first pwr.pl, 0⟩) w2 lv2 rg fun b r G h3 w3 fG fr3 p3 => ⟨_, _, rfl, xsIf_f rfl (xsIf_f rfl (xsIf_f rfl ?_))⟩
  have i3 := Rq.of_open w3 P2 p3 hff fG fr3
  refine ring_Ring_State.c w3 ⟨_, _, _, rfl, gap_First.c ⟨_, _, _, rfl, xsIf_f rfl ?_⟩⟩
  apply gabionlaw07_wakes.J7.ok
  have hp : pwr.pl = 4 := rfl
  have hpsi : pwr.psi = 2 := rfl
  obtain ⟨x1, q1, rg1, sd1, nl1, g1, m1, r1⟩ := rWrite_sound rg sd (i := 0) (by omega) (fullB_size ⟨#[UInt8.ofNat 97]⟩)
  obtain ⟨x2, q2, rg2, sd2, nl2, g2, m2, r2⟩ := rWrite_sound rg1 sd1 (i := 3) (by omega) (fullB_size bB)
  obtain ⟨x3, q3, rg3, sd3, nl3, g3, m3, r3⟩ := rWriteWord_sound rg2 sd2 (i := 1) (k := 0) (v := 5) (by omega) (by omega) (by omega)
  have m1 : x1.n = 1 := m1
  have m2 : x2.n = 2 := by rw [m2, m1]; rfl
  have m3 : x3.n = 1 := by rw [m3, m2]; rfl
  have g1 : x1.g = Gp.first 4 := g1
  have g2 : x2.g = Gp.first 4 := by rw [g2, m1, g1]; rfl
  have g3 : x3.g = (Gp.first 4).next 4 := by rw [g3, m2, g2]; rfl
  refine gabionlaw07_full.c (by decide) ⟨_, rfl, ring_Ring_Write.c (i := 0) w3 rg fun h4 w4 st4 => ⟨_, rfl, ?_⟩⟩
  have q1' : rWrite pwr ⟨s2, [], Gp.first pwr.pl, 0⟩ 0 (fullB ⟨#[UInt8.ofNat 97]⟩) = (0, x1) := q1
  rw [q1'] at w4
  have i4 := i3.next w4 st4
  refine gabionlaw07_full.c (by decide) ⟨_, rfl, ring_Ring_Write.c (i := 3) (B := fullB bB) i4.rd rg1 fun h5 w5 st5 => ⟨_, rfl, ?_⟩⟩
  have q2' : rWrite pwr x1 3 (fullB bB) = (0, x2) := q2
  rw [q2'] at w5
  have i5 := i4.next w5 st5
  refine ring_Ring_State.c i5.rd ⟨_, _, _, rfl, ring_Ring_WriteWord.c (i := 1) (k := 0) (v := 5) i5.rd rg2 (by omega) fun h6 w6 st6 => ⟨_, rfl, ?_⟩⟩
  have q3' : rWriteWord pwr x2 1 0 5 = (0, x3) := q3
  rw [q3'] at w6 ⊢
  have i6 := i5.next w6 st6
  refine ring_Ring_Read.c (i := 3) i6.rd rg3.g rg3.sp (fun _ _ => ⟨_, _, rfl, ?_⟩) fun hn => absurd ⟨by omega, by omega⟩ hn
  have er : rr pwr x3 3 = fullB bB := by rw [r3 3 (by omega), if_neg (by omega), r2 3 (by omega), if_pos rfl]
  refine xsIf_t (by rw [g2]; rfl) (xsIf_t rfl (xsIf_t rfl (gabionlaw07_full.c (by decide) ⟨_, rfl, xsIf_t (decide_eq_true er) (ring_Ring_State.c i6.rd ⟨_, _, _, rfl, xsIf_t ?_ (ring_Ring_Since.c i6.rd ⟨_, rfl, ?_⟩)⟩)⟩)))
  · rw [g3]; exact decide_eq_true (by rw [(Gp.move (Gp.first_ok (pl := 4) (by omega) (by omega))).2.2.2.2.2.2.1, u32_w]; rfl)
  · rw [m3]; exact hq h6 i6.pt
end
end Go.Gb
namespace Go.Gb
open Go.Proofs IntWalk

/-! ## SparePlays -/

theorem bools_whole {h : Heap} {ka : Option Addr} {ks : List Bool} (hr : readsAt h ka (ks.map Value.bool)) : BoolsAt h ka ks := by
  have := bools_at (n := ks.length) hr
  rw [List.take_length] at this; exact this

section
variable {h0 h : Heap} {F G M : Nat → Prop} {d b m : Nat} {p : Pl} {s : PmS} {l : List Nat} {Q : Value → Heap → Prop} {a : Option Addr} {n cp : Nat} {N t tb : Int} {x0 x1 x2 x3 : Int} {xs : ByteArray} {ka : Option Addr} {kc : Nat} {ks : List Bool}

end
end Go.Gb
namespace Go.Gb
open Go.Proofs IntWalk

end Go.Gb
namespace Go.Gb
open Go.Proofs IntWalk

/-! ## RingAlike: two regions side by side -/

theorem small_rpl (x0 x1 x2 x3 : Int) : ∃ p : RPl, p.pa ≤ 1 ∧ 1 ≤ p.pl ∧ p.pl ≤ 5 ∧ p.ps ≤ 8 ∧ 1 ≤ p.psi ∧ p.psi ≤ 4 ∧ irem (imax 0 x0) 2 = p.pa ∧ IntKind.i64.wrap (1 + irem (imax 0 x1) 5) = p.pl ∧ irem (imax 0 x2) 9 = p.ps ∧ IntKind.i64.wrap (1 + irem (imax 0 x3) 4) = p.psi := by
  obtain ⟨a, ha⟩ : ∃ q : Nat, imax 0 x0 = q := ⟨(imax 0 x0).toNat, by rw [imax_eq]; omega⟩
  obtain ⟨l, hl⟩ : ∃ q : Nat, imax 0 x1 = q := ⟨(imax 0 x1).toNat, by rw [imax_eq]; omega⟩
  obtain ⟨s, hs⟩ : ∃ q : Nat, imax 0 x2 = q := ⟨(imax 0 x2).toNat, by rw [imax_eq]; omega⟩
  obtain ⟨t, ht⟩ : ∃ q : Nat, imax 0 x3 = q := ⟨(imax 0 x3).toNat, by rw [imax_eq]; omega⟩
  refine ⟨⟨a % 2, 1 + l % 5, s % 9, 1 + t % 4⟩, by show a % 2 ≤ 1; omega, by show 1 ≤ 1 + l % 5; omega, by show 1 + l % 5 ≤ 5; omega, by show s % 9 ≤ 8; omega, by show 1 ≤ 1 + t % 4; omega, by show 1 + t % 4 ≤ 4; omega, ?_, ?_, ?_, ?_⟩
  · rw [ha]; exact irem_nat a 2
  · rw [hl, show irem ((l : Nat) : Int) 5 = ((l % 5 : Nat) : Int) from irem_nat l 5, i64_in _ (by omega)]
    show (1 : Int) + ((l % 5 : Nat) : Int) = ((1 + l % 5 : Nat) : Int); omega
  · rw [hs]; exact irem_nat s 9
  · rw [ht, show irem ((t : Nat) : Int) 4 = ((t % 4 : Nat) : Int) from irem_nat t 4, i64_in _ (by omega)]
    show (1 : Int) + ((t % 4 : Nat) : Int) = ((1 + t % 4 : Nat) : Int); omega

theorem small_ok {p : RPl} {n : Nat} (h1 : p.pa ≤ 1) (h2 : 1 ≤ p.pl) (h3 : p.pl ≤ 5) (h4 : p.ps ≤ 8) (h5 : 1 ≤ p.psi) (h6 : p.psi ≤ 4) (hn : p.pa + (1 + (p.pl + 2) + p.ps) ≤ n) : RpB p n :=
  ⟨h2, by omega, h5, by omega, ⟨by show 1 ≤ p.pl + 2; omega, by show p.pl + 2 ≤ 1026; omega, by show p.ps ≤ 64; omega, by show p.pa ≤ 8192; omega, by show p.pa + ((p.ps + 7) / 8 + (p.pl + 2) + p.ps) ≤ n; omega⟩⟩

/-- Both regions read alike. -/
structure Al (p q : RPl) (x y : RS) : Prop where
  w : RgI p x
  v : RgI q y
  sw : Sd x.s
  sv : Sd y.s
  l : q.pl = p.pl
  e : ∀ j, j < p.pl → rr p x j = rr q y j

theorem Al.write {p q : RPl} {x y : RS} (a : Al p q x y) (i : Int) {B : ByteArray} (hB : B.size = 64) : (rWrite p x i B).1 = (rWrite q y i B).1 ∧ Al p q (rWrite p x i B).2 (rWrite q y i B).2 := by
  by_cases hi : 0 ≤ i ∧ i < p.pl
  · obtain ⟨k, rfl⟩ : ∃ k : Nat, i = k := ⟨i.toNat, by omega⟩
    have hl := a.l
    obtain ⟨x1, e1, w1, s1, _, _, _, r1⟩ := rWrite_sound a.w a.sw (i := k) (by omega) hB
    obtain ⟨y1, e2, w2, s2, _, _, _, r2⟩ := rWrite_sound a.v a.sv (i := k) (by omega) hB
    rw [e1, e2]
    refine ⟨rfl, w1, w2, s1, s2, a.l, fun j hj => ?_⟩
    show rr p x1 j = rr q y1 j
    rw [r1 j hj, r2 j (by omega), a.e j hj]
  · have hl := a.l
    unfold rWrite
    rw [if_pos hB, if_neg hi, if_pos hB, if_neg (by omega)]
    exact ⟨rfl, a⟩
theorem Al.word {p q : RPl} {x y : RS} (a : Al p q x y) (i k : Int) {v : Nat} (hv : v < 18446744073709551616) : (rWriteWord p x i k v).1 = (rWriteWord q y i k v).1 ∧ Al p q (rWriteWord p x i k v).2 (rWriteWord q y i k v).2 := by
  have hl := a.l
  by_cases hk : 0 ≤ k ∧ k < 8
  · by_cases hi : 0 ≤ i ∧ i < p.pl
    · obtain ⟨i, rfl⟩ : ∃ k : Nat, i = k := ⟨i.toNat, by omega⟩
      obtain ⟨k, rfl⟩ : ∃ q : Nat, k = q := ⟨k.toNat, by omega⟩
      obtain ⟨x1, e1, w1, s1, _, _, _, r1⟩ := rWriteWord_sound a.w a.sw (i := i) (k := k) (by omega) (by omega) hv
      obtain ⟨y1, e2, w2, s2, _, _, _, r2⟩ := rWriteWord_sound a.v a.sv (i := i) (k := k) (by omega) (by omega) hv
      rw [e1, e2]
      refine ⟨rfl, w1, w2, s1, s2, a.l, fun j hj => ?_⟩
      show rr p x1 j = rr q y1 j
      rw [r1 j hj, r2 j (by omega), a.e j hj, a.e i (by omega)]
    · unfold rWriteWord
      rw [if_pos hk, if_neg hi, if_pos hk, if_neg (by omega)]
      exact ⟨rfl, a⟩
  · unfold rWriteWord
    rw [if_neg hk, if_neg hk]
    exact ⟨rfl, a⟩

section
variable {F G F' G' : Nat → Prop} {h0 h h1 : Heap} {d b r d' b' r' n : Nat} {p q : RPl} {x x' y y' : RS} {Q : Value → Heap → Prop}

theorem RD.keep (w : RD F G h d b r p x) (e : ∀ k, FR F G r k → h k ≠ none → h1 k = h k) (st : ∀ k, h k ≠ none → h1 k ≠ none) : RD F G h1 d b r p x :=
  ⟨⟨w.db.dv.keep fun k hk hn => e k (.inl (.inl hk)) hn, w.db.bk.keep fun k hk hn => e k (.inl (.inr hk)) hn, fun k hk => st k (w.db.lf k hk), fun k hk => st k (w.db.lg k hk), w.db.ap⟩, w.rc.keep (e r (.inr rfl) w.rc.ne), w.nr⟩

structure R2 (h0 h : Heap) (F G : Nat → Prop) (d b r : Nat) (p : RPl) (x : RS) (F' G' : Nat → Prop) (d' b' r' : Nat) (q : RPl) (y : RS) : Prop where
  a : Rq h0 h F G d b r p x
  b : Rq h0 h F' G' d' b' r' q y
  ap : Apart (FR F G r) (FR F' G' r')

theorem R2.left (i : R2 h0 h F G d b r p x F' G' d' b' r' q y) (w : RD F G h1 d b r p x') (st : Step (FR F G r) h (FR F G r) h1) : R2 h0 h1 F G d b r p x' F' G' d' b' r' q y :=
  ⟨i.a.next w st, ⟨i.b.rd.keep (st.same i.ap) st.live, st.part i.a.pt i.a.ff, i.b.ff⟩, i.ap⟩
theorem R2.right (i : R2 h0 h F G d b r p x F' G' d' b' r' q y) (w : RD F' G' h1 d' b' r' q y') (st : Step (FR F' G' r') h (FR F' G' r') h1) : R2 h0 h1 F G d b r p x F' G' d' b' r' q y' :=
  ⟨⟨i.a.rd.keep (st.same i.ap.symm) st.live, st.part i.b.pt i.b.ff, i.a.ff⟩, i.b.next w st, i.ap⟩

end
end Go.Gb
namespace Go.Gb
open Go.Proofs IntWalk

/-! ## RingAlike: the law -/

theorem gabionlaw07_small.c {x0 x1 x2 x3 : Int} {p : RPl} {h : Heap} {Q : Value → Heap → Prop} (e0 : irem (imax 0 x0) 2 = p.pa) (e1 : IntKind.i64.wrap (1 + irem (imax 0 x1) 5) = p.pl) (e2 : irem (imax 0 x2) 9 = p.ps) (e3 : IntKind.i64.wrap (1 + irem (imax 0 x3) 4) = p.psi) (hq : Q (ringV p) h) :
    C Tryz.prog 7 #[.agg #[.int .i64 x0, .int .i64 x1, .int .i64 x2, .int .i64 x3]] h Q := by
  apply gabionlaw07_small.ok
  unfold gabionlaw07_small.wp
  rw [e0, e1, e2, e3]
  exact hq

section
variable {F G F' G' : Nat → Prop} {h0 h h1 : Heap} {d b r d' b' r' n : Nat} {p q : RPl} {x x' y y' : RS} {Q : Value → Heap → Prop}

def ringVs (p : RPl) : List Value := [.int .i64 p.pa, .int .i64 p.pl, .int .i64 p.ps, .int .i64 p.psi]

end

end Go.Gb
namespace Go.Gb
open Go.Proofs IntWalk

/-! ## SpareCount: how many lines can wear out -/

/-- How many of the first spares are good. -/
def gcount (dead : Nat → Bool) : Nat → Nat
  | 0 => 0
  | k + 1 => if dead k = true then gcount dead k else gcount dead k + 1
theorem gcount_le (dead : Nat → Bool) {j k : Nat} (h : j ≤ k) : gcount dead j ≤ gcount dead k := by
  induction k with
  | zero => have : j = 0 := by omega
            subst this; exact Nat.le_refl _
  | succ k ih =>
    by_cases e : j = k + 1
    · rw [e]; exact Nat.le_refl _
    · have := ih (by omega)
      show gcount dead j ≤ (if dead k = true then gcount dead k else gcount dead k + 1)
      split <;> omega

/-- Spares that were not yet used are zero. -/
def Zs (p : Pl) (s : PmS) (n : Nat) : Prop := ∀ k, n ≤ k → k < p.ps → rdN s.media (sparN p k) = zero64

structure Cnt (p : Pl) (i : Nat) (dead : Nat → Bool) (s : PmS) (l : List Nat) (r : Int × PmS × List Nat) : Prop where
  sp : SpI p r.2.1 r.2.2
  f : F0 r.2.1
  bad : r.2.1.bad = s.bad
  nl : r.2.1.nl = s.nl
  z : Zs p r.2.1 r.2.2.length
  mem : ∀ x ∈ r.2.2, x ∈ l ∨ x = 65535 ∨ x = i + 1
  res : (r.1 = 0 ∧ gcount dead r.2.2.length = gcount dead l.length + 1) ∨ (r.1 = 10 ∧ gcount dead r.2.2.length = gcount dead l.length ∧ r.2.2.length = p.ps)

theorem sretire_count {p : Pl} {dead : Nat → Bool} {i : Nat} {B : ByteArray} (hi : i < p.pl) (hB : B.size = 64) (hz : B ≠ zero64) : ∀ (m : Nat) (s : PmS) (l : List Nat), l.length + m = p.ps → SpI p s l → F0 s → (∀ k, k < p.ps → s.bad (sparN p k) = dead k) → Zs p s l.length →
    Cnt p i dead s l (sretire p i B m s l)
  | 0, s, l, hm, w, f, hd, z => ⟨w, f, rfl, rfl, z, fun x hx => .inl hx, .inr ⟨rfl, rfl, by show l.length = _; omega⟩⟩
  | m + 1, s, l, hm, w, f, hd, z => by
    have hl : l.length < p.ps := by omega
    obtain ⟨f1, f2⟩ := spar_fit w.ok hl
    have h1 := f.put f1 hB
    have w1 := w.put f2 f1 hB h1.1
    have nl1 := lnput_nl s (sparN p l.length : Nat) B
    have bd1 := lnput_bad w.on f1 hB
    have mr : ∀ c, c < s.nl → rdN (lnput s (sparN p l.length : Nat) B).2.media c = if c = sparN p l.length ∧ s.bad (sparN p l.length) = false then B else rdN s.media c := fun c hc => put_rd w.on f1 hc hB h1.1
    have tk : rdN (lnput s (sparN p l.length : Nat) B).2.media (sparN p l.length) = B ↔ took (lnput s (sparN p l.length : Nat) B).2 (sparN p l.length) B = true := media_took (B := B) (a := sparN p l.length) w1.w (by rw [nl1]; exact f1) hB
    unfold sretire
    rw [if_pos h1.1]
    have h2 := h1.2
    generalize (lnput s (sparN p l.length : Nat) B).2 = s1 at w1 nl1 h2 bd1 mr tk
    have zs : ∀ k, l.length + 1 ≤ k → k < p.ps → rdN s1.media (sparN p k) = zero64 := fun k h1 h2 => by
      rw [mr _ (spar_fit w.ok h2).1, if_neg (fun h => by have := h.1; unfold sparN at this; omega)]
      exact z k (by omega) h2
    obtain ⟨g1, g2, g3, g4⟩ := say_at w1.ok hl
    have h8 : l.length % 8 < 8 := Nat.mod_lt _ (by omega)
    have zs2 : ∀ v : Int, (lnputw s1 (p.pa + l.length / 8 : Nat) (l.length % 8 : Nat) v).1 = 0 → ∀ k, l.length + 1 ≤ k → k < p.ps → rdN (lnputw s1 (p.pa + l.length / 8 : Nat) (l.length % 8 : Nat) v).2.media (sparN p k) = zero64 := fun v h0 k ha hb => by
      obtain ⟨q1, q2⟩ := spar_fit w.ok hb
      rw [putw_rd w1.on g1 h8 (by rw [nl1]; exact q1) (fun e => by omega) h0]
      exact zs k ha hb
    cases hdl : dead l.length with
    | false =>
      have hb : s.bad (sparN p l.length) = false := by rw [hd _ hl, hdl]
      have ht : took s1 (sparN p l.length) B = true := tk.1 (by rw [mr _ f1, if_pos ⟨rfl, hb⟩])
      rw [if_pos ht]
      have h3 := h2.putw (v := ((guardN (i + 1) : Nat) : Int)) g1 h8
      rw [h3.1, if_pos rfl]
      have w3 := w1.say (x := i + 1) (.inr ⟨by omega, by omega⟩) hl h3.1
      refine ⟨w3, h3.2, (lnputw_bad w1.on g1 h8).trans bd1, (lnputw_nl _ _ _ _).trans nl1, fun k ha hb => ?_, fun x hx => ?_, .inl ⟨rfl, ?_⟩⟩
      · have ha : (l ++ [i + 1]).length ≤ k := ha
        rw [List.length_append] at ha
        exact zs2 _ h3.1 k ha hb
      · rcases List.mem_append.1 hx with h | h
        · exact .inl h
        · exact .inr (.inr (List.mem_singleton.1 h))
      · show gcount dead (l ++ [i + 1]).length = _
        rw [List.length_append]
        show (if dead l.length = true then _ else _) = _
        rw [hdl]; rfl
    | true =>
      have hb : s.bad (sparN p l.length) = true := by rw [hd _ hl, hdl]
      have ht : ¬ took s1 (sparN p l.length) B = true := fun t => by
        have := tk.2 t
        rw [mr _ f1, if_neg (fun h => by rw [hb] at h; cases h.2), z _ (Nat.le_refl _) hl] at this
        exact hz this.symm
      rw [if_neg ht]
      have h3 := h2.putw (v := ((guardN 65535 : Nat) : Int)) g1 h8
      rw [if_pos h3.1]
      have w3 := w1.say (x := 65535) (.inl rfl) hl h3.1
      have nl3 := lnputw_nl s1 (p.pa + l.length / 8 : Nat) (l.length % 8 : Nat) (guardN 65535 : Nat)
      have bd3 := lnputw_bad w1.on g1 h8 (v := ((guardN 65535 : Nat) : Int))
      have z3 := zs2 _ h3.1
      have h4 := h3.2
      generalize (lnputw s1 (p.pa + l.length / 8 : Nat) (l.length % 8 : Nat) (guardN 65535 : Nat)).2 = s3 at w3 nl3 bd3 z3 h4
      have ih := sretire_count (dead := dead) hi hB hz m s3 (l ++ [65535]) (by simp; omega) w3 h4 (fun k hk => by rw [bd3, bd1]; exact hd k hk) (fun k ha hb => by rw [List.length_append] at ha; exact z3 k ha hb)
      have eg : gcount dead (l ++ [65535]).length = gcount dead l.length := by
        rw [List.length_append]
        show (if dead l.length = true then _ else _) = _
        rw [hdl, if_pos rfl]
      refine ⟨ih.sp, ih.f, ih.bad.trans (bd3.trans bd1), ih.nl.trans (nl3.trans nl1), ih.z, fun x hx => ?_, by rw [← eg]; exact ih.res⟩
      rcases ih.mem x hx with h | h
      · rcases List.mem_append.1 h with h | h
        · exact .inl h
        · exact .inr (.inl (List.mem_singleton.1 h))
      · exact .inr h

/-- After so many lines wore out. -/
structure Cs (p : Pl) (dead : Nat → Bool) (s : PmS) (l : List Nat) (i : Nat) : Prop where
  sp : SpI p s l
  f : F0 s
  bs : ∀ k, k < p.ps → s.bad (sparN p k) = dead k
  z : Zs p s l.length
  mem : ∀ x ∈ l, x = 65535 ∨ x ≤ i
  zl : ∀ j, i ≤ j → j < p.pl → rd p s l j = zero64
  cnt : gcount dead l.length = min i (gcount dead p.ps)

theorem Cs.none {p : Pl} {dead : Nat → Bool} {s : PmS} {l : List Nat} {i : Nat} (w : Cs p dead s l i) (hi : i < p.pl) (hp : p.pl ≤ 1026) : whN p l i = ownN p i := by
  unfold whN
  cases e : stands l i with
  | none => rfl
  | some k =>
    obtain ⟨h1, h2⟩ := stN_lt _ e
    have hm : i + 1 ∈ l := by
      rw [← h2, List.getD_eq_getElem?_getD, List.getElem?_eq_getElem h1]
      exact List.getElem_mem h1
    rcases w.mem _ hm with h | h <;> omega

theorem Cs.step {p : Pl} {dead : Nat → Bool} {s : PmS} {l : List Nat} {i : Nat} {B : ByteArray} (w : Cs p dead s l i) (hb : s.bad (ownN p i) = true) (hi : i < p.pl) (hB : B.size = 64) (hz : B ≠ zero64) :
    Cs p dead (swrite p l s i B).2.1 (swrite p l s i B).2.2 (i + 1) ∧ (swrite p l s i B).2.1.bad = s.bad ∧ (swrite p l s i B).2.1.nl = s.nl ∧
      (swrite p l s i B).1 = (if i < gcount dead p.ps then 0 else 10) ∧ rd p (swrite p l s i B).2.1 (swrite p l s i B).2.2 i = if i < gcount dead p.ps then B else zero64 := by
  have hl2 := w.sp.ok.l2
  have hw := w.none hi hl2
  obtain ⟨f1, f2⟩ := whN_lt w.sp.ok w.sp.len hi
  have o := swrite_out w.sp hi hB
  have hlen := w.sp.len
  have h1 := w.f.put f1 hB
  have w1 := w.sp.put f2 f1 hB h1.1
  have mr : ∀ c, c < s.nl → rdN (lnput s (whN p l i : Nat) B).2.media c = rdN s.media c := fun c hc => by
    rw [put_rd w.sp.on f1 hc hB h1.1, if_neg (fun h => by rw [hw, hb] at h; cases h.2)]
  have ht : ¬ took (lnput s (whN p l i : Nat) B).2 (whN p l i) B = true := fun t => by
    have : rdN (lnput s (whN p l i : Nat) B).2.media (whN p l i) = B := (media_took w1.w (by rw [lnput_nl]; exact f1) hB).2 t
    rw [mr _ f1] at this
    exact hz (this.symm.trans (w.zl i (Nat.le_refl _) hi))
  have e : swrite p l s i B = sretire p i B (p.ps - l.length) (lnput s (whN p l i : Nat) B).2 l := by
    unfold swrite; rw [if_pos h1.1, if_neg ht]
  have bd1 := lnput_bad w.sp.on f1 hB
  have nl1 := lnput_nl s (whN p l i : Nat) B
  have c := sretire_count (dead := dead) hi hB hz (p.ps - l.length) _ l (by omega) w1 h1.2 (fun k hk => by rw [bd1]; exact w.bs k hk) (fun k ha hb => by rw [mr _ (spar_fit w.sp.ok hb).1]; exact w.z k ha hb)
  rw [← e] at c
  generalize swrite p l s i B = r at o c
  have cn := w.cnt
  have gle := gcount_le dead c.sp.len
  have ms : ∀ x ∈ r.2.2, x = 65535 ∨ x ≤ i + 1 := fun x hx => by
    rcases c.mem x hx with h | h | h
    · rcases w.mem x h with h | h
      · exact .inl h
      · exact .inr (by omega)
    · exact .inl h
    · exact .inr (by omega)
  have hbad : r.2.1.bad = s.bad := c.bad.trans bd1
  rcases c.res with ⟨e0, ec⟩ | ⟨e0, ec, el⟩
  · have hlt : i < gcount dead p.ps := by omega
    rw [if_pos hlt, if_pos hlt]
    rcases o with ⟨_, _, m⟩ | ⟨x, _⟩ | ⟨x, _⟩
    · refine ⟨⟨c.sp, c.f, fun k hk => by rw [hbad]; exact w.bs k hk, c.z, ms, fun j ha hb => by rw [m j hb, if_neg (by omega)]; exact w.zl j (by omega) hb, by omega⟩, hbad, c.nl.trans nl1, e0, by rw [m i hi, if_pos rfl]⟩
    · rw [e0] at x; cases x
    · rw [e0] at x; cases x
  · rw [el] at ec
    have hlt : ¬ i < gcount dead p.ps := by omega
    rw [if_neg hlt, if_neg hlt]
    rcases o with ⟨x, _⟩ | ⟨_, _, m⟩ | ⟨x, _⟩
    · rw [e0] at x; cases x
    · refine ⟨⟨c.sp, c.f, fun k hk => by rw [hbad]; exact w.bs k hk, c.z, ms, fun j ha hb => by rw [m j hb]; exact w.zl j (by omega) hb, by rw [el]; omega⟩, hbad, c.nl.trans nl1, e0, by rw [m i hi]; exact w.zl i (Nat.le_refl _) hi⟩
    · rw [e0] at x; cases x
end Go.Gb
namespace Go.Gb
open Go.Proofs IntWalk

/-! ## SpareCount -/

def p086 : Pl := ⟨0, 8, 6⟩
theorem p086_ok : PlOk p086 15 := ⟨by decide, by decide, by decide, by decide, by decide⟩

def letterB (i : Nat) : ByteArray := fullB (Utf8.encode (IntKind.i32.wrap (IntKind.i64.wrap (97 + (i : Int)))))
theorem letter_size (i : Nat) : (letterB i).size = 64 := fullB_size _
theorem letter_ne {i : Nat} (hi : i < 8) : letterB i ≠ zero64 := by
  match i, hi with
  | 0, _ => decide +kernel
  | 1, _ => decide +kernel
  | 2, _ => decide +kernel
  | 3, _ => decide +kernel
  | 4, _ => decide +kernel
  | 5, _ => decide +kernel
  | 6, _ => decide +kernel
  | 7, _ => decide +kernel
theorem letter_short (n : Int) : (Utf8.encode n).size ≤ 140737488351232 := by
  unfold Utf8.encode
  dsimp only
  repeat' split
  all_goals first | exact (show 1 ≤ 140737488351232 by omega) | exact (show 2 ≤ 140737488351232 by omega) | exact (show 3 ≤ 140737488351232 by omega) | exact (show 4 ≤ 140737488351232 by omega)

section
variable {h0 h : Heap} {F G : Nat → Prop} {d b : Nat} {s : PmS} {l : List Nat} {Q : Value → Heap → Prop} {dead : Nat → Bool}

end

end Go.Gb
namespace Go.Gb
open Go.Proofs IntWalk

/-! ## RingEven: pure -/

theorem Gp.next_s1 {g : Gp} {pl : Nat} (o : g.ok pl) : (0 < g.s1 → (g.next pl).s1 = g.s1 - 1) ∧ (g.s1 = 0 → (g.next pl).s1 = pl) := by
  obtain ⟨t0, t1, e, _, _, _, h1, h2⟩ := nextS_move (s2 := g.s2) o.r
  have e1 : (g.next pl).s1 = t1 := by unfold Gp.next; rw [e]
  rw [e1]
  exact ⟨fun h => (h1 h).1, fun h => (h2 h).1⟩

/-- How many moves go by before a line moves. -/
def Gp.dist (g : Gp) (pl i : Nat) : Nat := if ((g.slot pl i : Nat) : Int) < g.s1 then (g.s1 - 1 - (g.slot pl i : Nat)).toNat else (g.s1 + pl - (g.slot pl i : Nat)).toNat

theorem Gp.dist_lt {g : Gp} {pl i : Nat} (o : g.ok pl) (hi : i < pl) : g.dist pl i + 1 ≤ pl := by
  obtain ⟨_, a2, a3, _⟩ := Gp.slot_at o hi
  have r := o.r
  unfold rightP at r
  unfold Gp.dist
  split <;> omega
theorem Gp.dist_move {g : Gp} {pl i : Nat} (o : g.ok pl) (hi : i < pl) :
    ((g.next pl).slot pl i = g.slot pl i → 1 ≤ g.dist pl i ∧ (g.next pl).dist pl i = g.dist pl i - 1) ∧ ((g.next pl).slot pl i ≠ g.slot pl i → True) := by
  refine ⟨fun e => ?_, fun _ => trivial⟩
  obtain ⟨ok, d1, d2, d3, d4, d5, _, mv⟩ := Gp.move o
  obtain ⟨n1, n2⟩ := Gp.next_s1 o
  obtain ⟨_, a2, a3, _⟩ := Gp.slot_at o hi
  obtain ⟨_, b2, b3, _⟩ := Gp.slot_at ok hi
  have m := mv i hi
  have r := o.r
  unfold rightP at r
  unfold Gp.dist
  rw [e] at m b3 ⊢
  generalize g.slot pl i = q at *
  by_cases hs : 0 < g.s1
  · have n1 := n1 hs
    rw [n1] at b3 ⊢
    split <;> split <;> omega
  · have n2 := n2 (by omega)
    rw [n2] at b3 ⊢
    split <;> split <;> omega

/-- How it stands behind n writes. -/
structure Evn (p : RPl) (x : RS) (n M : Nat) (mv st : Nat → Int) : Prop where
  w : RgI p x
  sd : Sd x.s
  n : n = M * p.psi + x.n
  m0 : 1 ≤ M → 1 ≤ x.n
  s2 : x.g.s2 = M
  s1 : x.g.s1 = ((p.pl - M % (p.pl + 1) : Nat) : Int)
  mv : ∀ k, k ≤ p.pl → mv k = (((M + k) / (p.pl + 1) : Nat) : Int)
  st : ∀ i, i < p.pl → 0 ≤ st i ∧ st i ≤ (((p.pl - 1 - x.g.dist p.pl i) * p.psi + x.n : Nat) : Int)

theorem div_is {n a b r : Nat} (h : n = a * b + r) (hr : r < b) : n / b = a := by
  subst h
  rw [Nat.mul_comm, Nat.mul_add_div (by omega), Nat.div_eq_of_lt hr, Nat.add_zero]

theorem moved_step {M k m : Nat} : ((M + 1 + k) / (m + 1) : Nat) = (M + k) / (m + 1) + (if k % (m + 1) = (m - M % (m + 1)) % (m + 1) then 1 else 0) := by
  have h1 := Nat.div_add_mod (M + k) (m + 1)
  have h2 := Nat.div_add_mod (M + 1 + k) (m + 1)
  have l1 := Nat.mod_lt (M + k) (show 0 < m + 1 by omega)
  have l3 := Nat.mod_lt M (show 0 < m + 1 by omega)
  have l4 := Nat.mod_lt k (show 0 < m + 1 by omega)
  have e1 : (M + k) % (m + 1) = if M % (m + 1) + k % (m + 1) < m + 1 then M % (m + 1) + k % (m + 1) else M % (m + 1) + k % (m + 1) - (m + 1) := by
    rw [Nat.add_mod]
    split
    · exact Nat.mod_eq_of_lt (by omega)
    · rw [Nat.mod_eq_sub_mod (by omega), Nat.mod_eq_of_lt (by omega)]
  have e2 : (m - M % (m + 1)) % (m + 1) = m - M % (m + 1) := Nat.mod_eq_of_lt (by omega)
  rw [e2]
  by_cases hc : (M + k) % (m + 1) = m
  · rw [if_pos (by split at e1 <;> omega)]
    refine div_is (r := 0) ?_ (by omega)
    rw [Nat.add_mul, Nat.mul_comm, Nat.one_mul]
    generalize (M + k) / (m + 1) = u at h1 ⊢
    have : (m + 1) * u = u * (m + 1) := Nat.mul_comm _ _
    omega
  · rw [if_neg (by split at e1 <;> omega)]
    refine div_is (r := (M + k) % (m + 1) + 1) ?_ (by omega)
    show M + 1 + k = (M + k) / (m + 1) * (m + 1) + ((M + k) % (m + 1) + 1)
    generalize (M + k) / (m + 1) = u at h1 ⊢
    have : (m + 1) * u = u * (m + 1) := Nat.mul_comm _ _
    omega

theorem gap_step {M m : Nat} (s1 s1' : Int) (e : s1 = ((m - M % (m + 1) : Nat) : Int)) (h1 : 0 < s1 → s1' = s1 - 1) (h2 : s1 = 0 → s1' = m) : s1' = ((m - (M + 1) % (m + 1) : Nat) : Int) := by
  have l3 := Nat.mod_lt M (show 0 < m + 1 by omega)
  have e1 : (M + 1) % (m + 1) = if M % (m + 1) = m then 0 else M % (m + 1) + 1 := by
    rw [Nat.add_mod]
    by_cases h : m = 0
    · subst h; simp [Nat.mod_one]
    · rw [Nat.mod_eq_of_lt (show 1 < m + 1 by omega)]
      split
      · rw [Nat.mod_eq_sub_mod (by omega), Nat.mod_eq_of_lt (by omega)]; omega
      · exact Nat.mod_eq_of_lt (by omega)
  rw [e1]
  split <;> omega
end Go.Gb
namespace Go.Gb
open Go.Proofs IntWalk

/-! ## RingEven: a write -/

/-- How long a line is where it is, behind a write. -/
noncomputable def stp (pl : Nat) (g g' : Gp) (st : Nat → Int) (i : Nat) : Int := if g'.slot pl i = g.slot pl i then st i + 1 else 1

theorem Evn.bound {p : RPl} {x : RS} {n M : Nat} {mv st : Nat → Int} (e : Evn p x n M mv st) {i : Nat} (hi : i < p.pl) : 0 ≤ st i ∧ st i ≤ ((p.pl * p.psi : Nat) : Int) := by
  obtain ⟨s0, s1⟩ := e.st i hi
  refine ⟨s0, Int.le_trans s1 ?_⟩
  have h1 := e.w.n
  have h2 := e.w.l1
  have : (p.pl - 1 - x.g.dist p.pl i) * p.psi ≤ (p.pl - 1) * p.psi := Nat.mul_le_mul_right _ (by omega)
  have h3 : (p.pl - 1) * p.psi + p.psi = p.pl * p.psi := by rw [← Nat.succ_mul]; congr 1; omega
  omega

theorem Evn.step {p : RPl} {x : RS} {n M : Nat} {mv st : Nat → Int} (e : Evn p x n M mv st) (hn : n < 1000) {i : Nat} (hi : i < p.pl) {B : ByteArray} (hB : B.size = 64) :
    ∃ x', rWrite p x (i : Int) B = (0, x') ∧
      ((x'.g = x.g ∧ n / p.psi = M ∧ Evn p x' (n + 1) M mv (stp p.pl x.g x'.g st)) ∨
       (x'.g = x.g.next p.pl ∧ n / p.psi = M + 1 ∧ x'.g.s2 ≠ x.g.s2 ∧ Evn p x' (n + 1) (M + 1) (fset mv x.g.s1.toNat (mv x.g.s1.toNat + 1)) (stp p.pl x.g x'.g st))) := by
  have q1 := e.w.q1
  have en := e.n
  have hxn := e.w.n
  have s2 := e.s2
  have l1 := e.w.l1
  obtain ⟨x', ew, w', sd', nl', g', n', rr'⟩ := rWrite_sound e.w e.sd hi hB
  refine ⟨x', ew, ?_⟩
  by_cases h : p.psi ≤ x.n
  · rw [if_pos h] at g' n'
    have hM : M + 1 ≤ n := by
      have : M * 1 ≤ M * p.psi := Nat.mul_le_mul_left M q1
      omega
    obtain ⟨_, d1, _, _, _, _, d6, _⟩ := Gp.move e.w.g
    obtain ⟨t1, t2⟩ := Gp.next_s1 e.w.g
    have e2 : x'.g.s2 = ((M + 1 : Nat) : Int) := by rw [g', d6, s2, u32_w]; omega
    have en1 : n = (M + 1) * p.psi + 0 := by rw [Nat.succ_mul]; omega
    refine .inr ⟨g', div_is en1 (by omega), by rw [e2, s2]; omega, w', sd', by rw [n']; omega, fun _ => by omega, e2, ?_, fun k hk => ?_, fun i hi => ?_⟩
    · exact gap_step _ _ e.s1 (by rw [g']; exact t1) (by rw [g']; exact t2)
    · have hm := e.mv k hk
      have l3 := Nat.mod_lt M (show 0 < p.pl + 1 by omega)
      have es : x.g.s1.toNat = p.pl - M % (p.pl + 1) := by rw [e.s1]; omega
      have hmt := e.mv (p.pl - M % (p.pl + 1)) (by omega)
      have st1 := moved_step (M := M) (k := k) (m := p.pl)
      rw [Nat.mod_eq_of_lt (show k < p.pl + 1 by omega), Nat.mod_eq_of_lt (show p.pl - M % (p.pl + 1) < p.pl + 1 by omega)] at st1
      unfold fset
      rw [es, st1]
      by_cases hk : k = p.pl - M % (p.pl + 1)
      · rw [if_pos hk, if_pos hk, hmt, ← hk]; omega
      · rw [if_neg hk, if_neg hk, hm]; omega
    · obtain ⟨b0, b1⟩ := e.st i hi
      have dl := Gp.dist_lt e.w.g hi
      unfold stp
      by_cases hs : x'.g.slot p.pl i = x.g.slot p.pl i
      · rw [if_pos hs]
        rw [g'] at hs ⊢
        obtain ⟨h1, h2⟩ := (Gp.dist_move e.w.g hi).1 hs
        rw [h2, n']
        have e3 : p.pl - 1 - (x.g.dist p.pl i - 1) = (p.pl - 1 - x.g.dist p.pl i) + 1 := by omega
        rw [e3, Nat.succ_mul]
        omega
      · rw [if_neg hs, n']; omega
  · rw [if_neg h] at g' n'
    refine .inl ⟨g', div_is en (by omega), w', sd', by rw [n']; omega, fun _ => by omega, by rw [g']; exact s2, by rw [g']; exact e.s1, e.mv, fun i hi => ?_⟩
    obtain ⟨b0, b1⟩ := e.st i hi
    unfold stp
    rw [g', if_pos rfl, n']
    omega

section
variable {F G : Nat → Prop} {h0 h h1 : Heap} {d b r bm bs : Nat} {p : RPl} {x x' : RS} {Q : Value → Heap → Prop} {mv st : Nat → Int}

structure Ev (h0 h : Heap) (F G : Nat → Prop) (d b r bm bs : Nat) (p : RPl) (x : RS) (mv st : Nat → Int) : Prop where
  rq : Rq h0 h F G d b r p x
  km : Blk h bm (rowI (p.pl + 1) mv)
  ks : Blk h bs (rowI p.pl st)
  nm : ¬ FR F G r bm
  ns : ¬ FR F G r bs
  ne : bm ≠ bs
  fm : ∀ k, h0 k ≠ none → k ≠ bm ∧ k ≠ bs

theorem Ev.next (i : Ev h0 h F G d b r bm bs p x mv st) (w : RD F G h1 d b r p x') (s : Step (FR F G r) h (FR F G r) h1) : Ev h0 h1 F G d b r bm bs p x' mv st :=
  ⟨i.rq.next w s, i.km.keep (s.keep bm i.nm i.km.ne), i.ks.keep (s.keep bs i.ns i.ks.ne), i.nm, i.ns, i.ne, i.fm⟩
theorem Ev.putm (i : Ev h0 h F G d b r bm bs p x mv st) {k : Nat} {v : Int} : Ev h0 (h.put bm k [.int .i64 v]) F G d b r bm bs p x (fset mv k v) st := by
  have s : Step (fun k => k = bm) h (fun k => k = bm) (h.put bm k [.int .i64 v]) := Step.put (F := fun k => k = bm) rfl _ _
  have ap : Apart (fun k => k = bm) (FR F G r) := fun k hk hf => i.nm (by rw [← show k = bm from hf]; exact hk)
  have km := i.km.put k [.int .i64 v]
  rw [setL_one, row_set (Value.int .i64)] at km
  exact ⟨⟨i.rq.rd.keep (s.same ap) s.live, s.part i.rq.pt fun k hk => (i.fm k hk).1, i.rq.ff⟩, km, i.ks.keep (put_other _ _ _ i.ne.symm), i.nm, i.ns, i.ne, i.fm⟩
theorem Ev.puts (i : Ev h0 h F G d b r bm bs p x mv st) {k : Nat} {v : Int} : Ev h0 (h.put bs k [.int .i64 v]) F G d b r bm bs p x mv (fset st k v) := by
  have s : Step (fun k => k = bs) h (fun k => k = bs) (h.put bs k [.int .i64 v]) := Step.put (F := fun k => k = bs) rfl _ _
  have ap : Apart (fun k => k = bs) (FR F G r) := fun k hk hf => i.ns (by rw [← show k = bs from hf]; exact hk)
  have ks := i.ks.put k [.int .i64 v]
  rw [setL_one, row_set (Value.int .i64)] at ks
  exact ⟨⟨i.rq.rd.keep (s.same ap) s.live, s.part i.rq.pt fun k hk => (i.fm k hk).2, i.rq.ff⟩, i.km.keep (put_other _ _ _ i.ne), ks, i.nm, i.ns, i.ne, i.fm⟩
theorem Ev.getm (i : Ev h0 h F G d b r bm bs p x mv st) {k : Nat} (hk : k < p.pl + 1) : h.cell bm k = some (.int .i64 (mv k)) := by
  rw [i.km.cell]; exact row_get (fun k => Value.int .i64 (mv k)) hk
theorem Ev.gets (i : Ev h0 h F G d b r bm bs p x mv st) {k : Nat} (hk : k < p.pl) : h.cell bs k = some (.int .i64 (st k)) := by
  rw [i.ks.cell]; exact row_get (fun k => Value.int .i64 (st k)) hk

theorem gabionlaw07_RingEven.L37.c {h : Heap} {m : Nat} {mv : Nat → Int} {c : Int} (hm : m ≤ 1000) (k : Blk h bm (rowI m mv)) (hc : 0 ≤ c ∧ c ≤ 1000) (hv : ∀ j, j < m → c ≤ mv j ∧ mv j ≤ c + 1) (hq : Q (.bool true) h) : ∀ (j q : Nat) (lo hi : Int), q + j = m → c ≤ lo → lo ≤ c + 1 → c ≤ hi → hi ≤ c + 1 →
    gabionlaw07_RingEven.L37 lo hi (some ⟨bm, 0, none⟩) m m (m : Int) (q : Int) h Q := by
  intro j
  induction j with
  | zero =>
    intro q lo hi hqm h1 h2 h3 h4
    apply gabionlaw07_RingEven.L37.ok
    refine xsIf_f (decide_eq_false (by omega)) ?_
    have : decide (IntKind.i64.wrap (hi - lo) ≤ 1) = true := decide_eq_true (by rw [i64_in _ (by omega)]; omega)
    rw [this]; exact hq
  | succ j ih =>
    intro q lo hi hqm h1 h2 h3 h4
    apply gabionlaw07_RingEven.L37.ok
    have hg := hv q (by omega)
    refine xsIf_t (decide_eq_true (by omega)) ⟨by omega, bm, 0, rfl, mv q, ?_, ?_⟩
    · rw [show 0 + (q : Int).toNat * 1 = q by omega, k.cell]; exact row_get (fun k => Value.int .i64 (mv k)) (by omega)
    · rw [show IntKind.i64.wrap ((q : Int) + 1) = ((q + 1 : Nat) : Int) by rw [i64_in _ (by omega)]; omega]
      exact ih (q + 1) _ _ (by omega) (by rw [imin_eq]; omega) (by rw [imin_eq]; omega) (by rw [imax_eq]; omega) (by rw [imax_eq]; omega)

theorem gabionlaw07_RingEven.L25.c {h : Heap} {ta : Option Addr} {tn tc : Nat} {N t q0 q2 : Int} {g : Gp} (og : g.ok p.pl) (w : RgI p x) (hb : ∀ i, i < p.pl → 0 ≤ st i ∧ st i ≤ ((p.pl * p.psi : Nat) : Int)) (hb' : ∀ i, i < p.pl → stp p.pl g x.g st i ≤ ((p.pl * p.psi : Nat) : Int)) (hp : p.pl ≤ 5) (hpsi : p.psi ≤ 4)
    (hq : ∀ h', Ev h0 h' F G d b r bm bs p x mv (stp p.pl g x.g st) → gabionlaw07_RingEven.L13 (some ⟨r, 0, none⟩) (some ⟨bm, 0, none⟩) (p.pl + 1) (p.pl + 1) (some ⟨bs, 0, none⟩) p.pl p.pl ta tn tc N (IntKind.i64.wrap (t + 1)) q0 p.pl q2 p.psi x.g.s0 x.g.s1 x.g.s2 h' Q) : ∀ (j k : Nat) (h : Heap), k + j = p.pl →
    Ev h0 h F G d b r bm bs p x mv (fun i => if i < k then stp p.pl g x.g st i else st i) →
    gabionlaw07_RingEven.L25 (some ⟨r, 0, none⟩) (some ⟨bm, 0, none⟩) (p.pl + 1) (p.pl + 1) (some ⟨bs, 0, none⟩) p.pl p.pl ta tn tc N t (p.pl : Int) (k : Int) q0 p.pl q2 p.psi g.s0 g.s1 g.s2 h Q := by
  have hmul : p.pl * p.psi ≤ 20 := by
    have := Nat.mul_le_mul hp hpsi
    omega
  have hlim : IntKind.i64.wrap (IntKind.i64.wrap ((p.pl : Int) + 1) * (p.psi : Int)) = (((p.pl + 1) * p.psi : Nat) : Int) := by
    rw [i64_in ((p.pl : Int) + 1) (by omega), show ((p.pl : Int) + 1) * (p.psi : Int) = (((p.pl + 1) * p.psi : Nat) : Int) by rw [Int.natCast_mul]; rfl]
    have := Nat.mul_le_mul (show p.pl + 1 ≤ 6 by omega) hpsi
    rw [i64_in _ (by omega)]
  have hlim2 : (p.pl + 1) * p.psi = p.pl * p.psi + p.psi := by rw [Nat.succ_mul]
  intro j
  induction j with
  | zero =>
    intro k h hk i
    apply gabionlaw07_RingEven.L25.ok
    refine xsIf_f (decide_eq_false (by omega)) (ring_Ring_State.c i.rq.rd ⟨_, _, _, rfl, hq h ?_⟩)
    have e : rowI p.pl (fun i => if i < k then stp p.pl g x.g st i else st i) = rowI p.pl (stp p.pl g x.g st) := by
      refine List.map_congr_left fun q hq => ?_
      rw [List.mem_range] at hq
      show Value.int .i64 (if q < k then stp p.pl g x.g st q else st q) = _
      rw [if_pos (by omega)]
    exact ⟨i.rq, i.km, by have := i.ks; rw [e] at this; exact this, i.nm, i.ns, i.ne, i.fm⟩
  | succ j ih =>
    intro k h hk i
    apply gabionlaw07_RingEven.L25.ok
    have hkp : k < p.pl := by omega
    have hc : h.cell bs (0 + (k : Int).toNat * 1) = some (.int .i64 (st k)) := by
      rw [show 0 + (k : Int).toNat * 1 = k by omega, i.gets hkp, if_neg (by omega)]
    obtain ⟨c0, c1⟩ := hb k hkp
    have c2 := hb' k hkp
    have fin : ∀ v, v = stp p.pl g x.g st k → gabionlaw07_RingEven.J30 (some ⟨r, 0, none⟩) (some ⟨bm, 0, none⟩) (p.pl + 1) (p.pl + 1) (some ⟨bs, 0, none⟩) p.pl p.pl (k : Int) ta tn tc N t (p.pl : Int) (k : Int) q0 p.pl q2 p.psi g.s0 g.s1 g.s2 (h.put bs (0 + (k : Int).toNat * 1) [.int .i64 v]) Q := by
      intro v hv
      rw [show 0 + (k : Int).toNat * 1 = k by omega]
      have i2 := i.puts (k := k) (v := v)
      have ef : fset (fun i => if i < k then stp p.pl g x.g st i else st i) k v = fun i => if i < k + 1 then stp p.pl g x.g st i else st i := by
        funext q
        unfold fset
        by_cases h1 : q = k
        · rw [if_pos h1, if_pos (by omega), h1, hv]
        · rw [if_neg h1]
          show (if q < k then stp p.pl g x.g st q else st q) = _
          by_cases h2 : q < k
          · rw [if_pos h2, if_pos (by omega)]
          · rw [if_neg h2, if_neg (by omega)]
      rw [ef] at i2
      apply gabionlaw07_RingEven.J30.ok
      refine ⟨by omega, bs, 0, rfl, v, ?_, xsIf_f (decide_eq_false ?_) ?_⟩
      · rw [show 0 + (k : Int).toNat * 1 = k by omega, i2.gets hkp, if_pos (by omega), hv]
      · rw [hlim]; omega
      · rw [show IntKind.i64.wrap ((k : Int) + 1) = ((k + 1 : Nat) : Int) by rw [i64_in _ (by omega)]; omega]
        exact ih (k + 1) _ (by omega) i2
    refine xsIf_t (decide_eq_true (by omega)) (ring_Ring_State.c i.rq.rd ⟨_, _, _, rfl, gap_State_Slot.c (slotS_at w.g hkp) ⟨_, rfl, gap_State_Slot.c (slotS_at og hkp) ⟨_, rfl, xsIf_intro (fun e => ?_) fun e => ?_⟩⟩⟩)
    · have e := of_decide_eq_true e
      refine ⟨by omega, bs, 0, rfl, _, hc, by omega, bs, 0, rfl, i.ks.can (by show _ ≤ (rowI _ _).length; simp; omega), fin _ ?_⟩
      unfold stp
      rw [i64_in _ (by omega), if_pos (by omega)]
    · have e := of_decide_eq_false e
      refine ⟨by omega, bs, 0, rfl, i.ks.can (by show _ ≤ (rowI _ _).length; simp; omega), fin _ ?_⟩
      unfold stp
      rw [if_neg (by omega)]
end
end Go.Gb
namespace Go.Gb
open Go.Proofs IntWalk

/-! ## RingEven: the law -/

section
variable {F G : Nat → Prop} {h0 h h1 : Heap} {d b r bm bs : Nat} {p : RPl} {x x' : RS} {Q : Value → Heap → Prop} {mv st : Nat → Int}

theorem gabionlaw07_RingEven.L13.c {h5 : Heap} {ta : Option Addr} {ls : List Int} {tc : Nat} {q0 q2 : Int} (hr : readsAt h5 ta (ints .u8 ls)) (h5p : Part h5 h0) (hls : ∀ x ∈ ls, (0 : Int) ≤ x ∧ x ≤ 255) (m : Nat) (hm : m ≤ ls.length) (hm2 : m ≤ 120) (hp : p.pl ≤ 5) (hpsi : p.psi ≤ 4)
    (hq : ∀ h', Part h0 h' → Q (.bool true) h') : ∀ (j k : Nat) (h : Heap) (x : RS) (M : Nat) (mv st : Nat → Int), k + j = m → Ev h0 h F G d b r bm bs p x mv st → Evn p x k M mv st →
      gabionlaw07_RingEven.L13 (some ⟨r, 0, none⟩) (some ⟨bm, 0, none⟩) (p.pl + 1) (p.pl + 1) (some ⟨bs, 0, none⟩) p.pl p.pl ta m tc (m : Int) (k : Int) q0 p.pl q2 p.psi x.g.s0 x.g.s1 x.g.s2 h Q := by
  intro j
  induction j with
  | zero =>
    intro k h x M mv st hk i e
    apply gabionlaw07_RingEven.L13.ok
    have q1 := e.w.q1
    have en := e.n
    have hM : M ≤ 120 := by
      have : M * 1 ≤ M * p.psi := Nat.mul_le_mul_left M q1
      omega
    have hdiv : M / (p.pl + 1) ≤ M := Nat.div_le_self _ _
    refine xsIf_f (decide_eq_false (by omega)) ⟨by omega, bm, 0, rfl, by omega, bm, 0, rfl, mv 0, i.getm (k := 0) (by omega), mv 0, i.getm (k := 0) (by omega), ?_⟩
    have hv : ∀ j, j < p.pl + 1 → ((M / (p.pl + 1) : Nat) : Int) ≤ mv j ∧ mv j ≤ ((M / (p.pl + 1) : Nat) : Int) + 1 := fun j hj => by
      rw [e.mv j (by omega)]
      have h1 : M / (p.pl + 1) ≤ (M + j) / (p.pl + 1) := Nat.div_le_div_right (by omega)
      have h2 : (M + j) / (p.pl + 1) ≤ (M + (p.pl + 1)) / (p.pl + 1) := Nat.div_le_div_right (by omega)
      rw [Nat.add_div_right _ (by omega)] at h2
      omega
    have v0 := hv 0 (by omega)
    generalize M / (p.pl + 1) = c at hdiv hv v0
    have := gabionlaw07_RingEven.L37.c (m := p.pl + 1) (mv := mv) (c := ((c : Nat) : Int)) (by omega) i.km (by omega) hv (hq h i.rq.pt) (p.pl + 1) 0 (mv 0) (mv 0) (by omega) v0.1 v0.2 v0.1 v0.2
    exact this
  | succ j ih =>
    intro k h x M mv st hk i e
    apply gabionlaw07_RingEven.L13.ok
    have hkl : k < ls.length := by omega
    have l1 := e.w.l1
    have q1 := e.w.q1
    refine xsIf_t (decide_eq_true (by omega)) ⟨by omega, ?_⟩
    refine reads_base (readsAt_part (readsAt_part hr h5p) i.rq.pt) (by simp [ints]; omega) fun b0 o hcell => ⟨ls[k], ?_, ?_⟩
    · have := hcell k (by simp [ints]; omega)
      rw [show (k : Int).toNat * 1 = k * 1 by omega, this]
      simp [ints, hkl]
    · have hx := hls ls[k] (List.getElem_mem hkl)
      generalize ls[k] = a at hx
      refine ring_Ring_State.c i.rq.rd ⟨_, _, _, rfl, ring_Ring_State.c i.rq.rd ⟨_, _, _, rfl, by omega, gabionlaw07_full.c (letter_short _) ⟨_, rfl, ?_⟩⟩⟩
      have ei : irem (IntKind.i64.wrap a) (p.pl : Int) = ((a.toNat % p.pl : Nat) : Int) := by
        rw [i64_in a (by omega), show a = ((a.toNat : Nat) : Int) by omega]; exact irem_nat _ _
      rw [ei]
      have hil : a.toNat % p.pl < p.pl := Nat.mod_lt _ (by omega)
      generalize a.toNat % p.pl = il at hil
      refine ring_Ring_Write.c i.rq.rd e.w fun h1 w1 st1 => ⟨_, rfl, ?_⟩
      have hB := fullB_size (Utf8.encode (IntKind.i32.wrap (IntKind.i64.wrap (97 + irem (k : Int) 20))))
      obtain ⟨x', ew, cs⟩ := e.step (by omega) hil hB
      rw [ew] at w1 ⊢
      have i1 := i.next w1 st1
      have q1' : (p.psi : Int) ≠ 0 := by omega
      have ek : IntKind.u32.wrap (iquo .i64 (k : Int) (p.psi : Int)) = ((k / p.psi : Nat) : Int) := by
        have : k / p.psi ≤ k := Nat.div_le_self _ _
        rw [iquo_i64 (by omega) (by omega) (by omega), show (k : Int) / (p.psi : Int) = ((k / p.psi : Nat) : Int) from rfl, u32_w]; omega
      refine xsIf_f rfl ⟨q1', ring_Ring_State.c i1.rq.rd ⟨_, _, _, rfl, ?_⟩⟩
      rw [ek]
      have ih' : ∀ M' mv' h2, Ev h0 h2 F G d b r bm bs p x' mv' st → Evn p x' (k + 1) M' mv' (stp p.pl x.g x'.g st) →
          gabionlaw07_RingEven.J24 (some ⟨r, 0, none⟩) (some ⟨bm, 0, none⟩) (p.pl + 1) (p.pl + 1) (some ⟨bs, 0, none⟩) p.pl p.pl ta m tc (m : Int) (k : Int) q0 p.pl q2 p.psi x.g.s0 x.g.s1 x.g.s2 h2 Q := fun M' mv' h2 i2 e2 => by
        apply gabionlaw07_RingEven.J24.ok
        unfold gabionlaw07_RingEven.J24.wp
        have i2' : Ev h0 h2 F G d b r bm bs p x' mv' (fun i => if i < 0 then stp p.pl x.g x'.g st i else st i) := by
          have : (fun i => if i < 0 then stp p.pl x.g x'.g st i else st i) = st := by funext i; rw [if_neg (by omega)]
          rw [this]; exact i2
        refine gabionlaw07_RingEven.L25.c (h := h2) (st := st) e.w.g e2.w (fun i hi => e.bound hi) (fun i hi => (e2.bound hi).2) hp hpsi (fun h3 (i3 : Ev h0 h3 F G d b r bm bs p x' mv' (stp p.pl x.g x'.g st)) => ?_) p.pl 0 h2 (by omega) i2'
        rw [show IntKind.i64.wrap ((k : Int) + 1) = ((k + 1 : Nat) : Int) by rw [i64_in _ (by omega)]; omega]
        exact ih (k + 1) h3 x' M' mv' _ (by omega) i3 e2
      rcases cs with ⟨g', hd, e2⟩ | ⟨g', hd, ne, e2⟩
      · refine xsIf_f (decide_eq_false (fun hn => hn ?_)) (ring_Ring_State.c i1.rq.rd ⟨_, _, _, rfl, xsIf_f ?_ (ih' M mv h1 i1 e2)⟩)
        · rw [hd]; exact e2.s2
        · rw [g', decide_eq_true rfl, decide_eq_true rfl, decide_eq_true rfl]; rfl
      · refine xsIf_f (decide_eq_false (fun hn => hn ?_)) (ring_Ring_State.c i1.rq.rd ⟨_, _, _, rfl, xsIf_t ?_ ?_⟩)
        · rw [hd]; exact e2.s2
        · rw [decide_eq_false ne, Bool.false_and, Bool.and_false, Bool.and_false]; rfl
        · have r := e.w.g.r
          unfold rightP at r
          have hM : M ≤ 120 := by
            have en := e.n
            have : M * 1 ≤ M * p.psi := Nat.mul_le_mul_left M q1
            omega
          have hmv := e.mv x.g.s1.toNat (by omega)
          have hdiv : (M + x.g.s1.toNat) / (p.pl + 1) ≤ M + x.g.s1.toNat := Nat.div_le_self _ _
          generalize (M + x.g.s1.toNat) / (p.pl + 1) = u at hmv hdiv
          refine ⟨by omega, bm, 0, rfl, mv x.g.s1.toNat, ?_, by omega, bm, 0, rfl, i1.km.can (by show _ ≤ (rowI _ _).length; simp; omega), ?_⟩
          · rw [show 0 + x.g.s1.toNat * 1 = x.g.s1.toNat by omega]; exact i1.getm (by omega)
          · rw [show 0 + x.g.s1.toNat * 1 = x.g.s1.toNat by omega, i64_in _ (by omega)]
            exact ih' (M + 1) _ _ i1.putm e2
end

set_option maxRecDepth 100000 in
theorem gabionlaw07_RingEven.law (ns : List Int) (hl : ns.length = 4) (hx : ∀ x ∈ ns, IntKind.i64.min ≤ x ∧ x ≤ IntKind.i64.max) (v : Value) (h : Heap) (hv : Okc Tryz.prog h 8 23 [v]) :
    C Tryz.prog 3 #[.agg (ns.map (Value.int .i64)).toArray, v] h fun v h' => v = .bool true ∧ Part h h' := by
  match ns, hl with
  | [y0, y1, y2, y3], _ =>
  obtain ⟨a, n, c, l, rfl, hnc, hcm, hln, hb, hr⟩ := okc_ints (d := 6) (k := .u8) (e := 5) (by kernel_rfl) (by kernel_rfl) (by kernel_rfl) hv
  subst hln
  obtain ⟨p', p1, p2, p3, p4, p5, p6, e0, e1, e2, e3⟩ := small_rpl y0 y1 y2 y3
  apply gabionlaw07_RingEven.ok
  refine gabionlaw07_small.c e0 e1 e2 e3 ⟨_, _, _, _, rfl, ?_⟩
  generalize hp' : (⟨p'.pa, p'.pl, 0, p'.psi⟩ : RPl) = p
  have epa : p.pa = p'.pa := by rw [← hp']
  have epl : p.pl = p'.pl := by rw [← hp']
  have eps : p.ps = 0 := by rw [← hp']
  have epsi : p.psi = p'.psi := by rw [← hp']
  rw [← epa, ← epl, ← epsi]
  rw [← epa] at p1
  rw [← epl] at p2 p3
  rw [← epsi] at p5 p6
  have hok : RpB p 20 := small_ok p1 p2 p3 (by omega) p5 p6 (by omega)
  obtain ⟨t1, t2, f1, sp1, f2, rg, sd, n2, rz⟩ := rformat_new hok
  have ev : Value.agg #[.int .i64 p.pa, .int .i64 p.pl, .int .i64 0, .int .i64 p.psi] = ringV p := by unfold ringV; rw [eps]; rfl
  rw [ev]
  refine pm_New.c (n := 20) (by omega) (by omega) fun d F h1 w1 fr lv1 p1' => ⟨_, _, rfl, ring_Format.c (p := p) w1 lv1 hok f1 sp1 fun h2 w2 st2 => ⟨_, rfl, ?_⟩⟩
  rw [f2] at w2 ⊢
  have hff : ∀ k, h k ≠ none → ¬ F k := fun k hk' hf => hk' (fr k hf)
  have P2 : Part h h2 := st2.part p1' hff
  have lv2 := st2.dom lv1
  refine xsIf_f rfl (gabionlaw07_wakes.c fun h3 p3' => ⟨_, rfl, xsIf_f rfl ?_⟩)
  have w3 : PmD F h3 d t2 := w2.keep fun k _ hk => part_live p3' hk
  have lv3 := (Step.of_part (F := F) p3').dom lv2
  have P3 := P2.trans p3'
  apply gabionlaw07_RingEven.J6.ok
  unfold gabionlaw07_RingEven.J6.wp
  rw [ev]
  refine ring_Open.c (p := p) (x := ⟨t2, [], Gp.first p.pl, 0⟩) w3 lv3 rg fun b r G h4 w4 fG fr4 p4' => ⟨_, _, rfl, xsIf_f rfl (xsIf_f rfl ?_)⟩
  have i4 := Rq.of_open w4 P3 p4' hff fG fr4
  apply gabionlaw07_RingEven.J9.ok
  unfold gabionlaw07_RingEven.J9.wp
  rw [show IntKind.i64.wrap ((p.pl : Int) + 1) = ((p.pl + 1 : Nat) : Int) by rw [i64_in _ (by omega)]; omega]
  have cb : (cellBytes Tryz.prog 3 : Int) ≤ 8 := by rw [show cellBytes Tryz.prog 3 = 8 by kernel_rfl]; omega
  refine xsMk_i (by omega) (by omega) cb fun bm hbm => xsMk_i (by omega) (by omega) cb fun bs hbs => ?_
  rw [Int.toNat_natCast, Int.toNat_natCast]
  rw [Int.toNat_natCast] at hbs
  obtain ⟨ne, hbs'⟩ := fresh_ne hbs
  have zI : ∀ n, zeros Tryz.prog 3 n = rowI n fun _ => 0 := fun n => zeros_row (by kernel_rfl) _
  rw [zI, zI]
  generalize e5 : upd (upd h4 bm (Obj.cells (rowI (p.pl + 1) fun _ => 0).toArray 3 (0, 0))) bs (Obj.cells (rowI p.pl fun _ => 0).toArray 3 (0, 0)) = h5
  have pt5 : Part h4 h5 := by rw [← e5]; exact (Part.upd hbm _).upd' hbs' _
  have i5 := i4.part pt5
  refine ring_Ring_State.c i5.rd ⟨_, _, _, rfl, ?_⟩
  have hmn : imin (l.length : Int) 120 = ((min l.length 120 : Nat) : Int) := by rw [imin_eq]; omega
  rw [hmn, slBase0]
  refine ⟨by omega, ?_⟩
  have g1 : (((min l.length 120 : Nat) : Int) - 0).toNat = min l.length 120 := by omega
  rw [g1]
  have iE : Ev h h5 F G d b r bm bs p ⟨t2, [], Gp.first p.pl, 0⟩ (fun _ => 0) (fun _ => 0) := by
    refine ⟨i5, ⟨_, by rw [← e5, upd_other _ _ ne.symm, upd_same]⟩, ⟨_, by rw [← e5, upd_same]⟩, i4.rd.fresh hbm, i4.rd.fresh hbs', ne.symm, fun k hk => ?_⟩
    have hk4 := part_live i4.pt hk
    refine ⟨fun e => ?_, fun e => ?_⟩
    · rw [e, hbm] at hk4; rw [e] at hk; exact hk hk4.symm
    · rw [e, hbs'] at hk4; rw [e] at hk; exact hk hk4.symm
  have iN : Evn p ⟨t2, [], Gp.first p.pl, 0⟩ 0 0 (fun _ => 0) (fun _ => 0) := by
    refine ⟨rg, sd, by show 0 = 0 * p.psi + 0; omega, fun h => by omega, rfl, ?_, fun k hk => ?_, fun i hi => ?_⟩
    · show (p.pl : Int) = ((p.pl - 0 % (p.pl + 1) : Nat) : Int)
      rw [Nat.zero_mod]; rfl
    · rw [Nat.div_eq_of_lt (by omega)]; rfl
    · exact ⟨Int.le_refl 0, by omega⟩
  exact gabionlaw07_RingEven.L13.c hr (Part.refl h) (fun x hx => hb x hx) (min l.length 120) (by omega) (by omega) p3 p6 (fun h' p => ⟨rfl, p⟩) (min l.length 120) 0 h5 _ 0 _ _ (by omega) iE iN
end Go.Gb
