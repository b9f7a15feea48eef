/- Own texts for the seat: Ln3 Sp2 Sp3 Sp4 Ln4 Sp5 Rs1 Rs2 Ln5 Sc1 Rg0 Sq1 Sq3 Ln6 Sg1 Ln7 Ln8 Sc2 Sc3 Rg1 Rg2 Rg3 Sc4 Rt1 Rr1 Rr2 Sq4 Sq5 Ra1 Ra2 Rp1 Rt2 Rp2 Rp3. -/
import Derived.Test.YtpmghonehgnjlaaGreatB5
import Derived.Test.YtpmghonehgnjlaaGreatB4
import Derived.Test.YtpmghonehgnjlaaGreatB3
import Derived.Test.YtpmghonehgnjlaaGreatB2
set_option linter.unusedVariables false
set_option linter.unusedSimpArgs false
set_option linter.unnecessarySimpa false
set_option linter.deprecated false
namespace Go.Gb
open Go.Proofs IntWalk

/-! ## gabionlaw04: full; puts on a device that works -/

def zero64 : ByteArray := ⟨(Lib.repeatL [UInt8.ofNat 0] 64).toArray⟩
def fullB (s : ByteArray) : ByteArray := sext (s ++ zero64) 0 64

theorem zero64_size : zero64.size = 64 := by
  show (Lib.repeatL [UInt8.ofNat 0] 64).toArray.size = 64
  rw [List.size_toArray, Lib.repeatL_length]; rfl
theorem fullB_size (s : ByteArray) : (fullB s).size = 64 := by
  unfold fullB sext
  rw [ByteArray.size_extract, ByteArray.size_append, zero64_size]
  show min 64 _ - 0 = 64
  omega

/-- A device that works, with nothing pending. -/
structure Cl (s : PmS) : Prop where
  off : s.off = false
  fuse : s.fuse = 0
  buf : ∀ w, w < 8 * s.nl → s.buf w = none
  c0 : 0 ≤ s.count
  c1 : s.count < 1000000000

theorem pflush_nf {s : PmS} {a : Nat} (h0 : s.off = false) (h1 : s.fuse = 0) (ha : a < s.nl) : pflush s (a : Int) = (0, { ptick s with buf := fbuf s.buf a 8 }) := by
  have := pflush_run (s := s) (k := (a : Int)) h0 (by rw [h1]; decide) (by omega) (by omega)
  rw [Int.toNat_natCast] at this; exact this
theorem pstore_nf {s : PmS} {k : Nat} {v : Int} (h0 : s.off = false) (h1 : s.fuse = 0) (hk : k < 8 * s.nl) : pstore s (k : Int) v = (0, { ptick s with buf := fset s.buf k (some (v, false)) }) := by
  have := pstore_run (s := s) (k := (k : Int)) (v := v) h0 (by rw [h1]; decide) (by omega) (by omega)
  rw [Int.toNat_natCast] at this; exact this
theorem ptick_fuse {s : PmS} (h : s.fuse = 0) : (ptick s).fuse = 0 := by show (if 0 < s.fuse then s.fuse - 1 else s.fuse) = 0; rw [h]; rfl
theorem ptick_count {s : PmS} (h : 0 ≤ s.count) (h1 : s.count < 2000000000) : (ptick s).count = s.count + 1 := by show IntKind.wrap .i64 (s.count + 1) = _; rw [i64_in _ (by omega)]

/-- What is stored lasts. -/
theorem llast_clean {s : PmS} {a : Nat} {p : Nat → Bool} {f : Nat → Int} (h0 : s.off = false) (h1 : s.fuse = 0) (ha : a < s.nl) (c0 : 0 ≤ s.count) (c1 : s.count < 1000001000)
    (hb : ∀ w, w < 8 * s.nl → s.buf w = if w / 8 = a ∧ p (w % 8) = true then some (f (w % 8), false) else none) :
    ∃ s', llast s (a : Int) = (0, s') ∧ s'.nl = s.nl ∧ s'.off = false ∧ s'.fuse = 0 ∧ s'.bad = s.bad ∧ s'.count = s.count + 2 ∧ (∀ w, w < 8 * s.nl → s'.buf w = none) ∧
      ∀ w, w < 8 * s.nl → s'.media w = if w / 8 = a ∧ p (w % 8) = true ∧ s.bad a = false then f (w % 8) else s.media w := by
  unfold llast
  rw [pflush_nf h0 h1 ha, if_pos rfl]
  generalize hs2 : ({ ptick s with buf := fbuf s.buf a 8 } : PmS) = s2
  have o2 : s2.off = false := by rw [← hs2]; exact h0
  have f2 : s2.fuse = 0 := by rw [← hs2]; exact ptick_fuse h1
  have nl2 : s2.nl = s.nl := by rw [← hs2]; rfl
  have b2 : s2.buf = fbuf s.buf a 8 := by rw [← hs2]
  have cc : s2.count = s.count + 1 := by rw [← hs2]; exact ptick_count c0 (by omega)
  have m2 : s2.media = s.media := by rw [← hs2]; rfl
  have bd2 : s2.bad = s.bad := by rw [← hs2]; rfl
  rw [pfence_run o2 (by rw [f2]; decide)]
  have hb2 : ∀ w, w < 8 * s.nl → s2.buf w = if w / 8 = a ∧ p (w % 8) = true then some (f (w % 8), true) else none := by
    intro w hw
    rw [b2]
    unfold fbuf
    rw [hb w hw]
    by_cases e : w / 8 = a ∧ p (w % 8) = true
    · rw [if_pos e, if_pos e, if_pos (by omega)]; rfl
    · rw [if_neg e, if_neg e]; split <;> rfl
  have hf : ∀ w, w < 8 * s.nl → (w ∈ flushed s2 ↔ w / 8 = a ∧ p (w % 8) = true) := by
    intro w hw
    rw [flushed_mem, nl2, hb2 w hw]
    by_cases e : w / 8 = a ∧ p (w % 8) = true
    · rw [if_pos e]; exact ⟨fun _ => e, fun _ => ⟨hw, _, rfl⟩⟩
    · rw [if_neg e]; exact ⟨fun h => (by obtain ⟨_, v, h⟩ := h; cases h), fun h => absurd h e⟩
  refine ⟨_, rfl, nl2, o2, ptick_fuse f2, bd2, ?_, fun w hw => ?_, fun w hw => ?_⟩
  · show (ptick s2).count = _
    rw [ptick_count (by omega) (by omega), cc]; omega
  · show lbuf (ptick s2) (flushed s2) w = none
    unfold lbuf
    by_cases e : w ∈ flushed s2
    · rw [if_pos e]
    · rw [if_neg e]
      show s2.buf w = none
      rw [hb2 w hw, if_neg (fun h => e ((hf w hw).2 h))]
  · show lmedia (ptick s2) (flushed s2) w = _
    unfold lmedia
    show (if w ∈ flushed s2 ∧ s2.bad (w / 8) = false then (match s2.buf w with | some x => x.1 | none => 0) else s2.media w) = _
    rw [m2, bd2]
    by_cases e : w / 8 = a ∧ p (w % 8) = true
    · by_cases eb : s.bad a = false
      · rw [if_pos ⟨(hf w hw).2 e, by rw [e.1]; exact eb⟩, if_pos ⟨e.1, e.2, eb⟩, hb2 w hw, if_pos e]
      · rw [if_neg (fun h => eb (by rw [← e.1]; exact h.2)), if_neg (fun h => eb h.2.2)]
    · rw [if_neg (fun h => e ((hf w hw).1 h.1)), if_neg (fun h => e ⟨h.1, h.2.1⟩)]

theorem lstores_clean {a : Nat} {f : Nat → Nat} : ∀ (j k : Nat) (s : PmS), k + j = 8 → s.off = false → s.fuse = 0 → a < s.nl → 0 ≤ s.count → s.count + j < 1000000500 →
    (∀ w, w < 8 * s.nl → s.buf w = if w / 8 = a ∧ w % 8 < k then some (((f (w % 8) : Nat) : Int), false) else none) →
    ∃ s', lstores a f j k s = (0, s') ∧ s'.nl = s.nl ∧ s'.off = false ∧ s'.fuse = 0 ∧ s'.bad = s.bad ∧ s'.count = s.count + j + 2 ∧ (∀ w, w < 8 * s.nl → s'.buf w = none) ∧
      ∀ w, w < 8 * s.nl → s'.media w = if w / 8 = a ∧ s.bad a = false then ((f (w % 8) : Nat) : Int) else s.media w := by
  intro j
  induction j with
  | zero =>
    intro k s hk h0 h1 ha c0 c1 hb
    obtain ⟨s', g1, g2, g3, g4, g5, g6, g7, g8⟩ := llast_clean (p := fun _ => true) (f := fun i => ((f i : Nat) : Int)) h0 h1 ha c0 (by omega) (fun w hw => by
      rw [hb w hw]
      by_cases e : w / 8 = a
      · rw [if_pos ⟨e, by omega⟩, if_pos ⟨e, rfl⟩]
      · rw [if_neg (fun h => e h.1), if_neg (fun h => e h.1)])
    refine ⟨s', g1, g2, g3, g4, g5, by omega, g7, fun w hw => ?_⟩
    rw [g8 w hw]
    by_cases e : w / 8 = a ∧ s.bad a = false
    · rw [if_pos ⟨e.1, rfl, e.2⟩, if_pos e]
    · rw [if_neg (fun h => e ⟨h.1, h.2.2⟩), if_neg e]
  | succ j ih =>
    intro k s hk h0 h1 ha c0 c1 hb
    unfold lstores
    rw [pstore_nf h0 h1 (by omega), if_pos rfl]
    obtain ⟨s', g1, g2, g3, g4, g5, g6, g7, g8⟩ := ih (k + 1) { ptick s with buf := fset s.buf (8 * a + k) (some (((f k : Nat) : Int), false)) } (by omega) h0 (ptick_fuse h1) ha (by show 0 ≤ (ptick s).count; rw [ptick_count c0 (by omega)]; omega) (by show (ptick s).count + j < _; rw [ptick_count c0 (by omega)]; omega) (fun w hw => by
      have hw : w < 8 * s.nl := hw
      show fset s.buf (8 * a + k) (some (((f k : Nat) : Int), false)) w = _
      unfold fset
      by_cases e : w = 8 * a + k
      · rw [if_pos e, if_pos (by omega), show w % 8 = k by omega]
      · rw [if_neg e, hb w hw]
        by_cases e2 : w / 8 = a ∧ w % 8 < k
        · rw [if_pos e2, if_pos (by omega)]
        · rw [if_neg e2, if_neg (by omega)])
    refine ⟨s', g1, g2, g3, g4, g5, ?_, g7, g8⟩
    rw [g6]
    show (ptick s).count + j + 2 = _
    rw [ptick_count c0 (by omega)]; omega

theorem lnput_clean {s : PmS} {a : Nat} {b : ByteArray} (cl : Cl s) (ha : a < s.nl) (hb : b.size = 64) : ∃ s', lnput s (a : Int) b = (0, s') ∧ Cl { s' with count := 0 } ∧ s'.nl = s.nl ∧ s'.bad = s.bad ∧ s'.count = s.count + 10 ∧
      ∀ w, w < 8 * s.nl → s'.media w = if w / 8 = a ∧ s.bad a = false then ((wordAt b (w % 8) : Nat) : Int) else s.media w := by
  have c0 := cl.c0
  have c1 := cl.c1
  obtain ⟨s', g1, g2, g3, g4, g5, g6, g7, g8⟩ := lstores_clean (a := a) (f := wordAt b) 8 0 s (by omega) cl.off cl.fuse ha cl.c0 (by omega) (fun w hw => by rw [cl.buf w hw, if_neg (by omega)])
  unfold lnput
  rw [if_pos hb, if_pos (by unfold lthere; rw [if_pos (by omega)]), Int.toNat_natCast]
  exact ⟨s', g1, ⟨g3, g4, by show ∀ w, w < 8 * s'.nl → s'.buf w = none; rw [g2]; exact g7, Int.le_refl _, by show (0 : Int) < _; omega⟩, g2, g5, by omega, g8⟩

end Go.Gb
namespace Go.Gb
open Go.Proofs IntWalk

/-! ## spare: plans, the bank's cells, entry, Open, Where, Read -/

def rightI (a l s : Int) : Prop := 0 ≤ a ∧ a ≤ 8192 ∧ 1 ≤ l ∧ l ≤ 1026 ∧ 0 ≤ s ∧ s ≤ 64
instance (a l s : Int) : Decidable (rightI a l s) := by unfold rightI; infer_instance
def plI (a l s : Int) : Pl := ⟨a.toNat, l.toNat, s.toNat⟩
def checkI (a l s n : Int) : Int := if rightI a l s then (if n < a + (sizeN (plI a l s) : Nat) then 3 else 0) else 2

/-- The numbers of a plan that may be. -/
structure PlB (p : Pl) : Prop where
  l1 : 1 ≤ p.pl
  l2 : p.pl ≤ 1026
  s2 : p.ps ≤ 64
  a2 : p.pa ≤ 8192
theorem PlOk.b {p : Pl} {n : Nat} (o : PlOk p n) : PlB p := ⟨o.l1, o.l2, o.s2, o.a2⟩
abbrev plV (p : Pl) : Value := .agg #[.int .i64 p.pa, .int .i64 p.pl, .int .i64 p.ps]
theorem PlB.right {p : Pl} (o : PlB p) : rightI p.pa p.pl p.ps := by
  have := o.l1; have := o.l2; have := o.s2; have := o.a2
  unfold rightI; omega
theorem plI_nat (p : Pl) : plI p.pa p.pl p.ps = p := by unfold plI; simp
theorem PlOk.check {p : Pl} {n : Nat} (o : PlOk p n) : checkI p.pa p.pl p.ps n = 0 := by
  unfold checkI
  have := o.fit
  rw [if_pos o.b.right, plI_nat, if_neg (by omega)]

section
variable {h : Heap} {Q : Value → Heap → Prop} {a l s n : Int} {p : Pl}

theorem spare_Plan_right.c (hq : Q (.bool (decide (rightI a l s))) h) : C Tryz.prog 143 #[.agg #[.int .i64 a, .int .i64 l, .int .i64 s]] h Q := by
  apply spare_Plan_right.ok
  refine xsIf_intro (fun h1 => xsIf_intro (fun h2 => xsIf_intro (fun h3 => xsIf_intro (fun h4 => xsIf_intro (fun h5 => ?_) fun h5 => ?_) fun h4 => ?_) fun h3 => ?_) fun h2 => ?_) fun h1 => ?_
  all_goals simp only [decide_eq_true_eq, decide_eq_false_iff_not] at *
  · have e : decide (rightI a l s) = decide (s ≤ 64) := by
      by_cases h6 : s ≤ 64
      · rw [decide_eq_true h6, decide_eq_true (by unfold rightI; omega)]
      · rw [decide_eq_false h6, decide_eq_false (by unfold rightI; omega)]
    rw [e] at hq; exact hq
  all_goals (rw [decide_eq_false (show ¬ rightI a l s by unfold rightI; omega)] at hq; exact hq)

theorem spare_Plan_table.c (hb : PlB p) (hq : Q (.int .i64 (tblN p : Nat)) h) : C Tryz.prog 77 #[plV p] h Q := by
  apply spare_Plan_table.ok
  unfold spare_Plan_table.wp
  have := hb.s2
  rw [i64_in ((p.ps : Int) + 8) (by omega), i64_in _ (by omega), iquo_i64 (by omega) (by omega) (by omega)]
  rw [show ((p.ps : Int) + 8 - 1) / 8 = ((tblN p : Nat) : Int) by unfold tblN; omega]
  exact hq

theorem rightI_pl (hr : rightI a l s) : ∃ p : Pl, PlB p ∧ a = p.pa ∧ l = p.pl ∧ s = p.ps := by
  unfold rightI at hr
  exact ⟨⟨a.toNat, l.toNat, s.toNat⟩, ⟨by show 1 ≤ l.toNat; omega, by show l.toNat ≤ _; omega, by show s.toNat ≤ _; omega, by show a.toNat ≤ _; omega⟩, by show a = (a.toNat : Int); omega, by show l = (l.toNat : Int); omega, by show s = (s.toNat : Int); omega⟩

theorem tblN_le (hb : PlB p) : tblN p ≤ 8 := by have := hb.s2; unfold tblN; omega

theorem spare_Plan_Size.c (hq : Q (.int .i64 (if rightI a l s then (sizeN (plI a l s) : Nat) else 0 : Int)) h) : C Tryz.prog 144 #[.agg #[.int .i64 a, .int .i64 l, .int .i64 s]] h Q := by
  apply spare_Plan_Size.ok
  refine spare_Plan_right.c ⟨_, rfl, ?_⟩
  by_cases hr : rightI a l s
  · rw [if_pos hr] at hq
    obtain ⟨p, hb, rfl, rfl, rfl⟩ := rightI_pl hr
    rw [plI_nat] at hq
    have := tblN_le hb
    have := hb.l2
    have := hb.s2
    refine xsIf_f (by rw [decide_eq_true hr]; rfl) (spare_Plan_table.c hb ⟨_, rfl, ?_⟩)
    rw [i64_in ((tblN p : Nat) + (p.pl : Int)) (by omega), i64_in _ (by omega), show ((tblN p : Nat) : Int) + (p.pl : Int) + (p.ps : Int) = ((sizeN p : Nat) : Int) by unfold sizeN; omega]
    exact hq
  · rw [if_neg hr] at hq
    exact xsIf_t (by rw [decide_eq_false hr]; rfl) hq

theorem spare_Plan_Check.c (hq : Q (.int .i64 (checkI a l s n)) h) : C Tryz.prog 119 #[.agg #[.int .i64 a, .int .i64 l, .int .i64 s], .int .i64 n] h Q := by
  apply spare_Plan_Check.ok
  refine spare_Plan_right.c ⟨_, rfl, ?_⟩
  unfold checkI at hq
  by_cases hr : rightI a l s
  · rw [if_pos hr] at hq
    refine xsIf_f (by rw [decide_eq_true hr]; rfl) (spare_Plan_Size.c ⟨_, rfl, ?_⟩)
    rw [if_pos hr]
    obtain ⟨p, hb, rfl, rfl, rfl⟩ := rightI_pl hr
    rw [plI_nat] at hq ⊢
    have := tblN_le hb
    have := hb.l2
    have := hb.s2
    have := hb.a2
    have hs : sizeN p ≤ 2000 := by unfold sizeN; omega
    rw [i64_in _ (by omega)]
    refine xsIf_intro (fun h1 => ?_) fun h1 => ?_
    · rw [if_pos (of_decide_eq_true h1)] at hq; exact hq
    · rw [if_neg (of_decide_eq_false h1)] at hq; exact hq
  · rw [if_neg hr] at hq
    exact xsIf_t (by rw [decide_eq_false hr]; rfl) hq

theorem spare_Plan_own.c {i : Nat} (hb : PlB p) (hi : i ≤ 100000) (hq : Q (.int .i64 (ownN p i : Nat)) h) : C Tryz.prog 125 #[plV p, .int .i64 (i : Int)] h Q := by
  apply spare_Plan_own.ok
  refine spare_Plan_table.c hb ⟨_, rfl, ?_⟩
  have := tblN_le hb
  have := hb.a2
  rw [i64_in ((p.pa : Int) + (tblN p : Nat)) (by omega), i64_in _ (by omega), show (p.pa : Int) + ((tblN p : Nat) : Int) + (i : Int) = ((ownN p i : Nat) : Int) by unfold ownN; omega]
  exact hq

theorem spare_Plan_spare.c {k : Nat} (hb : PlB p) (hk : k ≤ 1000) (hq : Q (.int .i64 (sparN p k : Nat)) h) : C Tryz.prog 124 #[plV p, .int .i64 (k : Int)] h Q := by
  apply spare_Plan_spare.ok
  have := tblN_le hb
  have := hb.a2
  have := hb.l2
  refine spare_Plan_own.c hb (by omega) ⟨_, rfl, ?_⟩
  have e : ownN p p.pl ≤ 20000 := by unfold ownN; omega
  rw [i64_in _ (by omega), show ((ownN p p.pl : Nat) : Int) + (k : Int) = ((sparN p k : Nat) : Int) by unfold ownN sparN; omega]
  exact hq
end

/-- The spares that stand for lines. -/
def standsP (p : Pl) (l : List Nat) : Nat → Option Nat := fun i => if i < p.pl then stands l i else none

/-- The bank's cells. -/
structure BankC (G : Nat → Prop) (h : Heap) (b d r : Nat) (p : Pl) (l : List Nat) (ml : List (Int × Value × Nat)) (c : Nat) : Prop where
  pb : PlB p
  len : l.length ≤ p.ps
  gb : G b
  gr : G r
  ne : b ≠ r
  hb : Blk h b [.pointer (some ⟨d, 0, none⟩), .int .i64 p.pa, .int .i64 p.pl, .int .i64 p.ps, .int .i64 (l.length : Nat), .map (some r)]
  hr : h r = some (mapO (Value.int .i64) ml c)
  mm : MapG (fun k : Nat => Value.int .i64 (k : Int)) p.pl (standsP p l) ml c
def BankD (G : Nat → Prop) (h : Heap) (b d : Nat) (p : Pl) (l : List Nat) : Prop := ∃ r ml c, BankC G h b d r p l ml c

theorem BankC.keep {G : Nat → Prop} {h h' : Heap} {b d r : Nat} {p : Pl} {l : List Nat} {ml : List (Int × Value × Nat)} {c : Nat} (w : BankC G h b d r p l ml c) (e : ∀ k, G k → h k ≠ none → h' k = h k) : BankC G h' b d r p l ml c :=
  ⟨w.pb, w.len, w.gb, w.gr, w.ne, w.hb.keep (e _ w.gb w.hb.ne), by rw [e _ w.gr (by rw [w.hr]; simp), w.hr], w.mm⟩
theorem BankD.keep {G : Nat → Prop} {h h' : Heap} {b d : Nat} {p : Pl} {l : List Nat} (w : BankD G h b d p l) (e : ∀ k, G k → h k ≠ none → h' k = h k) : BankD G h' b d p l := by
  obtain ⟨r, ml, c, w⟩ := w; exact ⟨r, ml, c, w.keep e⟩

section
variable {G : Nat → Prop} {h : Heap} {b d r : Nat} {p : Pl} {l : List Nat} {ml : List (Int × Value × Nat)} {cc : Nat} {Q : Value → Heap → Prop}

theorem BankC.c0 (w : BankC G h b d r p l ml cc) : h.cell b (0 + 0) = some (.pointer (some ⟨d, 0, none⟩)) := w.hb.cell 0
theorem BankC.c1 (w : BankC G h b d r p l ml cc) : h.cell b (0 + 1) = some (.int .i64 p.pa) := w.hb.cell 1
theorem BankC.c2 (w : BankC G h b d r p l ml cc) : h.cell b (0 + 1 + 1) = some (.int .i64 p.pl) := w.hb.cell 2
theorem BankC.c3 (w : BankC G h b d r p l ml cc) : h.cell b (0 + 1 + 1 + 1) = some (.int .i64 p.ps) := w.hb.cell 3
theorem BankC.c4 (w : BankC G h b d r p l ml cc) : h.cell b (0 + 4) = some (.int .i64 (l.length : Nat)) := w.hb.cell 4
theorem BankC.c5 (w : BankC G h b d r p l ml cc) : h.cell b (0 + 5) = some (.map (some r)) := w.hb.cell 5

theorem spare_Bank_Left.c (w : BankD G h b d p l) (hq : Q (.int .i64 ((p.ps : Int) - (l.length : Nat))) h) : C Tryz.prog 127 #[.pointer (some ⟨b, 0, none⟩)] h Q := by
  obtain ⟨r, ml, cc, w⟩ := w
  have := w.pb.s2
  have := w.len
  apply spare_Bank_Left.ok
  refine xsIf_f rfl ⟨b, 0, rfl, b, 0, rfl, _, w.hb.cell 3, _, w.c4, ?_⟩
  rw [i64_in _ (by omega)]; exact hq

theorem spare_Bank_Where.c {i : Int} (w : BankD G h b d p l) (hy : 0 ≤ i → i < p.pl → Q (.tuple #[.int .i64 (whN p l i.toNat : Nat), .int .i64 0]) h) (hn : ¬ (0 ≤ i ∧ i < p.pl) → Q (.tuple #[.int .i64 0, .int .i64 3]) h) :
    C Tryz.prog 81 #[.pointer (some ⟨b, 0, none⟩), .int .i64 i] h Q := by
  obtain ⟨r, ml, cc, w⟩ := w
  have hs := w.pb.s2
  have hl := w.len
  have hl2 := w.pb.l2
  apply spare_Bank_Where.ok
  refine xsIf_f rfl (xsIf_intro (fun h1 => hn (by have := of_decide_eq_true h1; omega)) fun h1 => ⟨b, 0, rfl, _, w.c2, xsIf_intro (fun h2 => hn (by have := of_decide_eq_true h2; omega)) fun h2 => ?_⟩)
  have h1 := of_decide_eq_false h1
  have h2 := of_decide_eq_false h2
  have hy := hy (by omega) (by omega)
  obtain ⟨i, rfl⟩ : ∃ k : Nat, i = k := ⟨i.toNat, by omega⟩
  rw [Int.toNat_natCast] at hy
  refine ⟨b, 0, rfl, _, w.c5, r, rfl, ml, cc, w.hr, fun j v b3 hj => ?_, fun hno => ?_⟩
  · obtain ⟨k, hk, rfl⟩ := w.mm.found hj
    unfold standsP at hk
    rw [if_pos (by omega)] at hk
    have e : whN p l i = sparN p k := by unfold whN; rw [hk]
    rw [e] at hy
    have := (stN_lt _ hk).1
    exact ⟨_, rfl, b, 0, rfl, _, w.c1, _, w.c2, _, w.c3, spare_Plan_spare.c w.pb (by omega) ⟨_, rfl, hy⟩⟩
  · have hk := w.mm.lacks hno
    unfold standsP at hk
    rw [if_pos (by omega)] at hk
    have e : whN p l i = ownN p i := by unfold whN; rw [hk]
    rw [e] at hy
    exact ⟨b, 0, rfl, _, w.c1, _, w.c2, _, w.c3, spare_Plan_own.c w.pb (by omega) ⟨_, rfl, hy⟩⟩

/-- One more spare is used. -/
theorem BankC.grow {n : Nat} (w : BankC G h b d r p l ml cc) (hl : l.length < p.ps) (hd : n = 65535 ∨ (1 ≤ n ∧ n ≤ p.pl)) (hq : ∀ h', BankD G h' b d p (l ++ [n]) → Step G h G h' → Q (.int .i64 0) h') :
    spare_Bank_entry.J6 (some ⟨b, 0, none⟩) (l.length : Nat) (n : Nat) h Q := by
  have hs := w.pb.s2
  have hl2 := w.pb.l2
  apply spare_Bank_entry.J6.ok
  have e1 : IntKind.i64.wrap (((l.length : Nat) : Int) + 1) = (((l ++ [n]).length : Nat) : Int) := by rw [i64_in _ (by omega)]; simp
  unfold spare_Bank_entry.J6.wp
  rw [e1]
  have b1 := w.hb.put (0 + 4) [.int .i64 (((l ++ [n]).length : Nat) : Int)]
  have hk1 : ∀ k, k ≠ b → h.put b (0 + 4) [.int .i64 (((l ++ [n]).length : Nat) : Int)] k = h k := fun k hk => put_other h _ _ hk
  have hr1 : h.put b (0 + 4) [.int .i64 (((l ++ [n]).length : Nat) : Int)] r = some (mapO (Value.int .i64) ml cc) := by rw [hk1 _ (Ne.symm w.ne)]; exact w.hr
  have len' : (l ++ [n]).length ≤ p.ps := by simp; omega
  refine ⟨b, 0, rfl, w.hb.can (by simp), ?_⟩
  rcases hd with rfl | hd
  · refine xsIf_f rfl (hq _ ⟨r, ml, cc, w.pb, len', w.gb, w.gr, w.ne, b1, hr1, ?_⟩ (Step.put w.gb _ _))
    have := w.mm
    have e : standsP p (l ++ [65535]) = standsP p l := by
      unfold standsP
      rw [stands_snoc]
      funext i
      dsimp only
      by_cases ei : i < p.pl
      · rw [if_pos ei, if_pos ei, if_neg (by omega)]
      · rw [if_neg ei, if_neg ei]
    rw [e]; exact this
  · have e2 : IntKind.i64.wrap (IntKind.i64.wrap ((n : Nat) : Int) - 1) = ((n - 1 : Nat) : Int) := by rw [i64_in ((n : Nat) : Int) (by omega), i64_in _ (by omega)]; omega
    rw [e2]
    have es : standsP p (l ++ [n]) = fset (standsP p l) (n - 1) (some l.length) := by
      unfold standsP
      rw [stands_snoc]
      funext i
      unfold fset
      dsimp only
      by_cases ei : i = n - 1
      · rw [if_pos ei, if_pos (by omega), if_pos (by omega)]
      · rw [if_neg ei]
        by_cases e3 : i < p.pl
        · rw [if_pos e3, if_pos e3, if_neg (by omega)]
        · rw [if_neg e3, if_neg e3]
    refine xsIf_t (decide_eq_true (by omega)) ⟨b, 0, rfl, _, b1.cell 5, r, rfl, ml, cc, hr1, fun j v b3 hj => ?_, fun hno => ?_⟩
    · refine hq _ ⟨r, _, _, w.pb, len', w.gb, w.gr, w.ne, b1.keep (upd_ne w.ne), by rw [upd_same], ?_⟩ ((Step.put w.gb _ _).trans (Step.set w.gr _))
      rw [es]; exact w.mm.set (by omega) hj l.length
    · refine hq _ ⟨r, _, _, w.pb, len', w.gb, w.gr, w.ne, b1.keep (upd_ne w.ne), by rw [upd_same], ?_⟩ ((Step.put w.gb _ _).trans (Step.set w.gr _))
      rw [es]; exact w.mm.add (by omega) (by omega) hno l.length
end
end Go.Gb
namespace Go.Gb
open Go.Proofs IntWalk

/-! ## spare: entry, Format, Open -/

theorem Step.left {F G : Nat → Prop} {h h' : Heap} (s : Step F h F h') : Step (fun k => F k ∨ G k) h (fun k => F k ∨ G k) h' := s.widen
theorem Step.right {F G : Nat → Prop} {h h' : Heap} (s : Step G h G h') : Step (fun k => F k ∨ G k) h (fun k => F k ∨ G k) h' :=
  ⟨fun k hf hk => s.keep k (fun h => hf (.inr h)) hk, fun k hk => .inl hk, s.live, fun hl k hk => s.live k (hl k hk)⟩

section
variable {G : Nat → Prop} {h : Heap} {b d : Nat} {p : Pl} {l : List Nat} {Q : Value → Heap → Prop}

theorem spare_Bank_entry.zero {k : Int} (hq : Q (.int .i64 0) h) : C Tryz.prog 80 #[.pointer (some ⟨b, 0, none⟩), .int .i64 k, .int .u64 0] h Q := by
  apply spare_Bank_entry.ok
  exact xsIf_t rfl hq

theorem spare_Bank_entry.c {v : Nat} (w : BankD G h b d p l) (hl : l.length < p.ps) (hv : validW p.pl v = true) (h64 : v < 18446744073709551616) (h0 : v ≠ 0) (hq : ∀ h', BankD G h' b d p (l ++ [v % 281474976710656]) → Step G h G h' → Q (.int .i64 0) h') :
    C Tryz.prog 80 #[.pointer (some ⟨b, 0, none⟩), .int .i64 (l.length : Nat), .int .u64 (v : Nat)] h Q := by
  obtain ⟨r, ml, cc, w⟩ := w
  have hl2 := w.pb.l2
  obtain ⟨g1, g2⟩ := of_decide_eq_true hv
  apply spare_Bank_entry.ok
  refine xsIf_f (decide_eq_false (by omega)) (crc_Guarded.c h64 ⟨_, _, rfl, ?_⟩)
  rw [if_pos g1, decide_eq_true g1]
  have j6 : spare_Bank_entry.J6 (some ⟨b, 0, none⟩) (l.length : Nat) ((v % 281474976710656 : Nat) : Int) h Q := w.grow hl g2 hq
  generalize v % 281474976710656 = n at g2 j6
  have used : ∀ {x : Int}, decide (x ≠ x) = false := decide_eq_false (fun h => h rfl)
  refine xsIf_f rfl (xsIf_intro (fun e1 => xsIf_f (decide_eq_false ?_) ⟨b, 0, rfl, _, w.c2, xsIf_f (decide_eq_false ?_) ⟨b, 0, rfl, _, w.c4, xsIf_f used j6⟩⟩) fun _ => ⟨b, 0, rfl, _, w.c4, xsIf_f used j6⟩)
  · have e1 : ((n : Nat) : Int) ≠ 65535 := of_decide_eq_true e1
    omega
  · have e1 : ((n : Nat) : Int) ≠ 65535 := of_decide_eq_true e1
    rw [u64_nat' (by omega)]; omega
end

section
variable {F : Nat → Prop} {h : Heap} {d : Nat} {s : PmS} {Q : Value → Heap → Prop} {a l n : Int} {p : Pl}

theorem spare_check.c (w : PmD F h d s) (hq : Q (.int .i64 (checkI a l n s.nl)) h) : C Tryz.prog 76 #[.pointer (some ⟨d, 0, none⟩), .agg #[.int .i64 a, .int .i64 l, .int .i64 n]] h Q := by
  apply spare_check.ok
  exact xsIf_f rfl (pm_Device_Lines.c w ⟨_, rfl, spare_Plan_Check.c ⟨_, rfl, hq⟩⟩)
/-- Lines are put as noughts. -/
def sfmt (p : Pl) (z : ByteArray) : Nat → Nat → PmS → Int × PmS
  | 0, _, s => (0, s)
  | j + 1, k, s => if (lnput s (p.pa + k : Nat) z).1 = 0 then sfmt p z j (k + 1) (lnput s (p.pa + k : Nat) z).2 else lnput s (p.pa + k : Nat) z

theorem spare_Format.L5.c (hb : PlB p) {m : Nat} (hm : m ≤ 100000) : ∀ (j k : Nat) (h : Heap) (s : PmS), k + j = m → PmD F h d s → Live F h → (∀ h', PmD F h' d (sfmt p zero64 j k s).2 → Step F h F h' → Q (.int .i64 (sfmt p zero64 j k s).1) h') →
    spare_Format.L5 (some ⟨d, 0, none⟩) (m : Int) (k : Int) p.pa p.pl p.ps h Q := by
  intro j
  induction j with
  | zero =>
    intro k h s hk w lv hq
    apply spare_Format.L5.ok
    exact xsIf_f (decide_eq_false (by omega)) (hq h w (Step.refl _ _))
  | succ j ih =>
    intro k h s hk w lv hq
    apply spare_Format.L5.ok
    unfold spare_Format.L5.wp
    have := hb.a2
    rw [show IntKind.i64.wrap ((k : Int) + 1) = ((k + 1 : Nat) : Int) by rw [i64_in _ (by omega)]; omega, show IntKind.i64.wrap ((p.pa : Int) + (k : Int)) = ((p.pa + k : Nat) : Int) by rw [i64_in _ (by omega)]; omega]
    refine xsIf_t (decide_eq_true (by omega)) (strings_Repeat.c (c := 64) (by omega) (by show 1 ≤ 1000000; omega) ⟨_, rfl, ?_⟩)
    show C Tryz.prog 78 #[.pointer (some ⟨d, 0, none⟩), .int .i64 ((p.pa + k : Nat) : Int), .string zero64] h _
    refine line_Put.c w lv fun h1 w1 st1 => ⟨_, rfl, ?_⟩
    unfold sfmt at hq
    refine xsIf_intro (fun e => ?_) fun e => ?_
    · have e := of_decide_eq_true e
      rw [if_neg e] at hq
      exact hq h1 w1 st1
    · have e : (lnput s (p.pa + k : Nat) zero64).1 = 0 := by simpa using e
      rw [if_pos e] at hq
      exact ih (k + 1) h1 _ (by omega) w1 (st1.dom lv) fun h' w' st => hq h' w' (st1.trans st)

def sformat (p : Pl) (s : PmS) : Int × PmS := sfmt p zero64 (tblN p + p.pl) 0 s

theorem spare_Format.c (w : PmD F h d s) (lv : Live F h) (ok : PlOk p s.nl) (hq : ∀ h', PmD F h' d (sformat p s).2 → Step F h F h' → Q (.int .i64 (sformat p s).1) h') : C Tryz.prog 30 #[.pointer (some ⟨d, 0, none⟩), plV p] h Q := by
  apply spare_Format.ok
  refine spare_check.c w ⟨_, rfl, ?_⟩
  rw [ok.check]
  have hb := ok.b
  have := tblN_le hb
  have := hb.l2
  refine xsIf_f rfl (spare_Plan_table.c hb ⟨_, rfl, ?_⟩)
  rw [i64_in _ (by omega), show ((tblN p : Nat) : Int) + (p.pl : Int) = ((tblN p + p.pl : Nat) : Int) by omega]
  exact spare_Format.L5.c hb (by omega) (tblN p + p.pl) 0 h s (by omega) w lv hq

theorem entsTo_step {lines : Nat} {f : Nat → Nat} {m k : Nat} {l : List Nat} (h : entsTo lines f m = some l) (hk : k ≤ m) : ∃ l', entsTo lines f k = some l' := by
  induction m generalizing l with
  | zero => obtain rfl : k = 0 := by omega
            exact ⟨_, rfl⟩
  | succ m ih =>
    by_cases e : k = m + 1
    · rw [e]; exact ⟨l, h⟩
    · unfold entsTo at h
      cases e2 : entsTo lines f m with
      | none => rw [e2] at h; cases h
      | some l2 => exact ih e2 (by omega)

theorem spare_Open.L6.c {G : Nat → Prop} {b : Nat} {l0 : List Nat} (hb : PlB p) (w : PmD F h d s) (ho : s.off = false) (hf : 8 * p.pa + p.ps ≤ 8 * s.nl) (wok : PmOk s) (he : sents s p = some l0) (ap : Apart F G) : ∀ (j k : Nat) (h' : Heap) (l : List Nat), k + j = p.ps → entsTo p.pl (twd s p) k = some l → BankD G h' b d p l → PmD F h' d s →
    (∀ h'', BankD G h'' b d p l0 → Step G h' G h'' → Q (.tuple #[.pointer (some ⟨b, 0, none⟩), .int .i64 0]) h'') →
    spare_Open.L6 (some ⟨d, 0, none⟩) (some ⟨b, 0, none⟩) (p.ps : Int) (k : Int) p.pa p.pl p.ps h' Q := by
  have hs := hb.s2
  have ha := hb.a2
  intro j
  induction j with
  | zero =>
    intro k h' l hk hl wb wd hq
    apply spare_Open.L6.ok
    have : k = p.ps := by omega
    subst this
    have : l = l0 := by unfold sents at he; rw [hl] at he; cases he; rfl
    subst this
    exact xsIf_f (decide_eq_false (by omega)) (hq h' wb (Step.refl _ _))
  | succ j ih =>
    intro k h' l hk hl wb wd hq
    apply spare_Open.L6.ok
    unfold spare_Open.L6.wp
    rw [show IntKind.i64.wrap ((k : Int) + 1) = ((k + 1 : Nat) : Int) by rw [i64_in _ (by omega)]; omega, show IntKind.i64.wrap (IntKind.i64.wrap ((p.pa : Int) * 8) + (k : Int)) = ((8 * p.pa + k : Nat) : Int) by rw [i64_in ((p.pa : Int) * 8) (by omega), i64_in _ (by omega)]; omega]
    refine xsIf_t (decide_eq_true (by omega)) (pm_Device_Load.c wd ⟨_, _, rfl, ?_⟩)
    have hld : pload s ((8 * p.pa + k : Nat) : Int) = (pval s (8 * p.pa + k), 0) := by
      have e : pready s ((8 * p.pa + k : Nat) : Int) ((8 * s.nl : Nat) : Int) = 0 := by unfold pready; rw [ho, if_neg (by simp)]; exact if_pos (by omega)
      unfold pload pval; rw [if_pos e, Int.toNat_natCast]; first | done | (cases s.buf (8 * p.pa + k) <;> rfl)
    rw [hld]
    refine xsIf_f rfl ?_
    have hv := wok.val (8 * p.pa + k)
    unfold R64 at hv
    have ev : pval s (8 * p.pa + k) = ((twd s p k : Nat) : Int) := by unfold twd; omega
    show C Tryz.prog 80 #[.pointer (some ⟨b, 0, none⟩), .int .i64 (k : Int), .int .u64 (pval s (8 * p.pa + k))] h' _
    rw [ev]
    obtain ⟨l2, h2⟩ := entsTo_step (k := k + 1) he (by omega)
    have h3 := h2
    unfold entsTo at h3
    rw [hl] at h3
    dsimp only at h3
    by_cases e0 : twd s p k = 0
    · rw [if_pos e0] at h3
      cases h3
      rw [e0]
      exact spare_Bank_entry.zero ⟨_, rfl, xsIf_f rfl (ih (k + 1) h' l (by omega) h2 wb wd hq)⟩
    · rw [if_neg e0] at h3
      by_cases e1 : validW p.pl (twd s p k) = true ∧ l.length = k
      · rw [if_pos e1] at h3
        cases h3
        obtain ⟨e1, rfl⟩ := e1
        refine spare_Bank_entry.c wb (by omega) e1 (by omega) e0 fun h'' wb' st => ⟨_, rfl, xsIf_f rfl ?_⟩
        exact ih (l.length + 1) h'' _ (by omega) h2 wb' (wd.keep (st.same ap.symm)) fun h3 wb3 st3 => hq h3 wb3 (st.trans st3)
      · rw [if_neg e1] at h3; cases h3

/-- The bank as it lasts, in new blocks. -/
theorem spare_Open.c {l0 : List Nat} (w : PmD F h d s) (lv : Live F h) (i : SpI p s l0)
    (hq : ∀ b G h', BankD G h' b d p l0 → PmD F h' d s → (∀ k, G k → h k = none) → Live F h' → Live G h' → Part h h' → Q (.tuple #[.pointer (some ⟨b, 0, none⟩), .int .i64 0]) h') :
    C Tryz.prog 32 #[.pointer (some ⟨d, 0, none⟩), plV p] h Q := by
  apply spare_Open.ok
  refine spare_check.c w ⟨_, rfl, ?_⟩
  rw [i.ok.check]
  refine xsIf_f rfl fun r hr b hb => ?_
  obtain ⟨nbr, hb0⟩ := fresh_ne hb
  generalize hh2 : upd (upd h r (Obj.map #[] 0)) b (Obj.cells #[.pointer (some ⟨d, 0, none⟩), .int .i64 p.pa, .int .i64 p.pl, .int .i64 p.ps, .int .i64 0, .map (some r)] 136 (0, 0)) = h2
  have hk2 : ∀ k, h k ≠ none → h2 k = h k := fun k hk => by
    rw [← hh2, upd_ne (fun e => hk (by rw [e]; exact hb0)), upd_ne (fun e => hk (by rw [e]; exact hr))]
  have w2 : PmD F h2 d s := w.keep fun k _ hk => hk2 k hk
  have wb : BankD (fun k => k = b ∨ k = r) h2 b d p [] := by
    refine ⟨r, [], 0, i.ok.b, Nat.zero_le _, .inl rfl, .inr rfl, nbr, ?_, ?_, ?_⟩
    · rw [← hh2]; exact Blk.new _ _ _ _
    · rw [← hh2, upd_ne (Ne.symm nbr), upd_same]; rfl
    · have : standsP p [] = fun _ => none := by
        funext i; unfold standsP; split <;> rfl
      rw [this]; exact MapG.empty
  have fit := i.ok.fit
  have hfit : 8 * p.pa + p.ps ≤ 8 * s.nl := by unfold sizeN tblN at fit; omega
  have ap : Apart F (fun k => k = b ∨ k = r) := fun k hk hf => by
    rcases hk with rfl | rfl
    · exact lv _ hf hb0
    · exact lv _ hf hr
  have lf2 : Live F h2 := fun k hk => by rw [hk2 k (lv k hk)]; exact lv k hk
  have lg2 : Live (fun k => k = b ∨ k = r) h2 := fun k hk => by
    rcases hk with rfl | rfl
    · rw [← hh2, upd_same]; simp
    · rw [← hh2, upd_ne (Ne.symm nbr), upd_same]; simp
  refine spare_Open.L6.c (h := h2) (l0 := l0) i.ok.b w2 i.on.off hfit i.w i.en ap p.ps 0 h2 [] (by omega) rfl wb w2 fun h3 wb3 st3 => ?_
  refine hq b _ h3 wb3 (w2.keep (st3.same ap.symm)) (fun k hk => ?_) (st3.alive lf2) (st3.dom lg2) fun k o hko => ?_
  · rcases hk with rfl | rfl
    · exact hb0
    · exact hr
  · have hkn : h k ≠ none := by rw [hko]; simp
    have : ¬ (k = b ∨ k = r) := fun e => by
      rcases e with rfl | rfl
      · exact hkn hb0
      · exact hkn hr
    rw [st3.keep k this (by rw [hk2 k hkn]; exact hkn), hk2 k hkn]; exact hko
end
end Go.Gb
namespace Go.Gb
open Go.Proofs IntWalk

/-! ## spare: Read, say, retire, Write, WriteWord -/

/-- A device and a bank on it. -/
structure DB (F G : Nat → Prop) (h : Heap) (d b : Nat) (p : Pl) (s : PmS) (l : List Nat) : Prop where
  dv : PmD F h d s
  bk : BankD G h b d p l
  lf : Live F h
  lg : Live G h
  ap : Apart F G

abbrev FG (F G : Nat → Prop) : Nat → Prop := fun k => F k ∨ G k

section
variable {F G : Nat → Prop} {h : Heap} {d b : Nat} {p : Pl} {s : PmS} {l : List Nat} {Q : Value → Heap → Prop}

theorem DB.dev {s' : PmS} {h' : Heap} (w : DB F G h d b p s l) (w' : PmD F h' d s') (st : Step F h F h') : DB F G h' d b p s' l :=
  ⟨w', w.bk.keep (st.same w.ap), st.dom w.lf, st.alive w.lg, w.ap⟩
theorem DB.bank {l' : List Nat} {h' : Heap} (w : DB F G h d b p s l) (w' : BankD G h' b d p l') (st : Step G h G h') : DB F G h' d b p s l' :=
  ⟨w.dv.keep (st.same w.ap.symm), w', st.alive w.lf, st.dom w.lg, w.ap⟩
theorem DB.part {h' : Heap} (w : DB F G h d b p s l) (pt : Part h h') : DB F G h' d b p s l :=
  ⟨w.dv.keep fun _ _ hk => part_live pt hk, w.bk.keep fun _ _ hk => part_live pt hk, (Step.of_part pt).dom w.lf, (Step.of_part pt).dom w.lg, w.ap⟩

theorem spare_Bank_Read.c {i : Int} (w : DB F G h d b p s l) (ok : PmOk s) (hy : 0 ≤ i → i < p.pl → Q (.tuple #[.string (lnget s (whN p l i.toNat : Nat)).1, .int .i64 (lnget s (whN p l i.toNat : Nat)).2]) h) (hn : ¬ (0 ≤ i ∧ i < p.pl) → Q (.tuple #[.string ⟨#[]⟩, .int .i64 3]) h) :
    C Tryz.prog 38 #[.pointer (some ⟨b, 0, none⟩), .int .i64 i] h Q := by
  apply spare_Bank_Read.ok
  refine spare_Bank_Where.c w.bk (fun h0 h1 => ⟨_, _, rfl, xsIf_f rfl ?_⟩) fun h0 => ⟨_, _, rfl, xsIf_t rfl (hn h0)⟩
  obtain ⟨r, ml, cc, wb⟩ := w.bk
  exact ⟨b, 0, rfl, _, wb.c0, line_Get.c w.dv ok ⟨_, _, rfl, hy h0 h1⟩⟩

set_option maxRecDepth 100000 in
theorem spare_Bank_say.c {x : Nat} (w : DB F G h d b p s l) (hl : l.length < p.ps) (hx : x = 65535 ∨ (1 ≤ x ∧ x ≤ p.pl))
    (hq : ∀ h', DB F G h' d b p (lnputw s (p.pa + l.length / 8 : Nat) (l.length % 8 : Nat) (guardN x : Nat)).2 (if (lnputw s (p.pa + l.length / 8 : Nat) (l.length % 8 : Nat) (guardN x : Nat)).1 = 0 then l ++ [x] else l) → Step (FG F G) h (FG F G) h' →
      Q (.int .i64 (lnputw s (p.pa + l.length / 8 : Nat) (l.length % 8 : Nat) (guardN x : Nat)).1) h') :
    C Tryz.prog 128 #[.pointer (some ⟨b, 0, none⟩), .int .u64 (x : Nat)] h Q := by
  obtain ⟨r, ml, cc, wb⟩ := w.bk
  have hs := wb.pb.s2
  have ha := wb.pb.a2
  have hl2 := wb.pb.l2
  obtain ⟨v1, v2, v3⟩ := guardN_valid hx hl2
  apply spare_Bank_say.ok
  have e1 : IntKind.i64.wrap ((p.pa : Int) + iquo .i64 ((l.length : Nat) : Int) 8) = ((p.pa + l.length / 8 : Nat) : Int) := by
    rw [iquo_i64 (by omega) (by omega) (by omega), i64_in _ (by omega)]; omega
  have e2 : irem ((l.length : Nat) : Int) 8 = ((l.length % 8 : Nat) : Int) := irem_nat _ 8
  have main : C Tryz.prog 84 #[.pointer (some ⟨d, 0, none⟩), .int .i64 (IntKind.i64.wrap ((p.pa : Int) + iquo .i64 ((l.length : Nat) : Int) 8)), .int .i64 (irem ((l.length : Nat) : Int) 8), .int .u64 (guardN x : Nat)] h fun (r : Value) (h' : Heap) =>
      ∃ (e : Int), r = .int .i64 e ∧ spare_Bank_say.J2 (some ⟨b, 0, none⟩) (x : Nat) e h' Q := by
    rw [e1, e2]
    refine line_PutWord.c w.dv w.lf fun h1 w1 st1 => ⟨_, rfl, ?_⟩
    apply spare_Bank_say.J2.ok
    have db1 := w.dev w1 st1
    have wb1 := wb.keep (st1.same w.ap)
    refine xsIf_intro (fun e => ?_) fun e => ?_
    · have e := of_decide_eq_true e
      rw [e, if_pos rfl] at hq
      have en : C Tryz.prog 80 #[.pointer (some ⟨b, 0, none⟩), .int .i64 (l.length : Nat), .int .u64 (guardN x : Nat)] h1 fun (r : Value) (h' : Heap) => ∃ (x : Int), r = .int .i64 x ∧ Q (.int .i64 x) h' := by
        refine spare_Bank_entry.c ⟨r, ml, cc, wb1⟩ hl v1 (guardN_lt x) v2 fun h2 wb2 st2 => ⟨_, rfl, hq h2 ?_ (st1.left.trans st2.right)⟩
        rw [v3] at wb2
        exact db1.bank wb2 st2
      exact ⟨b, 0, rfl, ⟨_, wb1.c4, crc_Guard.c (by omega) ⟨_, rfl, en⟩⟩, crc_Guard.c (by omega) ⟨_, rfl, _, wb1.c4, en⟩⟩
    · have e := of_decide_eq_false e
      rw [if_neg e] at hq
      exact hq h1 db1 st1.left
  have gd : ∀ {K : Int → Prop}, K (guardN x : Nat) → C Tryz.prog 147 #[.int .u64 (x : Nat)] h fun (r : Value) (h' : Heap) => ∃ (y : Int), r = .int .u64 y ∧ (h' = h ∧ K y) := fun hk => crc_Guard.c (by omega) ⟨_, rfl, rfl, hk⟩
  refine ⟨b, 0, rfl, b, 0, rfl, b, 0, rfl, b, 0, rfl, ?_⟩
  have c1 : h.cell b (0 + 1 + 0) = some (.int .i64 p.pa) := wb.c1
  repeat' (first | exact main | (refine And.intro ?_ ?_) | (refine ⟨_, wb.c0, ?_⟩) | (refine ⟨_, c1, ?_⟩) | (refine ⟨_, wb.c4, ?_⟩) | (refine crc_Guard.c (by omega) ⟨_, rfl, ?_⟩))
end
end Go.Gb
namespace Go.Gb
open Go.Proofs IntWalk

/-! ## gabionlaw04: wakes, LineNone, LineCosts -/

section
variable {h : Heap} {Q : Value → Heap → Prop} {a : Int}

end

theorem Cl.of {s : PmS} (c : Cl { s with count := 0 }) (h0 : 0 ≤ s.count) (h1 : s.count < 1000000000) : Cl s := ⟨c.off, c.fuse, c.buf, h0, h1⟩
theorem Cl.new (n : Nat) : Cl (pnew n) := ⟨rfl, rfl, fun _ _ => rfl, Int.le_refl _, by show (0 : Int) < _; omega⟩

theorem bytes_word_eq {b c : ByteArray} (hb : b.size = 64) (hc : c.size = 64) (h : ∀ k, k < 8 → wordAt b k = wordAt c k) : b = c := by
  rw [← lnbytes_words b hb, ← lnbytes_words c hc]
  unfold lnbytes
  rw [textN_congr 8 h]

end Go.Gb
namespace Go.Gb
open Go.Proofs IntWalk

/-! ## spare: retire, Write, WriteWord -/

theorem chunk_left {a b : List UInt8} {j : Nat} (h : 8 * j + 8 ≤ a.length) : chunk (a ++ b) j = chunk a j := by
  unfold chunk
  rw [List.drop_append_of_le_length (by omega), List.take_append_of_le_length (by rw [List.length_drop]; omega)]
theorem chunk_right {a b : List UInt8} {j n : Nat} (h : a.length = 8 * n) (hj : n ≤ j) : chunk (a ++ b) j = chunk b (j - n) := by
  unfold chunk
  have e : 8 * j = a.length + 8 * (j - n) := by omega
  rw [e, List.drop_append, List.drop_of_length_le (show a.length ≤ a.length + 8 * (j - n) by omega), Nat.add_sub_cancel_left, List.nil_append]
theorem chunk_take {a : List UInt8} {j n : Nat} (hj : j < n) : chunk (a.take (8 * n)) j = chunk a j := by
  unfold chunk
  rw [List.drop_take, List.take_take, show min 8 (8 * n - 8 * j) = 8 by omega]
theorem chunk_drop {a : List UInt8} {j n : Nat} : chunk (a.drop (8 * n)) j = chunk a (n + j) := by
  unfold chunk
  rw [List.drop_drop, show 8 * n + 8 * j = 8 * (n + j) by omega]

theorem with_text {w : ByteArray} {k v : Nat} (hw : w.size = 64) (hk : k < 8) (hv : v < 18446744073709551616) :
    sext w 0 ((8 * k : Nat) : Int) ++ ⟨(putL v 8).toArray⟩ ++ sext w ((8 * (k + 1) : Nat) : Int) (w.size : Int) = withW w k v := by
  have hl : w.data.toList.length = 64 := by
    have : w.data.toList.length = w.size := by simp
    omega
  have e1 : sext w 0 ((8 * k : Nat) : Int) = ⟨(w.data.toList.take (8 * k)).toArray⟩ := by
    unfold sext
    apply ByteArray.ext
    rw [Int.toNat_natCast, ByteArray.data_extract]
    apply Array.ext'
    rw [Array.toList_extract, List.extract_eq_take_drop]
    show (w.data.toList.drop 0).take (8 * k - 0) = _
    simp
  have e2 : sext w ((8 * (k + 1) : Nat) : Int) (w.size : Int) = ⟨(w.data.toList.drop (8 * (k + 1))).toArray⟩ := by
    unfold sext
    apply ByteArray.ext
    rw [Int.toNat_natCast, Int.toNat_natCast, ByteArray.data_extract]
    apply Array.ext'
    rw [Array.toList_extract, List.extract_eq_take_drop, List.take_of_length_le]
    rw [List.length_drop, hl]; omega
  have hb : ∀ j, (if j = k then v else wordAt w j) < 18446744073709551616 := fun j => by split; exact hv; exact wordAt_lt _ _
  rw [e1, e2, bytes_append, bytes_append]
  have ta : (w.data.toList.take (8 * k)).length = 8 * k := by rw [List.length_take, hl]; omega
  refine bytes_word_eq ?_ (withW_size _ _ _) fun j hj => ?_
  · rw [bytes_size, List.length_append, List.length_append, ta, putL_length, List.length_drop, hl]; omega
  · unfold withW
    rw [wordAt_text hj (hb j)]
    show getL (chunk (w.data.toList.take (8 * k) ++ putL v 8 ++ w.data.toList.drop (8 * (k + 1))) j) = _
    rw [List.append_assoc]
    by_cases h1 : j < k
    · rw [chunk_left (by rw [ta]; omega), chunk_take h1, if_neg (by omega)]; rfl
    · rw [chunk_right ta (by omega)]
      by_cases h2 : j = k
      · subst h2
        rw [Nat.sub_self, chunk_left (by rw [putL_length]; omega), if_pos rfl]
        unfold chunk
        rw [List.drop_zero, List.take_of_length_le (by rw [putL_length]; omega), getL_put]
        exact Nat.mod_eq_of_lt hv
      · rw [chunk_right (n := 1) (by rw [putL_length]) (by omega), chunk_drop, if_neg h2, show k + 1 + (j - k - 1) = j by omega]; rfl

section
variable {F G : Nat → Prop} {h : Heap} {d b : Nat} {p : Pl} {s : PmS} {l : List Nat} {Q : Value → Heap → Prop}

open Classical in
theorem took_yes {s : PmS} {a : Nat} {x : ByteArray} (t : lntook s (a : Int) x) : took s a x = true := by unfold took; exact decide_eq_true t
open Classical in
theorem took_no {s : PmS} {a : Nat} {x : ByteArray} (t : ¬ lntook s (a : Int) x) : ¬ took s a x = true := by unfold took; rw [decide_eq_false t]; simp

theorem spare_Bank_retire.L1.c {i : Nat} {B : ByteArray} (hi : i < p.pl) : ∀ (m : Nat) (h : Heap) (s : PmS) (l : List Nat), l.length + m = p.ps → DB F G h d b p s l →
    (∀ h', DB F G h' d b p (sretire p i B m s l).2.1 (sretire p i B m s l).2.2 → Step (FG F G) h (FG F G) h' → Q (.int .i64 (sretire p i B m s l).1) h') → spare_Bank_retire.L1 (some ⟨b, 0, none⟩) (i : Int) B h Q := by
  intro m
  induction m with
  | zero =>
    intro h s l hm w hq
    apply spare_Bank_retire.L1.ok
    refine spare_Bank_Left.c w.bk ⟨_, rfl, xsIf_f (decide_eq_false (by omega)) (hq h w (Step.refl _ _))⟩
  | succ m ih =>
    intro h s l hm w hq
    obtain ⟨r, ml, cc, wb⟩ := w.bk
    have hs := wb.pb.s2
    have hl2 := wb.pb.l2
    apply spare_Bank_retire.L1.ok
    refine spare_Bank_Left.c w.bk ⟨_, rfl, xsIf_t (decide_eq_true (by omega)) ⟨b, 0, rfl, b, 0, rfl, _, wb.c1, _, wb.c2, _, wb.c3, _, wb.c4, spare_Plan_spare.c wb.pb (by omega) ⟨_, rfl, b, 0, rfl, _, wb.c0, line_Put.c w.dv w.lf fun h1 w1 st1 => ⟨_, rfl, ?_⟩⟩⟩⟩
    unfold sretire at hq
    have db1 := w.dev w1 st1
    have wb1 := wb.keep (st1.same w.ap)
    refine xsIf_intro (fun e => ?_) fun e => ?_
    · have e := of_decide_eq_true e
      rw [if_neg e] at hq
      exact hq h1 db1 st1.left
    · have e : (lnput s (sparN p l.length : Nat) B).1 = 0 := by simpa using e
      rw [if_pos e] at hq
      generalize (lnput s (sparN p l.length : Nat) B).2 = s1 at hq w1 db1
      refine ⟨b, 0, rfl, _, wb1.c0, line_Took.c w1 (fun t => ⟨_, rfl, xsIf_t rfl ?_⟩) fun t => ⟨_, rfl, xsIf_f rfl ?_⟩⟩
      · rw [if_pos (took_yes t)] at hq
        rw [show IntKind.u64.wrap (IntKind.u64.wrap (i : Int) + 1) = ((i + 1 : Nat) : Int) by rw [u64_nat' (by omega), show ((i : Int) + 1) = ((i + 1 : Nat) : Int) by omega, u64_nat' (by omega)]]
        exact spare_Bank_say.c db1 (by omega) (.inr ⟨by omega, by omega⟩) fun h2 db2 st2 => ⟨_, rfl, hq h2 db2 (st1.left.trans st2)⟩
      · rw [if_neg (took_no t)] at hq
        refine spare_Bank_say.c (x := 65535) db1 (by omega) (.inl rfl) fun h2 db2 st2 => ⟨_, rfl, ?_⟩
        refine xsIf_intro (fun e2 => ?_) fun e2 => ?_
        · have e2 := of_decide_eq_true e2
          rw [if_neg e2] at hq db2
          exact hq h2 db2 (st1.left.trans st2)
        · have e2 : (lnputw s1 (p.pa + l.length / 8 : Nat) (l.length % 8 : Nat) (guardN 65535 : Nat)).1 = 0 := by simpa using e2
          rw [if_pos e2] at hq db2
          exact ih h2 _ _ (by simp; omega) db2 fun h3 db3 st3 => hq h3 db3 ((st1.left.trans st2).trans st3)

theorem spare_Bank_retire.c {i : Nat} {B : ByteArray} (hi : i < p.pl) (w : DB F G h d b p s l)
    (hq : ∀ h', DB F G h' d b p (sretire p i B (p.ps - l.length) s l).2.1 (sretire p i B (p.ps - l.length) s l).2.2 → Step (FG F G) h (FG F G) h' → Q (.int .i64 (sretire p i B (p.ps - l.length) s l).1) h') :
    C Tryz.prog 85 #[.pointer (some ⟨b, 0, none⟩), .int .i64 (i : Int), .string B] h Q := by
  obtain ⟨r, ml, cc, wb⟩ := w.bk
  have := wb.len
  apply spare_Bank_retire.ok
  exact spare_Bank_retire.L1.c hi (p.ps - l.length) h s l (by omega) w hq

/-- Write as a whole. -/
noncomputable def sWrite (p : Pl) (l : List Nat) (s : PmS) (i : Int) (b : ByteArray) : Int × PmS × List Nat :=
  if b.size = 64 then (if 0 ≤ i ∧ i < p.pl then swrite p l s i.toNat b else (3, s, l)) else (2, s, l)
noncomputable def sWriteWord (p : Pl) (l : List Nat) (s : PmS) (i k : Int) (v : Nat) : Int × PmS × List Nat :=
  if 0 ≤ k ∧ k < 8 then (if 0 ≤ i ∧ i < p.pl then swritew p l s i.toNat k.toNat v else (3, s, l)) else (2, s, l)

theorem spare_Bank_Write.c {i : Int} {B : ByteArray} (w : DB F G h d b p s l)
    (hq : ∀ h', DB F G h' d b p (sWrite p l s i B).2.1 (sWrite p l s i B).2.2 → Step (FG F G) h (FG F G) h' → Q (.int .i64 (sWrite p l s i B).1) h') :
    C Tryz.prog 44 #[.pointer (some ⟨b, 0, none⟩), .int .i64 i, .string B] h Q := by
  obtain ⟨r, ml, cc, wb⟩ := w.bk
  apply spare_Bank_Write.ok
  unfold sWrite at hq
  refine spare_Bank_Where.c w.bk (fun h0 h1 => ⟨_, _, rfl, xsIf_f rfl ?_⟩) fun h0 => ⟨_, _, rfl, xsIf_f rfl ?_⟩
  · by_cases hb : B.size = 64
    · rw [if_pos hb, if_pos ⟨h0, h1⟩] at hq
      obtain ⟨i, rfl⟩ : ∃ k : Nat, i = k := ⟨i.toNat, by omega⟩
      rw [Int.toNat_natCast] at hq ⊢
      unfold swrite at hq
      refine xsIf_f (decide_eq_false (by omega)) (xsIf_f rfl ⟨b, 0, rfl, _, wb.c0, line_Put.c w.dv w.lf fun h1 w1 st1 => ⟨_, rfl, ?_⟩⟩)
      have db1 := w.dev w1 st1
      have wb1 := wb.keep (st1.same w.ap)
      refine xsIf_intro (fun e => ?_) fun e => ?_
      · have e := of_decide_eq_true e
        rw [if_neg e] at hq
        exact hq _ db1 st1.left
      · have e : (lnput s (whN p l i : Nat) B).1 = 0 := by simpa using e
        rw [if_pos e] at hq
        generalize (lnput s (whN p l i : Nat) B).2 = s1 at hq w1 db1
        refine ⟨b, 0, rfl, _, wb1.c0, line_Took.c w1 (fun t => ⟨_, rfl, xsIf_t rfl ?_⟩) fun t => ⟨_, rfl, xsIf_f rfl ?_⟩⟩
        · rw [if_pos (took_yes t)] at hq
          exact hq _ db1 st1.left
        · rw [if_neg (took_no t)] at hq
          exact spare_Bank_retire.c (by omega) db1 fun h2 db2 st2 => ⟨_, rfl, hq h2 db2 (st1.left.trans st2)⟩
    · rw [if_neg hb] at hq
      exact xsIf_t (decide_eq_true (by omega)) (hq h w (Step.refl _ _))
  · by_cases hb : B.size = 64
    · rw [if_pos hb, if_neg h0] at hq
      exact xsIf_f (decide_eq_false (by omega)) (xsIf_t rfl (hq h w (Step.refl _ _)))
    · rw [if_neg hb] at hq
      exact xsIf_t (decide_eq_true (by omega)) (hq h w (Step.refl _ _))

theorem lnget_size {a : Nat} (h0 : (lnget s (a : Int)).2 = 0) : (lnget s (a : Int)).1.size = 64 := by
  unfold lnget at h0 ⊢
  split
  · rename_i h; rw [if_pos h] at h0; cases h0
  · rename_i h
    rw [if_neg h] at h0
    split
    · exact lnbytes_size _
    · rename_i h2; rw [if_neg h2] at h0; cases h0

theorem spare_Bank_WriteWord.c {i k : Int} {v : Nat} (w : DB F G h d b p s l) (ok : PmOk s) (hv : v < 18446744073709551616)
    (hq : ∀ h', DB F G h' d b p (sWriteWord p l s i k v).2.1 (sWriteWord p l s i k v).2.2 → Step (FG F G) h (FG F G) h' → Q (.int .i64 (sWriteWord p l s i k v).1) h') :
    C Tryz.prog 33 #[.pointer (some ⟨b, 0, none⟩), .int .i64 i, .int .i64 k, .int .u64 (v : Nat)] h Q := by
  obtain ⟨r, ml, cc, wb⟩ := w.bk
  apply spare_Bank_WriteWord.ok
  unfold sWriteWord at hq
  have kk : ∀ {X : Prop} {e : Int}, (¬ (0 ≤ k ∧ k < 8) → X) → (0 ≤ k → k < 8 → X) → X := fun a c => by
    by_cases h : 0 ≤ k ∧ k < 8
    · exact c h.1 h.2
    · exact a h
  refine spare_Bank_Where.c w.bk (fun h0 h1 => ⟨_, _, rfl, xsIf_f rfl ?_⟩) fun h0 => ⟨_, _, rfl, xsIf_f rfl ?_⟩
  · refine xsIf_intro (fun e1 => ?_) fun e1 => xsIf_intro (fun e2 => ?_) fun e2 => ?_
    · have e1 := of_decide_eq_true e1
      rw [if_neg (by omega)] at hq
      exact hq h w (Step.refl _ _)
    · have e2 := of_decide_eq_true e2
      rw [if_neg (by omega)] at hq
      exact hq h w (Step.refl _ _)
    · have e1 := of_decide_eq_false e1
      have e2 := of_decide_eq_false e2
      rw [if_pos (by omega), if_pos ⟨h0, h1⟩] at hq
      obtain ⟨i, rfl⟩ : ∃ j : Nat, i = j := ⟨i.toNat, by omega⟩
      obtain ⟨k, rfl⟩ : ∃ j : Nat, k = j := ⟨k.toNat, by omega⟩
      rw [Int.toNat_natCast, Int.toNat_natCast] at hq
      rw [Int.toNat_natCast]
      unfold swritew at hq
      refine xsIf_f rfl ⟨b, 0, rfl, _, wb.c0, line_Get.c w.dv ok ⟨_, _, rfl, ?_⟩⟩
      refine xsIf_intro (fun e => ?_) fun e => ?_
      · have e := of_decide_eq_true e
        rw [if_neg e] at hq
        exact hq h w (Step.refl _ _)
      · have e : (lnget s (whN p l i : Nat)).2 = 0 := by simpa using e
        rw [if_pos e] at hq
        have hz := lnget_size e
        generalize (lnget s (whN p l i : Nat)).1 = was at hq hz
        have w1 : IntKind.i64.wrap (8 * (k : Int)) = ((8 * k : Nat) : Int) := by rw [i64_in _ (by omega)]; omega
        have w2 : IntKind.i64.wrap (8 * IntKind.i64.wrap ((k : Int) + 1)) = ((8 * (k + 1) : Nat) : Int) := by rw [i64_in ((k : Int) + 1) (by omega), i64_in _ (by omega)]; omega
        rw [w1, w2]
        refine ⟨by omega, by omega, le_Put.c hv ⟨_, rfl, ?_⟩⟩
        rw [show cnt 8 = 8 by decide, with_text hz (by omega) hv]
        have s1 : (sext was 0 ((8 * k : Nat) : Int)).size ≤ 64 := by unfold sext; rw [ByteArray.size_extract]; omega
        have s2 : (⟨(putL v 8).toArray⟩ : ByteArray).size = 8 := by rw [bytes_size, putL_length]
        have s3 : (sext was ((8 * (k + 1) : Nat) : Int) (was.size : Int)).size ≤ 64 := by unfold sext; rw [ByteArray.size_extract]; omega
        refine ⟨by rw [s2]; omega, by rw [ByteArray.size_append, s2]; omega, b, 0, rfl, _, wb.c0, line_PutWord.c w.dv w.lf fun h1 w1 st1 => ⟨_, rfl, ?_⟩⟩
        have db1 := w.dev w1 st1
        have wb1 := wb.keep (st1.same w.ap)
        refine xsIf_intro (fun e => ?_) fun e => ?_
        · have e := of_decide_eq_true e
          rw [if_neg e] at hq
          exact hq _ db1 st1.left
        · have e : (lnputw s (whN p l i : Nat) (k : Nat) (v : Nat)).1 = 0 := by simpa using e
          rw [if_pos e] at hq
          generalize (lnputw s (whN p l i : Nat) (k : Nat) (v : Nat)).2 = s1 at hq w1 db1
          refine ⟨b, 0, rfl, _, wb1.c0, line_Took.c w1 (fun t => ⟨_, rfl, xsIf_t rfl ?_⟩) fun t => ⟨_, rfl, xsIf_f rfl ?_⟩⟩
          · rw [if_pos (took_yes t)] at hq
            exact hq _ db1 st1.left
          · rw [if_neg (took_no t)] at hq
            exact spare_Bank_retire.c (by omega) db1 fun h2 db2 st2 => ⟨_, rfl, hq h2 db2 (st1.left.trans st2)⟩
  · refine xsIf_intro (fun e1 => ?_) fun e1 => xsIf_intro (fun e2 => ?_) fun e2 => ?_
    · have e1 := of_decide_eq_true e1
      rw [if_neg (by omega)] at hq
      exact hq h w (Step.refl _ _)
    · have e2 := of_decide_eq_true e2
      rw [if_neg (by omega)] at hq
      exact hq h w (Step.refl _ _)
    · have e1 := of_decide_eq_false e1
      have e2 := of_decide_eq_false e2
      rw [if_pos (by omega), if_neg h0] at hq
      exact xsIf_t rfl (hq h w (Step.refl _ _))
end
end Go.Gb
namespace Go.Gb
open Go.Proofs IntWalk

/-! ## gabionref05 over the same pure state -/

section
variable {h : Heap} {Q : Value → Heap → Prop} {a l s n : Int} {p : Pl}

theorem gabionref05_table.c (hb : PlB p) (hq : Q (.int .i64 (tblN p : Nat)) h) : C Tryz.prog 98 #[plV p] h Q := by
  apply gabionref05_table.ok
  unfold gabionref05_table.wp
  have := hb.s2
  rw [i64_in _ (by omega), iquo_i64 (by omega) (by omega) (by omega), show ((p.ps : Int) + 7) / 8 = ((tblN p : Nat) : Int) by unfold tblN; omega]
  exact hq
theorem gabionref05_Size.c (hb : PlB p) (hq : Q (.int .i64 (sizeN p : Nat)) h) : C Tryz.prog 52 #[plV p] h Q := by
  apply gabionref05_Size.ok
  have := tblN_le hb
  have := hb.l2
  have := hb.s2
  refine gabionref05_table.c hb ⟨_, rfl, ?_⟩
  rw [i64_in ((tblN p : Nat) + (p.pl : Int)) (by omega), i64_in _ (by omega), show ((tblN p : Nat) : Int) + (p.pl : Int) + (p.ps : Int) = ((sizeN p : Nat) : Int) by unfold sizeN; omega]
  exact hq
theorem gabionref05_Check.c (hq : Q (.int .i64 (checkI a l s n)) h) : C Tryz.prog 139 #[.agg #[.int .i64 a, .int .i64 l, .int .i64 s], .int .i64 n] h Q := by
  apply gabionref05_Check.ok
  unfold checkI at hq
  by_cases hr : rightI a l s
  · rw [if_pos hr] at hq
    obtain ⟨p, hb, rfl, rfl, rfl⟩ := rightI_pl hr
    rw [plI_nat] at hq
    have := hb.l1
    have := hb.l2
    have := hb.s2
    have := hb.a2
    have := tblN_le hb
    have hs : sizeN p ≤ 2000 := by unfold sizeN; omega
    refine xsIf_f (decide_eq_false (by omega)) (xsIf_f (decide_eq_false (by omega)) (xsIf_f (decide_eq_false (by omega)) (xsIf_f (decide_eq_false (by omega)) (xsIf_f (decide_eq_false (by omega)) (xsIf_f (decide_eq_false (by omega)) (gabionref05_Size.c hb ⟨_, rfl, ?_⟩))))))
    rw [i64_in _ (by omega)]
    refine xsIf_intro (fun h1 => ?_) fun h1 => ?_
    · rw [if_pos (of_decide_eq_true h1)] at hq; exact hq
    · rw [if_neg (of_decide_eq_false h1)] at hq; exact hq
  · rw [if_neg hr] at hq
    unfold rightI at hr
    refine xsIf_intro (fun _ => hq) fun h1 => xsIf_intro (fun _ => hq) fun h2 => xsIf_intro (fun _ => hq) fun h3 => xsIf_intro (fun _ => hq) fun h4 => xsIf_intro (fun _ => hq) fun h5 => xsIf_intro (fun _ => hq) fun h6 => ?_
    simp only [decide_eq_false_iff_not] at *
    omega
end

section
variable {F : Nat → Prop} {h : Heap} {m : Nat} {s : PmS} {p : Pl} {l : List Nat} {Q : Value → Heap → Prop}

abbrev natsI (l : List Nat) : List Int := l.map fun (k : Nat) => (k : Int)

theorem gabionref05_Entries.c (w : RfD F h m s) (i : SpI p s l) (hq : ∀ a cp h', Part h h' → readsAt h' a (ints .i64 (natsI l)) → Q (.tuple #[.slice a l.length cp, .int .i64 0]) h') :
    C Tryz.prog 110 #[.pointer (some ⟨m, 0, none⟩), plV p] h Q := by
  apply gabionref05_Entries.ok
  have hb := i.ok.b
  have hs := hb.s2
  have ha := hb.a2
  have hl2 := hb.l2
  have loop : ∀ (j k : Nat) (h' : Heap) (a : Option Addr) (cp : Nat) (lk : List Nat) (free : Bool), k + j = p.ps → entsTo p.pl (twd s p) k = some lk → (free = true ↔ lk.length ≠ k) → Own h h' 3 1 a lk.length cp (ints .i64 (natsI lk)) →
      gabionref05_Entries.L4 (some ⟨m, 0, none⟩) a lk.length cp free (k : Int) p.pa p.pl p.ps h' Q := by
    intro j
    induction j with
    | zero =>
      intro k h' a cp lk free hk he hf o
      apply gabionref05_Entries.L4.ok
      have : k = p.ps := by omega
      subst this
      have e : lk = l := by have := i.en; unfold sents at this; rw [he] at this; cases this; rfl
      subst e
      exact xsIf_f (decide_eq_false (by omega)) (hq a cp h' o.part o.reads)
    | succ j ih =>
      intro k h' a cp lk free hk he hf o
      apply gabionref05_Entries.L4.ok
      unfold gabionref05_Entries.L4.wp
      have hlk := (entsTo_some _ _ he).1
      have wh := w.keep fun k _ hk => part_live o.part hk
      have e2 : IntKind.i64.wrap ((k : Int) + 1) = ((k + 1 : Nat) : Int) := by rw [i64_in _ (by omega)]; omega
      rw [e2, show IntKind.i64.wrap (IntKind.i64.wrap (8 * (p.pa : Int)) + (k : Int)) = ((8 * p.pa + k : Nat) : Int) by rw [i64_in (8 * (p.pa : Int)) (by omega), i64_in _ (by omega)]; omega]
      refine xsIf_t (decide_eq_true (by omega)) (gabionref03_Load.c wh ⟨_, _, rfl, ?_⟩)
      rw [pload_on i.on.off (tbl_fit i.ok (show k < p.ps by omega)).1]
      refine xsIf_f rfl ?_
      have hv := i.w.val (8 * p.pa + k)
      unfold R64 at hv
      have ev : pval s (8 * p.pa + k) = ((twd s p k : Nat) : Int) := by unfold twd; omega
      dsimp only
      rw [ev]
      have hv64 : twd s p k < 18446744073709551616 := by omega
      obtain ⟨l2, h2⟩ := entsTo_step (k := k + 1) i.en (by omega)
      have h3 := h2
      unfold entsTo at h3
      rw [he] at h3
      dsimp only at h3
      generalize twd s p k = v at h3 hv64
      by_cases e0 : v = 0
      · rw [if_pos e0] at h3
        cases h3
        rw [e0]
        exact xsIf_t rfl (ih (k + 1) h' a cp lk true (by omega) h2 ⟨fun _ => by omega, fun _ => rfl⟩ o)
      · rw [if_neg e0] at h3
        by_cases e1 : validW p.pl v = true ∧ lk.length = k
        · rw [if_pos e1] at h3
          cases h3
          obtain ⟨e1, ek⟩ := e1
          obtain ⟨g1, g2⟩ := of_decide_eq_true e1
          have er : irem ((v : Nat) : Int) 281474976710656 = ((v % 281474976710656 : Nat) : Int) := irem_nat v 281474976710656
          rw [er]
          refine xsIf_f (decide_eq_false (by omega)) (gabionref02_Guard.c (by omega) fun h4 p4 => ⟨_, rfl, ?_⟩)
          rw [guardN_low, g1]
          have hfree : free = false := by
            cases free with
            | false => rfl
            | true => exact absurd ek (hf.1 rfl)
          have o4 := o.keep p4
          have app : ∀ (b : Nat), h4 b = none → xsApp Tryz.prog 3 (upd h4 b (Obj.cells #[.int .i64 (IntKind.i64.wrap ((v % 281474976710656 : Nat) : Int))] 3 (0, 0))) a lk.length cp (some ⟨b, 0, none⟩) 1
              fun (a' : Option Addr) (n' c' : Nat) (h' : Heap) => gabionref05_Entries.L4 (some ⟨m, 0, none⟩) a' n' c' free ((k + 1 : Nat) : Int) p.pa p.pl p.ps h' Q := by
            intro b hb
            rw [i64_in _ (by omega)]
            refine o4.isnoc hb (by kernel_rfl) (by kernel_rfl) ?_ fun a' c' h5 o5 => ?_
            · rw [show cellBytes Tryz.prog 3 = 8 by kernel_rfl]; omega
            · have := ih (k + 1) h5 a' c' (lk ++ [v % 281474976710656]) free (by omega) h2 (by rw [hfree]; simp [ek]) (by
                rw [List.length_append]
                have e : natsI (lk ++ [v % 281474976710656]) = natsI lk ++ [((v % 281474976710656 : Nat) : Int)] := by simp
                rw [e]; exact o5)
              rw [List.length_append] at this
              exact this
          generalize v % 281474976710656 = x at g2 app
          refine xsIf_f (decide_eq_false (fun h => h rfl)) (xsIf_intro (fun e => xsIf_f (decide_eq_false ?_) (xsIf_f (decide_eq_false ?_) (xsIf_f hfree app))) fun _ => xsIf_f hfree app)
          · have e : ((x : Nat) : Int) ≠ 65535 := of_decide_eq_true e
            omega
          · have e : ((x : Nat) : Int) ≠ 65535 := of_decide_eq_true e
            rw [u64_nat' (by omega)]; omega
        · rw [if_neg e1] at h3; cases h3
  exact loop p.ps 0 h none 0 [] false (by omega) rfl ⟨fun h => (by cases h), fun h => absurd rfl h⟩ (Own.nil (Part.refl h))

theorem gabionref05_Where.c {i : Nat} {a : Option Addr} {cp : Nat} (hb : PlB p) (hl : l.length ≤ p.ps) (hi : i < p.pl) (hr : readsAt h a (ints .i64 (natsI l))) (hv : ∀ x ∈ l, x < 1000000) (hq : Q (.int .i64 (whN p l i : Nat)) h) :
    C Tryz.prog 111 #[plV p, .slice a l.length cp, .int .i64 (i : Int)] h Q := by
  apply gabionref05_Where.ok
  have hs := hb.s2
  have ha := hb.a2
  have hl2 := hb.l2
  have ht := tblN_le hb
  refine gabionref05_table.c hb ⟨_, rfl, ?_⟩
  have loop : ∀ (j k : Nat), k + j = l.length → gabionref05_Where.L4 a l.length cp (i : Int) (tblN p : Nat) ((match stN l k i with | some j => sparN p j | none => ownN p i : Nat) : Int) (k : Int) p.pa p.pl p.ps h Q := by
    intro j
    induction j with
    | zero =>
      intro k hk
      apply gabionref05_Where.L4.ok
      have : k = l.length := by omega
      subst this
      exact xsIf_f (decide_eq_false (by omega)) hq
    | succ j ih =>
      intro k hk
      apply gabionref05_Where.L4.ok
      unfold gabionref05_Where.L4.wp
      have hkl : k < l.length := by omega
      rw [show IntKind.i64.wrap ((k : Int) + 1) = ((k + 1 : Nat) : Int) by rw [i64_in _ (by omega)]; omega, show IntKind.i64.wrap ((i : Int) + 1) = ((i + 1 : Nat) : Int) by rw [i64_in _ (by omega)]; omega,
        show IntKind.i64.wrap (IntKind.i64.wrap (IntKind.i64.wrap ((p.pa : Int) + ((tblN p : Nat) : Int)) + (p.pl : Int)) + (k : Int)) = ((sparN p k : Nat) : Int) by
          rw [i64_in ((p.pa : Int) + ((tblN p : Nat) : Int)) (by omega), i64_in ((p.pa : Int) + ((tblN p : Nat) : Int) + (p.pl : Int)) (by omega), i64_in _ (by omega)]; unfold sparN; omega]
      have hg : (natsI l)[k]? = some ((l.getD k 0 : Nat) : Int) := by
        rw [List.getElem?_map, List.getD_eq_getElem?_getD, List.getElem?_eq_getElem hkl]; rfl
      refine xsIf_t (decide_eq_true (by omega)) ⟨by omega, reads_ints hr (i := k) (by simp; omega) fun b o hc => ⟨_, by have := hc k _ hg; rw [show (k : Int).toNat * 1 = k * 1 by omega]; exact this, ?_⟩⟩
      have nx := ih (k + 1) (by omega)
      refine xsIf_intro (fun e => ?_) fun e => ?_
      · have e : ((l.getD k 0 : Nat) : Int) = ((i + 1 : Nat) : Int) := of_decide_eq_true e
        have e2 : stN l (k + 1) i = some k := by show (if l.getD k 0 = i + 1 then some k else stN l k i) = _; rw [if_pos (by omega)]
        rw [e2] at nx
        exact nx
      · have e : ¬ ((l.getD k 0 : Nat) : Int) = ((i + 1 : Nat) : Int) := of_decide_eq_false e
        have e2 : stN l (k + 1) i = stN l k i := by show (if l.getD k 0 = i + 1 then some k else stN l k i) = _; rw [if_neg (by omega)]
        rw [e2] at nx
        exact nx
  have := loop l.length 0 (by omega)
  rw [i64_in ((p.pa : Int) + ((tblN p : Nat) : Int)) (by omega), i64_in _ (by omega), show (p.pa : Int) + ((tblN p : Nat) : Int) + (i : Int) = ((ownN p i : Nat) : Int) by unfold ownN; omega]
  exact this
end
end Go.Gb
namespace Go.Gb
open Go.Proofs IntWalk

section
variable {F : Nat → Prop} {m : Nat} {p : Pl} {Q : Value → Heap → Prop}

/-- What lasts is these bytes. -/
theorem media_took {s : PmS} {a : Nat} {B : ByteArray} (ok : PmOk s) (ha : a < s.nl) (hb : B.size = 64) : (lnbytes (fun k => (s.media (8 * a + k)).toNat) = B) ↔ took s a B = true := by
  have hv : ∀ k, (s.media (8 * a + k)).toNat < 18446744073709551616 ∧ s.media (8 * a + k) = (((s.media (8 * a + k)).toNat : Nat) : Int) := fun k => by
    have := ok.media (8 * a + k); unfold R64 at this; omega
  have wx : ∀ k, k < 8 → wordAt (lnbytes fun k => (s.media (8 * a + k)).toNat) k = (s.media (8 * a + k)).toNat := fun k hk => wordAt_text hk (hv k).1
  have lt : lthere s (a : Int) = 0 := by unfold lthere; exact if_pos (by omega)
  constructor
  · intro e
    refine took_yes ⟨hb, lt, fun k hk => ?_⟩
    rw [Int.toNat_natCast, ← e, wx k hk]; exact (hv k).2
  · intro t
    have t : lntook s (a : Int) B := Classical.byContradiction fun n => took_no n t
    refine bytes_word_eq (lnbytes_size _) hb fun k hk => ?_
    rw [wx k hk]
    have h1 := t.2.2 k hk
    rw [Int.toNat_natCast] at h1
    have h2 := (hv k).2
    omega

theorem gabionref05_retire.L2.c {i : Nat} {B : ByteArray} (hi : i < p.pl) (hB : B.size = 64) : ∀ (n : Nat) (h : Heap) (s : PmS) (l : List Nat), l.length + n = p.ps → RfD F h m s → Live F h → SpI p s l →
    (∀ h', RfD F h' m (sretire p i B n s l).2.1 → Step F h F h' → Q (.int .i64 (sretire p i B n s l).1) h') → gabionref05_retire.L2 (some ⟨m, 0, none⟩) (i : Int) B (tblN p : Nat) p.pa p.pl p.ps h Q := by
  intro n
  induction n with
  | zero =>
    intro h s l hn w lv sp hq
    apply gabionref05_retire.L2.ok
    refine gabionref05_Entries.c w sp fun a cp h1 p1 hr => ⟨_, _, _, _, rfl, xsIf_f rfl (xsIf_t (decide_eq_true (by omega)) (hq h1 (w.keep fun _ _ hk => part_live p1 hk) (Step.of_part p1)))⟩
  | succ n ih =>
    intro h s l hn w lv sp hq
    have hb := sp.ok.b
    have hs := hb.s2
    have ha := hb.a2
    have hl2 := hb.l2
    have ht := tblN_le hb
    obtain ⟨f1, f2⟩ := spar_fit sp.ok (show l.length < p.ps by omega)
    apply gabionref05_retire.L2.ok
    refine gabionref05_Entries.c w sp fun a cp h1 p1 hr => ⟨_, _, _, _, rfl, xsIf_f rfl (xsIf_f (decide_eq_false (by omega)) ?_)⟩
    have w1 := w.keep fun _ _ hk => part_live p1 hk
    have st1 : Step F h F h1 := Step.of_part p1
    have ea : IntKind.i64.wrap (IntKind.i64.wrap (IntKind.i64.wrap ((p.pa : Int) + ((tblN p : Nat) : Int)) + (p.pl : Int)) + ((l.length : Nat) : Int)) = ((sparN p l.length : Nat) : Int) := by
      rw [i64_in ((p.pa : Int) + ((tblN p : Nat) : Int)) (by omega), i64_in ((p.pa : Int) + ((tblN p : Nat) : Int) + (p.pl : Int)) (by omega), i64_in _ (by omega)]; unfold sparN; omega
    rw [ea]
    refine gabionref04_Put.c w1 (st1.dom lv) fun h2 w2 st2 => ⟨_, rfl, ?_⟩
    unfold sretire at hq
    refine xsIf_intro (fun e => ?_) fun e => ?_
    · have e := of_decide_eq_true e
      rw [if_neg e] at hq
      exact hq h2 w2 (st1.trans st2)
    · have e : (lnput s (sparN p l.length : Nat) B).1 = 0 := by simpa using e
      rw [if_pos e] at hq
      have sp1 := sp.put f2 f1 hB e
      have nl1 := lnput_nl s (sparN p l.length : Nat) B
      generalize (lnput s (sparN p l.length : Nat) B).2 = s1 at hq w2 sp1 nl1
      have lv2 := st2.dom (st1.dom lv)
      have mt := media_took (B := B) sp1.w (show sparN p l.length < s1.nl by omega) hB
      refine gabionref04_Media.c w2 sp1.w (by omega) ⟨_, rfl, ?_⟩
      have key : ∀ (x : Nat) (fin : Bool), (x = 65535 ∨ (1 ≤ x ∧ x ≤ p.pl)) → (decide (lnbytes (fun k => (s1.media (8 * sparN p l.length + k)).toNat) = B) = fin) →
          (∀ h' , RfD F h' m (lnputw s1 (p.pa + l.length / 8 : Nat) (l.length % 8 : Nat) (guardN x : Nat)).2 → Step F h F h' → Live F h' →
            xsIf (decide ((lnputw s1 (p.pa + l.length / 8 : Nat) (l.length % 8 : Nat) (guardN x : Nat)).1 ≠ 0)) (Q (.int .i64 (lnputw s1 (p.pa + l.length / 8 : Nat) (l.length % 8 : Nat) (guardN x : Nat)).1) h')
              (xsIf fin (Q (.int .i64 (lnputw s1 (p.pa + l.length / 8 : Nat) (l.length % 8 : Nat) (guardN x : Nat)).1) h') (gabionref05_retire.L2 (some ⟨m, 0, none⟩) (i : Int) B (tblN p : Nat) p.pa p.pl p.ps h' Q))) →
          gabionref05_retire.J16 (some ⟨m, 0, none⟩) (i : Int) B (tblN p : Nat) ((l.length : Nat) : Int) (lnbytes fun k => (s1.media (8 * sparN p l.length + k)).toNat) ((x : Nat) : Int) p.pa p.pl p.ps h2 Q := by
        intro x fin hx hfin hk
        apply gabionref05_retire.J16.ok
        unfold gabionref05_retire.J16.wp
        have e1 : IntKind.i64.wrap ((p.pa : Int) + iquo .i64 ((l.length : Nat) : Int) 8) = ((p.pa + l.length / 8 : Nat) : Int) := by
          rw [iquo_i64 (by omega) (by omega) (by omega), i64_in _ (by omega)]; omega
        have e2 : irem ((l.length : Nat) : Int) 8 = ((l.length % 8 : Nat) : Int) := irem_nat _ 8
        rw [e1, e2]
        refine gabionref02_Guard.c (by omega) fun h3 p3 => ⟨_, rfl, ?_⟩
        have st3 : Step F h2 F h3 := Step.of_part p3
        refine gabionref04_PutWord.c (w2.keep fun _ _ hk => part_live p3 hk) (st3.dom lv2) fun h4 w4 st4 => ⟨_, rfl, ?_⟩
        rw [hfin]
        exact hk h4 w4 (((st1.trans st2).trans st3).trans st4) (st4.dom (st3.dom lv2))
      by_cases tk : took s1 (sparN p l.length) B = true
      · rw [if_pos tk] at hq
        refine xsIf_t (decide_eq_true (mt.2 tk)) ?_
        rw [show IntKind.u64.wrap (IntKind.i64.wrap ((i : Int) + 1)) = ((i + 1 : Nat) : Int) by rw [i64_in _ (by omega), show ((i : Int) + 1) = ((i + 1 : Nat) : Int) by omega, u64_nat' (by omega)]]
        refine key (i + 1) true (.inr ⟨by omega, by omega⟩) (decide_eq_true (mt.2 tk)) fun h' w' st _ => ?_
        exact xsIf_intro (fun _ => hq h' w' st) fun _ => xsIf_t rfl (hq h' w' st)
      · rw [if_neg tk] at hq
        refine xsIf_f (decide_eq_false (fun e => tk (mt.1 e))) ?_
        refine key 65535 false (.inl rfl) (decide_eq_false (fun e => tk (mt.1 e))) fun h' w' st lv' => ?_
        refine xsIf_intro (fun e2 => ?_) fun e2 => xsIf_f rfl ?_
        · have e2 := of_decide_eq_true e2
          rw [if_neg e2] at hq
          exact hq h' w' st
        · have e2 : (lnputw s1 (p.pa + l.length / 8 : Nat) (l.length % 8 : Nat) (guardN 65535 : Nat)).1 = 0 := by simpa using e2
          rw [if_pos e2] at hq
          have sp2 := sp1.say (.inl rfl) (by omega) e2
          exact ih h' _ _ (by simp; omega) w' lv' sp2 fun h3 w3 st3 => hq h3 w3 (st.trans st3)

variable {h : Heap} {s : PmS} {l : List Nat}

theorem gabionref05_retire.c {i : Nat} {B : ByteArray} (hi : i < p.pl) (hB : B.size = 64) (w : RfD F h m s) (lv : Live F h) (sp : SpI p s l)
    (hq : ∀ h', RfD F h' m (sretire p i B (p.ps - l.length) s l).2.1 → Step F h F h' → Q (.int .i64 (sretire p i B (p.ps - l.length) s l).1) h') :
    C Tryz.prog 113 #[.pointer (some ⟨m, 0, none⟩), plV p, .int .i64 (i : Int), .string B] h Q := by
  have := sp.len
  apply gabionref05_retire.ok
  exact gabionref05_table.c sp.ok.b ⟨_, rfl, gabionref05_retire.L2.c hi hB (p.ps - l.length) h s l (by omega) w lv sp hq⟩

theorem ents_small (sp : SpI p s l) : ∀ x ∈ l, x < 1000000 := fun x hx => by
  obtain ⟨k, hk, rfl⟩ := List.getElem_of_mem hx
  have := (entsTo_some _ _ sp.en).2.2.2 k hk
  have hl := sp.ok.l2
  obtain ⟨h1, h2, _⟩ := this
  rw [List.getD_eq_getElem?_getD, List.getElem?_eq_getElem hk] at h1
  have h1 : l[k] = twd s p k % 281474976710656 := h1
  have := (of_decide_eq_true h2).2
  omega

theorem gabionref05_Write.c {i : Int} {B : ByteArray} (w : RfD F h m s) (lv : Live F h) (sp : SpI p s l)
    (hq : ∀ h', RfD F h' m (sWrite p l s i B).2.1 → Step F h F h' → Q (.int .i64 (sWrite p l s i B).1) h') :
    C Tryz.prog 64 #[.pointer (some ⟨m, 0, none⟩), plV p, .int .i64 i, .string B] h Q := by
  apply gabionref05_Write.ok
  unfold sWrite at hq
  refine xsIf_intro (fun e => ?_) fun e => ?_
  · have e : ¬ B.size = 64 := fun h => of_decide_eq_true e (by rw [h]; rfl)
    rw [if_neg e] at hq; exact hq h w (Step.refl _ _)
  · have hB : B.size = 64 := by have := of_decide_eq_false e; omega
    rw [if_pos hB] at hq
    refine xsIf_intro (fun e1 => ?_) fun e1 => xsIf_intro (fun e2 => ?_) fun e2 => ?_
    · have e1 := of_decide_eq_true e1
      rw [if_neg (by omega)] at hq; exact hq h w (Step.refl _ _)
    · have e2 := of_decide_eq_true e2
      rw [if_neg (by omega)] at hq; exact hq h w (Step.refl _ _)
    · have e1 := of_decide_eq_false e1
      have e2 := of_decide_eq_false e2
      rw [if_pos (by omega)] at hq
      obtain ⟨i, rfl⟩ : ∃ k : Nat, i = k := ⟨i.toNat, by omega⟩
      rw [Int.toNat_natCast] at hq
      have hi : i < p.pl := by omega
      obtain ⟨f1, f2⟩ := whN_lt sp.ok sp.len hi
      apply gabionref05_Write.J5.ok
      refine gabionref05_Entries.c w sp fun a cp h1 p1 hr => ⟨_, _, _, _, rfl, xsIf_f rfl (gabionref05_Where.c sp.ok.b sp.len hi hr (ents_small sp) ⟨_, rfl, ?_⟩)⟩
      have w1 := w.keep fun _ _ hk => part_live p1 hk
      have st1 : Step F h F h1 := Step.of_part p1
      refine gabionref04_Put.c w1 (st1.dom lv) fun h2 w2 st2 => ⟨_, rfl, ?_⟩
      unfold swrite at hq
      refine xsIf_intro (fun e => ?_) fun e => ?_
      · have e := of_decide_eq_true e
        rw [if_neg e] at hq
        exact hq h2 w2 (st1.trans st2)
      · have e : (lnput s (whN p l i : Nat) B).1 = 0 := by simpa using e
        rw [if_pos e] at hq
        have sp1 := sp.put f2 f1 hB e
        have nl1 := lnput_nl s (whN p l i : Nat) B
        generalize (lnput s (whN p l i : Nat) B).2 = s1 at hq w2 sp1 nl1
        have mt := media_took (B := B) sp1.w (show whN p l i < s1.nl by omega) hB
        refine gabionref04_Media.c w2 sp1.w (by omega) ⟨_, rfl, ?_⟩
        by_cases tk : took s1 (whN p l i) B = true
        · rw [if_pos tk] at hq
          exact xsIf_t (decide_eq_true (mt.2 tk)) (hq h2 w2 (st1.trans st2))
        · rw [if_neg tk] at hq
          exact xsIf_f (decide_eq_false (fun e => tk (mt.1 e))) (gabionref05_retire.c hi hB w2 (st2.dom (st1.dom lv)) sp1 fun h3 w3 st3 => ⟨_, rfl, hq h3 w3 ((st1.trans st2).trans st3)⟩)

theorem gabionref05_WriteWord.c {i k : Int} {v : Nat} (w : RfD F h m s) (lv : Live F h) (sp : SpI p s l) (hv : v < 18446744073709551616)
    (hq : ∀ h', RfD F h' m (sWriteWord p l s i k v).2.1 → Step F h F h' → Q (.int .i64 (sWriteWord p l s i k v).1) h') :
    C Tryz.prog 65 #[.pointer (some ⟨m, 0, none⟩), plV p, .int .i64 i, .int .i64 k, .int .u64 (v : Nat)] h Q := by
  apply gabionref05_WriteWord.ok
  unfold sWriteWord at hq
  refine xsIf_intro (fun e1 => ?_) fun e1 => xsIf_intro (fun e2 => ?_) fun e2 => ?_
  · have e1 := of_decide_eq_true e1
    rw [if_neg (by omega)] at hq; exact hq h w (Step.refl _ _)
  · have e2 := of_decide_eq_true e2
    rw [if_neg (by omega)] at hq; exact hq h w (Step.refl _ _)
  · have k1 := of_decide_eq_false e1
    have k2 := of_decide_eq_false e2
    rw [if_pos (by omega)] at hq
    apply gabionref05_WriteWord.J3.ok
    refine xsIf_intro (fun e1 => ?_) fun e1 => xsIf_intro (fun e2 => ?_) fun e2 => ?_
    · have e1 := of_decide_eq_true e1
      rw [if_neg (by omega)] at hq; exact hq h w (Step.refl _ _)
    · have e2 := of_decide_eq_true e2
      rw [if_neg (by omega)] at hq; exact hq h w (Step.refl _ _)
    · have e1 := of_decide_eq_false e1
      have e2 := of_decide_eq_false e2
      rw [if_pos (by omega)] at hq
      obtain ⟨i, rfl⟩ : ∃ k : Nat, i = k := ⟨i.toNat, by omega⟩
      obtain ⟨k, rfl⟩ : ∃ j : Nat, k = j := ⟨k.toNat, by omega⟩
      rw [Int.toNat_natCast, Int.toNat_natCast] at hq
      have hi : i < p.pl := by omega
      have hk : k < 8 := by omega
      obtain ⟨f1, f2⟩ := whN_lt sp.ok sp.len hi
      have hr64 : R64 ((v : Nat) : Int) := ⟨by omega, by omega⟩
      apply gabionref05_WriteWord.J5.ok
      refine gabionref05_Entries.c w sp fun a cp h1 p1 hr => ⟨_, _, _, _, rfl, xsIf_f rfl (gabionref05_Where.c sp.ok.b sp.len hi hr (ents_small sp) ⟨_, rfl, ?_⟩)⟩
      have w1 := w.keep fun _ _ hk => part_live p1 hk
      have st1 : Step F h F h1 := Step.of_part p1
      unfold swritew at hq
      refine gabionref04_Get.c w1 sp.w ⟨_, _, rfl, ?_⟩
      have e0 : (lnget s (whN p l i : Nat)).2 = 0 := by rw [lnget_on sp.on f1]
      rw [if_pos e0] at hq
      have hz := lnget_size e0
      refine xsIf_f (decide_eq_false (fun h => h e0)) ?_
      generalize (lnget s (whN p l i : Nat)).1 = was at hq hz
      refine gabionref01_Put.c hv ⟨_, rfl, ?_⟩
      have x1 : IntKind.i64.wrap (8 * (k : Int)) = ((8 * k : Nat) : Int) := by rw [i64_in _ (by omega)]; omega
      have x2 : IntKind.i64.wrap (((8 * k : Nat) : Int) + 8) = ((8 * (k + 1) : Nat) : Int) := by rw [i64_in _ (by omega)]; omega
      rw [x1, x2, cnt8, with_text hz hk hv]
      have z1 : (sext was 0 ((8 * k : Nat) : Int)).size ≤ 64 := by unfold sext; rw [ByteArray.size_extract]; omega
      have z2 : (⟨(putL v 8).toArray⟩ : ByteArray).size = 8 := by rw [bytes_size, putL_length]
      have z3 : (sext was ((8 * (k + 1) : Nat) : Int) (was.size : Int)).size ≤ 64 := by unfold sext; rw [ByteArray.size_extract]; omega
      have hB := withW_size was k v
      refine ⟨by omega, by rw [z2]; omega, by omega, by rw [ByteArray.size_append, z2]; omega, ?_⟩
      refine gabionref04_PutWord.c w1 (st1.dom lv) fun h2 w2 st2 => ⟨_, rfl, ?_⟩
      refine xsIf_intro (fun e => ?_) fun e => ?_
      · have e := of_decide_eq_true e
        rw [if_neg e] at hq
        exact hq h2 w2 (st1.trans st2)
      · have e : (lnputw s (whN p l i : Nat) (k : Nat) (v : Nat)).1 = 0 := by simpa using e
        rw [if_pos e] at hq
        have sp1 := sp.putw f2 f1 hk hr64 e
        have nl1 := lnputw_nl s (whN p l i : Nat) (k : Nat) (v : Nat)
        generalize (lnputw s (whN p l i : Nat) (k : Nat) (v : Nat)).2 = s1 at hq w2 sp1 nl1
        generalize withW was k v = B at hq hB
        have mt := media_took (B := B) sp1.w (show whN p l i < s1.nl by omega) hB
        refine gabionref04_Media.c w2 sp1.w (by omega) ⟨_, rfl, ?_⟩
        by_cases tk : took s1 (whN p l i) B = true
        · rw [if_pos tk] at hq
          exact xsIf_t (decide_eq_true (mt.2 tk)) (hq h2 w2 (st1.trans st2))
        · rw [if_neg tk] at hq
          exact xsIf_f (decide_eq_false (fun e => tk (mt.1 e))) (gabionref05_retire.c hi hB w2 (st2.dom (st1.dom lv)) sp1 fun h3 w3 st3 => ⟨_, rfl, hq h3 w3 ((st1.trans st2).trans st3)⟩)

theorem zero64_eq : (⟨(List.replicate 64 (0 : UInt8)).toArray⟩ : ByteArray) = zero64 := by
  unfold zero64
  have : ∀ n, List.replicate n (0 : UInt8) = Lib.repeatL [UInt8.ofNat 0] n := by
    intro n
    induction n with
    | zero => rfl
    | succ n ih => rw [List.replicate_succ, ih]; rfl
  rw [this]

theorem gabionref05_Format.c (w : RfD F h m s) (lv : Live F h) (ok : PlOk p s.nl) (hq : ∀ h', RfD F h' m (sformat p s).2 → Step F h F h' → Q (.int .i64 (sformat p s).1) h') :
    C Tryz.prog 100 #[.pointer (some ⟨m, 0, none⟩), plV p] h Q := by
  have w0 := w
  obtain ⟨wb, rb, bb, q, w⟩ := w
  apply gabionref05_Format.ok
  have hb := ok.b
  have ht := tblN_le hb
  have hl2 := hb.l2
  have ha := hb.a2
  refine ⟨m, 0, rfl, _, _, _, w.c1, gabionref05_Check.c ⟨_, rfl, ?_⟩⟩
  rw [ok.check]
  refine xsMk_i (by omega) (by omega) (by rw [show cellBytes Tryz.prog 5 = 1 by kernel_rfl]; omega) fun b hbn => ?_
  have zz : zeros Tryz.prog 5 (64 : Int).toNat = byteVals (List.replicate 64 (0 : UInt8)) := by
    rw [zeros_row (z := .int .u8 0) (by kernel_rfl)]
    rfl
  rw [zz]
  refine ⟨List.replicate 64 0, rfl, readsAt_new 5 _, ?_⟩
  rw [zero64_eq]
  refine gabionref05_table.c hb ⟨_, rfl, ?_⟩
  have st0 : Step F h F (upd h b (Obj.cells (byteVals (List.replicate 64 (0 : UInt8))).toArray 5 (0, 0))) := Step.lost hbn _
  have nF : ¬ F b := fun hf => lv b hf hbn
  have w1 : RfD F (upd h b (Obj.cells (byteVals (List.replicate 64 (0 : UInt8))).toArray 5 (0, 0))) m s := w0.keep fun k hk _ => upd_ne fun e => nF (e ▸ hk)
  generalize upd h b (Obj.cells (byteVals (List.replicate 64 (0 : UInt8))).toArray 5 (0, 0)) = h1 at st0 w1
  have loop : ∀ (j k : Nat) (h' : Heap) (s' : PmS), k + j = tblN p + p.pl → RfD F h' m s' → Live F h' → (∀ h'', RfD F h'' m (sfmt p zero64 j k s').2 → Step F h' F h'' → Q (.int .i64 (sfmt p zero64 j k s').1) h'') →
      gabionref05_Format.L5 (some ⟨m, 0, none⟩) 0 zero64 (tblN p : Nat) (k : Int) p.pa p.pl p.ps h' Q := by
    intro j
    induction j with
    | zero =>
      intro k h' s' hk w lv hq
      apply gabionref05_Format.L5.ok
      unfold gabionref05_Format.L5.wp
      rw [i64_in (((tblN p : Nat) : Int) + (p.pl : Int)) (by omega)]
      exact xsIf_f (decide_eq_false (by omega)) (hq h' w (Step.refl _ _))
    | succ j ih =>
      intro k h' s' hk w lv hq
      apply gabionref05_Format.L5.ok
      unfold gabionref05_Format.L5.wp
      rw [i64_in (((tblN p : Nat) : Int) + (p.pl : Int)) (by omega), show IntKind.i64.wrap ((k : Int) + 1) = ((k + 1 : Nat) : Int) by rw [i64_in _ (by omega)]; omega, show IntKind.i64.wrap ((p.pa : Int) + (k : Int)) = ((p.pa + k : Nat) : Int) by rw [i64_in _ (by omega)]; omega]
      refine xsIf_t (decide_eq_true (by omega)) (xsIf_t rfl (gabionref04_Put.c w lv fun h1 w1 st1 => ⟨_, rfl, ?_⟩))
      unfold sfmt at hq
      by_cases e : (lnput s' (p.pa + k : Nat) zero64).1 = 0
      · rw [if_pos e] at hq
        rw [e]
        exact ih (k + 1) h1 _ (by omega) w1 (st1.dom lv) fun h'' w'' st => hq h'' w'' (st1.trans st)
      · rw [if_neg e] at hq
        apply gabionref05_Format.L5.ok
        unfold gabionref05_Format.L5.wp
        exact xsIf_intro (fun _ => xsIf_f (decide_eq_false e) (hq h1 w1 st1)) fun _ => hq h1 w1 st1
  exact loop (tblN p + p.pl) 0 h1 s (by omega) w1 (st0.dom lv) fun h'' w'' st => hq h'' w'' (st0.trans st)
end
end Go.Gb
namespace Go.Gb
open Go.Proofs IntWalk

/-! ## Mixed; LineMixes -/

def mixP (was is0 got : ByteArray) : Prop := was.size = 64 ∧ is0.size = 64 ∧ got.size = 64 ∧ ∀ k, k < 8 → wordAt got k = wordAt was k ∨ wordAt got k = wordAt is0 k

section
variable {h : Heap} {Q : Value → Heap → Prop} {was is0 got : ByteArray}

end

end Go.Gb
namespace Go.Gb
open Go.Proofs IntWalk

/-! ## What the lines of a bank read -/

def rdN (md : Nat → Int) (a : Nat) : ByteArray := lnbytes fun k => (md (8 * a + k)).toNat
def rd (p : Pl) (s : PmS) (l : List Nat) (j : Nat) : ByteArray := rdN s.media (whN p l j)

theorem rdN_congr {f g : Nat → Int} {a : Nat} (h : ∀ k, k < 8 → f (8 * a + k) = g (8 * a + k)) : rdN f a = rdN g a := by
  unfold rdN lnbytes
  rw [textN_congr 8]
  intro k hk
  rw [h k hk]
theorem rdN_size (f : Nat → Int) (a : Nat) : (rdN f a).size = 64 := lnbytes_size _
theorem rdN_eq {f : Nat → Int} {a : Nat} {B : ByteArray} (hB : B.size = 64) (h : ∀ k, k < 8 → f (8 * a + k) = ((wordAt B k : Nat) : Int)) : rdN f a = B := by
  refine Eq.trans ?_ (lnbytes_words B hB)
  unfold rdN lnbytes
  rw [textN_congr 8]
  intro k hk
  rw [h k hk]; omega

theorem wh_ne {p : Pl} {l : List Nat} {i j : Nat} (hi : i < p.pl) (hj : j < p.pl) (h : i ≠ j) : whN p l i ≠ whN p l j := by
  unfold whN
  cases ei : stands l i with
  | none =>
    cases ej : stands l j with
    | none => unfold ownN; dsimp only; omega
    | some k => unfold ownN sparN; dsimp only; omega
  | some k =>
    cases ej : stands l j with
    | none => unfold ownN sparN; dsimp only; omega
    | some k2 =>
      have h1 := (stN_lt _ ei).2
      have h2 := (stN_lt _ ej).2
      unfold sparN
      dsimp only
      intro e
      have : k = k2 := by omega
      subst this
      omega
theorem wh_spar {p : Pl} {l : List Nat} {j : Nat} (hj : j < p.pl) : whN p l j ≠ sparN p l.length := by
  unfold whN
  cases ej : stands l j with
  | none => unfold ownN sparN; dsimp only; omega
  | some k => have := (stN_lt _ ej).1; unfold sparN; dsimp only; omega
theorem wh_snoc {p : Pl} {l : List Nat} {x j : Nat} : whN p (l ++ [x]) j = if x = j + 1 then sparN p l.length else whN p l j := by
  unfold whN
  rw [stands_snoc]
  by_cases e : x = j + 1
  · simp only [if_pos e]
  · simp only [if_neg e]

/-- What a write comes to, by what the lines read. -/
def Out (p : Pl) (i : Nat) (B : ByteArray) (rd0 : Nat → ByteArray) (M : ByteArray → Prop) (r : Int × PmS × List Nat) : Prop :=
  (r.1 = 0 ∧ SpI p r.2.1 r.2.2 ∧ ∀ j, j < p.pl → rd p r.2.1 r.2.2 j = if j = i then B else rd0 j) ∨
  (r.1 = 10 ∧ SpI p r.2.1 r.2.2 ∧ ∀ j, j < p.pl → rd p r.2.1 r.2.2 j = rd0 j) ∨
  (r.1 = 6 ∧ r.2.1.off = true ∧ PmOk r.2.1 ∧ ∀ ks, ∃ l', SpI p (pboot r.2.1 ks) l' ∧ (∀ j, j < p.pl → j ≠ i → rd p (pboot r.2.1 ks) l' j = rd0 j) ∧ M (rd p (pboot r.2.1 ks) l' i))

section
variable {p : Pl} {s : PmS} {l : List Nat}

/-- A line that is put, as it reads. -/
theorem put_rd (o : On s) {a c : Nat} {B : ByteArray} (ha : a < s.nl) (hc : c < s.nl) (hB : B.size = 64) (h0 : (lnput s (a : Int) B).1 = 0) : rdN (lnput s (a : Int) B).2.media c = if c = a ∧ s.bad a = false then B else rdN s.media c := by
  obtain ⟨_, m⟩ := o.put0 ha hB h0
  by_cases e : c = a ∧ s.bad a = false
  · rw [if_pos e]
    refine rdN_eq hB fun k hk => ?_
    rw [m _ (by omega), if_pos ⟨by omega, e.2⟩, show (8 * c + k) % 8 = k by omega]
  · rw [if_neg e]
    refine rdN_congr fun k hk => ?_
    rw [m _ (by omega), if_neg (fun h => e ⟨by omega, h.2⟩)]
theorem put_boot_rd (o : On s) {a c : Nat} {B : ByteArray} (ha : a < s.nl) (hc : c < s.nl) (hne : c ≠ a) (hB : B.size = 64) (h0 : (lnput s (a : Int) B).1 ≠ 0) (ks : List Bool) : rdN (pboot (lnput s (a : Int) B).2 ks).media c = rdN s.media c := by
  obtain ⟨_, _, h⟩ := o.put6 ha hB h0
  obtain ⟨_, m⟩ := h ks
  refine rdN_congr fun k hk => ?_
  rcases m (8 * c + k) (by omega) with h | h
  · exact h
  · omega
theorem putw_rd (o : On s) {a k0 c : Nat} {v : Int} (ha : a < s.nl) (hk0 : k0 < 8) (hc : c < s.nl) (hne : c ≠ a) (h0 : (lnputw s (a : Int) (k0 : Int) v).1 = 0) : rdN (lnputw s (a : Int) (k0 : Int) v).2.media c = rdN s.media c := by
  obtain ⟨_, m⟩ := o.putw0 ha hk0 h0
  refine rdN_congr fun k hk => ?_
  rw [m _ (by omega), if_neg (fun h => by omega)]
theorem putw_boot_rd (o : On s) {a k0 c : Nat} {v : Int} (ha : a < s.nl) (hk0 : k0 < 8) (hc : c < s.nl) (hne : c ≠ a) (h0 : (lnputw s (a : Int) (k0 : Int) v).1 ≠ 0) (ks : List Bool) : rdN (pboot (lnputw s (a : Int) (k0 : Int) v).2 ks).media c = rdN s.media c := by
  obtain ⟨_, _, h⟩ := o.putw6 ha hk0 h0
  obtain ⟨_, m⟩ := h ks
  refine rdN_congr fun k hk => ?_
  rcases m (8 * c + k) (by omega) with h | h
  · exact h
  · omega

/-- A line that didn't take it is as it was. -/
theorem not_took (o : On s) (ok : PmOk s) {a : Nat} {B : ByteArray} (ha : a < s.nl) (hB : B.size = 64) (h0 : (lnput s (a : Int) B).1 = 0) (ht : ¬ took (lnput s (a : Int) B).2 a B = true) : s.bad a = true := by
  cases e : s.bad a with
  | true => rfl
  | false =>
    have h := put_rd o ha ha hB h0
    rw [if_pos ⟨rfl, e⟩] at h
    exact absurd ((media_took (ok.put _ _) (by rw [lnput_nl]; exact ha) hB).1 h) ht

theorem retire_out {i : Nat} {B : ByteArray} {rd0 : Nat → ByteArray} (hi : i < p.pl) (hB : B.size = 64) : ∀ (m : Nat) (s : PmS) (l : List Nat), l.length + m = p.ps → SpI p s l → (∀ j, j < p.pl → rd p s l j = rd0 j) →
    Out p i B rd0 (fun x => x = rd0 i ∨ x = B) (sretire p i B m s l)
  | 0, s, l, _, w, h => .inr (.inl ⟨rfl, w, h⟩)
  | m + 1, s, l, hm, w, hr => by
    have hll : l.length < p.ps := by omega
    obtain ⟨f1, f2⟩ := spar_fit w.ok hll
    have wl : ∀ {j}, j < p.pl → whN p l j < s.nl ∧ p.pa + tblN p ≤ whN p l j := fun hj => whN_lt w.ok w.len hj
    unfold sretire
    by_cases h0 : (lnput s (sparN p l.length : Nat) B).1 = 0
    · rw [if_pos h0]
      have w1 := w.put f2 f1 hB h0
      have r1 : ∀ j, j < p.pl → rd p (lnput s (sparN p l.length : Nat) B).2 l j = rd0 j := fun j hj => by
        unfold rd
        rw [put_rd w.on f1 (wl hj).1 hB h0, if_neg (fun h => wh_spar hj h.1)]
        exact hr j hj
      have nl1 := lnput_nl s (sparN p l.length : Nat) B
      generalize (lnput s (sparN p l.length : Nat) B).2 = s1 at w1 nl1 r1
      obtain ⟨g1, g2, g3, g4⟩ := say_at w1.ok hll
      have h8 : l.length % 8 < 8 := Nat.mod_lt _ (by omega)
      have far : ∀ {c}, p.pa + tblN p ≤ c → c ≠ p.pa + l.length / 8 := fun h e => by omega
      by_cases ht : took s1 (sparN p l.length) B = true
      · rw [if_pos ht]
        have hx : i + 1 = 65535 ∨ (1 ≤ i + 1 ∧ i + 1 ≤ p.pl) := .inr ⟨by omega, by omega⟩
        have hsp : rdN s1.media (sparN p l.length) = B := (media_took w1.w (by omega) hB).2 ht
        by_cases h2 : (lnputw s1 (p.pa + l.length / 8 : Nat) (l.length % 8 : Nat) (guardN (i + 1) : Nat)).1 = 0
        · rw [if_pos h2]
          refine .inl ⟨h2, w1.say hx hll h2, fun j hj => ?_⟩
          unfold rd
          rw [wh_snoc]
          by_cases e : j = i
          · rw [if_pos (by omega), if_pos e, putw_rd w1.on g1 h8 (by omega) (far f2) h2]; exact hsp
          · rw [if_neg (by omega), if_neg e, putw_rd w1.on g1 h8 (by rw [nl1]; exact (wl hj).1) (far (wl hj).2) h2]; exact r1 j hj
        · have h6 := w1.on.putw6 g1 h8 h2
          have hlt := guardN_lt (i + 1)
          refine .inr (.inr ⟨h6.1, h6.2.1, w1.w.putw _ _ ⟨by omega, by omega⟩, fun ks => ?_⟩)
          rcases w1.boot_say hx hll h2 ks with hs | hs
          · refine ⟨l, hs, fun j hj _ => ?_, .inl ?_⟩
            · unfold rd
              rw [putw_boot_rd w1.on g1 h8 (by rw [nl1]; exact (wl hj).1) (far (wl hj).2) h2]; exact r1 j hj
            · unfold rd
              rw [putw_boot_rd w1.on g1 h8 (by rw [nl1]; exact (wl hi).1) (far (wl hi).2) h2]; exact r1 i hi
          · refine ⟨_, hs, fun j hj hne => ?_, .inr ?_⟩
            · show rdN (pboot (lnputw s1 (p.pa + l.length / 8 : Nat) (l.length % 8 : Nat) (guardN (i + 1) : Nat)).2 ks).media (whN p (l ++ [i + 1]) j) = _
              rw [wh_snoc, if_neg (by omega), putw_boot_rd w1.on g1 h8 (by rw [nl1]; exact (wl hj).1) (far (wl hj).2) h2]; exact r1 j hj
            · show rdN (pboot (lnputw s1 (p.pa + l.length / 8 : Nat) (l.length % 8 : Nat) (guardN (i + 1) : Nat)).2 ks).media (whN p (l ++ [i + 1]) i) = _
              rw [wh_snoc, if_pos rfl, putw_boot_rd w1.on g1 h8 (by omega) (far f2) h2]; exact hsp
      · rw [if_neg ht]
        have hx : (65535 : Nat) = 65535 ∨ (1 ≤ (65535 : Nat) ∧ (65535 : Nat) ≤ p.pl) := .inl rfl
        have pl2 := w.ok.l2
        by_cases h2 : (lnputw s1 (p.pa + l.length / 8 : Nat) (l.length % 8 : Nat) (guardN 65535 : Nat)).1 = 0
        · rw [if_pos h2]
          refine retire_out hi hB m _ (l ++ [65535]) (by simp; omega) (w1.say hx hll h2) fun j hj => ?_
          unfold rd
          rw [wh_snoc, if_neg (by omega), putw_rd w1.on g1 h8 (by rw [nl1]; exact (wl hj).1) (far (wl hj).2) h2]; exact r1 j hj
        · rw [if_neg h2]
          have h6 := w1.on.putw6 g1 h8 h2
          have hlt := guardN_lt 65535
          refine .inr (.inr ⟨h6.1, h6.2.1, w1.w.putw _ _ ⟨by omega, by omega⟩, fun ks => ?_⟩)
          have both : ∀ j, j < p.pl → rdN (pboot (lnputw s1 (p.pa + l.length / 8 : Nat) (l.length % 8 : Nat) (guardN 65535 : Nat)).2 ks).media (whN p l j) = rd0 j := fun j hj => by
            rw [putw_boot_rd w1.on g1 h8 (by rw [nl1]; exact (wl hj).1) (far (wl hj).2) h2]; exact r1 j hj
          rcases w1.boot_say hx hll h2 ks with hs | hs
          · exact ⟨l, hs, fun j hj _ => both j hj, .inl (both i hi)⟩
          · refine ⟨_, hs, fun j hj _ => ?_, .inl ?_⟩
            · show rdN _ (whN p (l ++ [65535]) j) = _
              rw [wh_snoc, if_neg (by omega)]; exact both j hj
            · show rdN _ (whN p (l ++ [65535]) i) = _
              rw [wh_snoc, if_neg (by omega)]; exact both i hi
    · rw [if_neg h0]
      have h6 := w.on.put6 f1 hB h0
      refine .inr (.inr ⟨h6.1, h6.2.1, w.w.put _ _, fun ks => ⟨l, w.boot_put f2 f1 hB h0 ks, fun j hj _ => ?_, .inl ?_⟩⟩)
      · unfold rd
        rw [put_boot_rd w.on f1 (wl hj).1 (wh_spar hj) hB h0]; exact hr j hj
      · unfold rd
        rw [put_boot_rd w.on f1 (wl hi).1 (wh_spar hi) hB h0]; exact hr i hi

theorem Out.weaken {i : Nat} {B : ByteArray} {rd0 : Nat → ByteArray} {M M' : ByteArray → Prop} {r : Int × PmS × List Nat} (o : Out p i B rd0 M r) (h : ∀ x, M x → M' x) : Out p i B rd0 M' r := by
  rcases o with o | o | ⟨a, b, c, d⟩
  · exact .inl o
  · exact .inr (.inl o)
  · refine .inr (.inr ⟨a, b, c, fun ks => ?_⟩)
    obtain ⟨l', x, y, z⟩ := d ks
    exact ⟨l', x, y, h _ z⟩

theorem swrite_out (w : SpI p s l) {i : Nat} {B : ByteArray} (hi : i < p.pl) (hB : B.size = 64) : Out p i B (rd p s l) (fun x => mixP (rd p s l i) B x) (swrite p l s i B) := by
  have wl : ∀ {j}, j < p.pl → whN p l j < s.nl ∧ p.pa + tblN p ≤ whN p l j := fun hj => whN_lt w.ok w.len hj
  obtain ⟨f1, f2⟩ := wl hi
  have hlen := w.len
  have mixr : ∀ x, x = rd p s l i ∨ x = B → mixP (rd p s l i) B x := fun x hx => by
    rcases hx with rfl | rfl
    · exact ⟨rdN_size _ _, hB, rdN_size _ _, fun k _ => .inl rfl⟩
    · exact ⟨rdN_size _ _, hB, hB, fun k _ => .inr rfl⟩
  unfold swrite
  by_cases h0 : (lnput s (whN p l i : Nat) B).1 = 0
  · rw [if_pos h0]
    have w1 := w.put f2 f1 hB h0
    by_cases ht : took (lnput s (whN p l i : Nat) B).2 (whN p l i) B = true
    · rw [if_pos ht]
      refine .inl ⟨rfl, w1, fun j hj => ?_⟩
      by_cases e : j = i
      · rw [if_pos e, e]
        exact (media_took w1.w (by rw [lnput_nl]; exact f1) hB).2 ht
      · rw [if_neg e]
        unfold rd
        rw [put_rd w.on f1 (wl hj).1 hB h0, if_neg (fun h => wh_ne hj hi e h.1)]
    · rw [if_neg ht]
      have hbad := not_took w.on w.w f1 hB h0 ht
      refine (retire_out hi hB (p.ps - l.length) _ l (by omega) w1 fun j hj => ?_).weaken mixr
      unfold rd
      rw [put_rd w.on f1 (wl hj).1 hB h0, if_neg (fun h => by rw [hbad] at h; cases h.2)]
  · rw [if_neg h0]
    have h6 := w.on.put6 f1 hB h0
    refine .inr (.inr ⟨h6.1, h6.2.1, w.w.put _ _, fun ks => ⟨l, w.boot_put f2 f1 hB h0 ks, fun j hj hne => ?_, ?_⟩⟩)
    · unfold rd
      rw [put_boot_rd w.on f1 (wl hj).1 (wh_ne hj hi hne) hB h0]
    · obtain ⟨o, m⟩ := h6.2.2 ks
      have ok6 := (w.w.put (whN p l i : Nat) B).boot ks
      have hv : ∀ w', ((pboot (lnput s (whN p l i : Nat) B).2 ks).media w').toNat < 18446744073709551616 ∧ 0 ≤ (pboot (lnput s (whN p l i : Nat) B).2 ks).media w' := fun w' => by
        have := ok6.media w'; unfold R64 at this; omega
      have hv0 : ∀ w', (s.media w').toNat < 18446744073709551616 := fun w' => by have := w.w.media w'; unfold R64 at this; omega
      refine ⟨rdN_size _ _, hB, rdN_size _ _, fun k hk => ?_⟩
      unfold rd rdN
      rw [wordAt_text hk (hv _).1, wordAt_text hk (hv0 _)]
      rcases m (8 * whN p l i + k) (by omega) with h | ⟨_, _, h⟩
      · left; rw [h]
      · right; rw [h, show (8 * whN p l i + k) % 8 = k by omega]; omega

theorem swritew_out (w : SpI p s l) {i k v : Nat} (hi : i < p.pl) (hk : k < 8) (hv : v < 18446744073709551616) : Out p i (withW (rd p s l i) k v) (rd p s l) (fun x => x = rd p s l i ∨ x = withW (rd p s l i) k v) (swritew p l s i k v) := by
  have wl : ∀ {j}, j < p.pl → whN p l j < s.nl ∧ p.pa + tblN p ≤ whN p l j := fun hj => whN_lt w.ok w.len hj
  obtain ⟨f1, f2⟩ := wl hi
  have hlen := w.len
  have hr : R64 ((v : Nat) : Int) := ⟨by omega, by omega⟩
  have hB := withW_size (rd p s l i) k v
  unfold swritew
  rw [lnget_on w.on f1, if_pos rfl]
  show Out p i (withW (rd p s l i) k v) (rd p s l) _ (if (lnputw s (whN p l i : Nat) (k : Nat) (v : Nat)).1 = 0 then
      (if took (lnputw s (whN p l i : Nat) (k : Nat) (v : Nat)).2 (whN p l i) (withW (rd p s l i) k v) = true then (0, (lnputw s (whN p l i : Nat) (k : Nat) (v : Nat)).2, l)
        else sretire p i (withW (rd p s l i) k v) (p.ps - l.length) (lnputw s (whN p l i : Nat) (k : Nat) (v : Nat)).2 l)
    else ((lnputw s (whN p l i : Nat) (k : Nat) (v : Nat)).1, (lnputw s (whN p l i : Nat) (k : Nat) (v : Nat)).2, l))
  have hv0 : ∀ w', (s.media w').toNat < 18446744073709551616 ∧ s.media w' = (((s.media w').toNat : Nat) : Int) := fun w' => by have := w.w.media w'; unfold R64 at this; omega
  have wd : ∀ j, j < 8 → wordAt (rd p s l i) j = (s.media (8 * whN p l i + j)).toNat := fun j hj => wordAt_text hj (hv0 _).1
  have wb : ∀ j, j < 8 → wordAt (withW (rd p s l i) k v) j = if j = k then v else wordAt (rd p s l i) j := fun j hj => wordAt_text hj (by split; exact hv; exact wordAt_lt _ _)
  by_cases h0 : (lnputw s (whN p l i : Nat) (k : Nat) (v : Nat)).1 = 0
  · rw [if_pos h0]
    have w1 := w.putw f2 f1 hk hr h0
    obtain ⟨o, m⟩ := w.on.putw0 f1 hk h0
    by_cases ht : took (lnputw s (whN p l i : Nat) (k : Nat) (v : Nat)).2 (whN p l i) (withW (rd p s l i) k v) = true
    · rw [if_pos ht]
      refine .inl ⟨rfl, w1, fun j hj => ?_⟩
      by_cases e : j = i
      · rw [if_pos e, e]
        exact (media_took w1.w (by rw [lnputw_nl]; exact f1) hB).2 ht
      · rw [if_neg e]
        unfold rd
        rw [putw_rd w.on f1 hk (wl hj).1 (wh_ne hj hi e) h0]
    · rw [if_neg ht]
      have hbad : s.bad (whN p l i) = true := by
        cases e : s.bad (whN p l i) with
        | true => rfl
        | false =>
          refine absurd ((media_took w1.w (by rw [lnputw_nl]; exact f1) hB).1 ?_) ht
          refine rdN_eq hB fun j hj => ?_
          rw [m _ (by omega), wb j hj]
          by_cases ej : j = k
          · rw [if_pos ⟨by omega, e⟩, if_pos ej]
          · rw [if_neg (fun h => by omega), if_neg ej, wd j hj]; exact (hv0 _).2
      refine retire_out hi hB (p.ps - l.length) _ l (by omega) w1 fun j hj => ?_
      unfold rd
      refine rdN_congr fun q hq => ?_
      have := (wl hj).1
      rw [m _ (by omega), if_neg (fun h => by rw [hbad] at h; cases h.2)]
  · rw [if_neg h0]
    have h6 := w.on.putw6 f1 hk h0
    refine .inr (.inr ⟨h6.1, h6.2.1, w.w.putw _ _ hr, fun ks => ⟨l, w.boot_putw f2 f1 hk hr h0 ks, fun j hj hne => ?_, ?_⟩⟩)
    · unfold rd
      rw [putw_boot_rd w.on f1 hk (wl hj).1 (wh_ne hj hi hne) h0]
    · obtain ⟨o, m⟩ := h6.2.2 ks
      have hk8 := m (8 * whN p l i + k) (by omega)
      have oth : ∀ j, j < 8 → j ≠ k → (pboot (lnputw s (whN p l i : Nat) (k : Nat) (v : Nat)).2 ks).media (8 * whN p l i + j) = s.media (8 * whN p l i + j) := fun j hj hne => by
        rcases m (8 * whN p l i + j) (by omega) with h | ⟨h, _⟩
        · exact h
        · omega
      rcases hk8 with h | ⟨_, _, h⟩
      · left
        unfold rd
        refine rdN_congr fun j hj => ?_
        by_cases ej : j = k
        · rw [ej]; exact h
        · exact oth j hj ej
      · right
        refine rdN_eq hB fun j hj => ?_
        rw [wb j hj]
        by_cases ej : j = k
        · rw [if_pos ej, ej]; exact h
        · rw [if_neg ej, wd j hj, oth j hj ej]; exact (hv0 _).2
end
end Go.Gb
namespace Go.Gb
open Go.Proofs IntWalk

/-! ## ring, pure -/

structure RPl where
  pa : Nat
  pl : Nat
  ps : Nat
  psi : Nat
def RPl.bk (p : RPl) : Pl := ⟨p.pa, p.pl + 2, p.ps⟩

structure Gp where
  s0 : Int
  s1 : Int
  s2 : Int
structure RS where
  s : PmS
  l : List Nat
  g : Gp
  n : Nat

structure Gp.ok (g : Gp) (pl : Nat) : Prop where
  r : rightP g.s0 g.s1 pl
  l : 0 ≤ g.s2
  h : g.s2 < 4294967296
def Gp.pk (g : Gp) : Nat := (Gb.pk g.s0 g.s1 g.s2).toNat
def Gp.slot (g : Gp) (pl i : Nat) : Nat := (slotE g.s0 g.s1 pl i).toNat
def Gp.next (g : Gp) (pl : Nat) : Gp := ⟨(nextS g.s0 g.s1 g.s2 pl).1, (nextS g.s0 g.s1 g.s2 pl).2.1, (nextS g.s0 g.s1 g.s2 pl).2.2.1⟩
def Gp.src (g : Gp) (pl : Nat) : Nat := (nextS g.s0 g.s1 g.s2 pl).2.2.2.1.toNat
def Gp.dst (g : Gp) (pl : Nat) : Nat := (nextS g.s0 g.s1 g.s2 pl).2.2.2.2.toNat

theorem pk_lt {s0 s1 s2 : Int} (h0 : 0 ≤ s2) (h1 : s2 < 4294967296) : 0 ≤ pk s0 s1 s2 ∧ pk s0 s1 s2 < 18446744073709551616 := by unfold pk; omega
theorem Gp.pk_int (g : Gp) (h0 : 0 ≤ g.s2) (h1 : g.s2 < 4294967296) : ((g.pk : Nat) : Int) = Gb.pk g.s0 g.s1 g.s2 := by
  have := pk_lt (s0 := g.s0) (s1 := g.s1) h0 h1
  unfold Gp.pk; omega
theorem Gp.pk_lt {g : Gp} {pl : Nat} (o : g.ok pl) : g.pk < 18446744073709551616 := by
  have := Gb.pk_lt (s0 := g.s0) (s1 := g.s1) o.l o.h
  unfold Gp.pk; omega

theorem Gp.slot_at {g : Gp} {pl i : Nat} (o : g.ok pl) (hi : i < pl) : ((g.slot pl i : Nat) : Int) = slotE g.s0 g.s1 pl i ∧ g.slot pl i ≤ pl ∧ ((g.slot pl i : Nat) : Int) ≠ g.s1 ∧ lineE g.s0 g.s1 pl (g.slot pl i : Nat) = i := by
  have h := lineE_slotE o.r (i := (i : Int)) (by omega) (by omega)
  have e : ((g.slot pl i : Nat) : Int) = slotE g.s0 g.s1 pl i := by unfold Gp.slot; omega
  rw [e]
  exact ⟨rfl, by unfold Gp.slot; omega, h.2.2.2, h.1⟩
theorem Gp.slot_inj {g : Gp} {pl i j : Nat} (o : g.ok pl) (hi : i < pl) (hj : j < pl) (e : g.slot pl i = g.slot pl j) : i = j := by
  have h1 := (Gp.slot_at o hi).2.2.2
  have h2 := (Gp.slot_at o hj).2.2.2
  rw [e, h2] at h1
  omega

/-- A move: from the slot before the gap to the gap. -/
theorem Gp.move {g : Gp} {pl : Nat} (o : g.ok pl) : (g.next pl).ok pl ∧ ((g.dst pl : Nat) : Int) = g.s1 ∧ g.dst pl ≤ pl ∧ g.src pl ≤ pl ∧ g.src pl ≠ g.dst pl ∧ ((g.src pl : Nat) : Int) = (g.next pl).s1 ∧ (g.next pl).s2 = IntKind.u32.wrap (g.s2 + 1) ∧
    ∀ i, i < pl → (g.next pl).slot pl i = if g.slot pl i = g.src pl then g.dst pl else g.slot pl i := by
  obtain ⟨t0, t1, e, hr, hne, hm, _, _⟩ := nextS_move (s2 := g.s2) o.r
  have hr' := hr
  have ho := o.r
  unfold rightP at hr' ho
  have e1 : g.next pl = ⟨t0, t1, IntKind.u32.wrap (g.s2 + 1)⟩ := by unfold Gp.next; rw [e]
  have e2 : g.src pl = t1.toNat := by unfold Gp.src; rw [e]
  have e3 : g.dst pl = g.s1.toNat := by unfold Gp.dst; rw [e]
  have hw : 0 ≤ IntKind.u32.wrap (g.s2 + 1) ∧ IntKind.u32.wrap (g.s2 + 1) < 4294967296 := by rw [u32_w]; omega
  have ok : (g.next pl).ok pl := by rw [e1]; exact ⟨hr, hw.1, hw.2⟩
  refine ⟨ok, by omega, by omega, by omega, by omega, by rw [e1]; show ((g.src pl : Nat) : Int) = t1; omega, by rw [e1], fun i hi => ?_⟩
  obtain ⟨a1, a2, a3, a4⟩ := Gp.slot_at o hi
  have b1 := Gp.slot_at ok hi
  generalize hq : g.slot pl i = q at a1 a2 a3 a4
  rw [e2, e3]
  have hs : ∀ q' : Nat, q' ≤ pl → (q' : Int) ≠ t1 → lineE t0 t1 pl q' = i → (g.next pl).slot pl i = q' := fun q' h1 h2 h3 => by
    have := (slotE_lineE hr (p := (q' : Int)) (by omega) (by omega) h2).1
    rw [h3] at this
    unfold Gp.slot
    rw [e1]
    show (slotE t0 t1 pl i).toNat = q'
    omega
  by_cases h : q = t1.toNat
  · rw [if_pos h]
    refine hs _ (by omega) (by omega) ?_
    have := hm g.s1 (by omega) (by omega)
    rw [if_neg (fun h => hne h.symm), if_pos rfl] at this
    rw [show ((g.s1.toNat : Nat) : Int) = g.s1 by omega, this, ← a4, show (q : Int) = t1 by omega]
  · rw [if_neg h]
    refine hs _ a2 (by omega) ?_
    have := hm (q : Int) (by omega) (by omega)
    rw [if_neg (by omega), if_neg a3] at this
    rw [this, a4]

noncomputable def rmove2 (x : RS) (g' : Gp) (b : Int × PmS × List Nat) : Int × RS := if b.1 = 0 then (0, ⟨b.2.1, b.2.2, g', 0⟩) else (b.1, ⟨b.2.1, b.2.2, x.g, x.n⟩)
noncomputable def rmove1 (p : RPl) (x : RS) (a : Int × PmS × List Nat) : Int × RS :=
  if a.1 = 0 then rmove2 x (x.g.next p.pl) (swritew p.bk a.2.2 a.2.1 (p.pl + 1) 0 (x.g.next p.pl).pk) else (a.1, ⟨a.2.1, a.2.2, x.g, x.n⟩)
/-- The region moves on. -/
noncomputable def rmove (p : RPl) (x : RS) : Int × RS := rmove1 p x (swrite p.bk x.l x.s (x.g.dst p.pl) (rd p.bk x.s x.l (x.g.src p.pl)))

noncomputable def rput2 (x : RS) (r : Int × PmS × List Nat) : Int × RS := (r.1, ⟨r.2.1, r.2.2, x.g, if r.1 = 0 then x.n + 1 else x.n⟩)
noncomputable def rput (p : RPl) (f : PmS → List Nat → Nat → Int × PmS × List Nat) (x : RS) (i : Nat) : Int × RS := rput2 x (f x.s x.l (x.g.slot p.pl i))
/-- A line's slot is written, perhaps behind a move. -/
noncomputable def rwrite (p : RPl) (f : PmS → List Nat → Nat → Int × PmS × List Nat) (x : RS) (i : Nat) : Int × RS :=
  if p.psi ≤ x.n then (if (rmove p x).1 = 0 then rput p f (rmove p x).2 i else rmove p x) else rput p f x i

/-- What a line of the region reads. -/
def rr (p : RPl) (x : RS) (j : Nat) : ByteArray := rd p.bk x.s x.l (x.g.slot p.pl j)

structure RgI (p : RPl) (x : RS) : Prop where
  sp : SpI p.bk x.s x.l
  g : x.g.ok p.pl
  reg : wordAt (rd p.bk x.s x.l (p.pl + 1)) 0 = x.g.pk
  l1 : 1 ≤ p.pl
  l2 : p.pl ≤ 1024
  q1 : 1 ≤ p.psi
  q2 : p.psi ≤ 65535
  n : x.n ≤ p.psi

theorem bk_pl (p : RPl) : p.bk.pl = p.pl + 2 := rfl

/-- Another state of the same region: the lines that count are as they were. -/
theorem RgI.keep {p : RPl} {x x' : RS} (w : RgI p x) (sp : SpI p.bk x'.s x'.l) (hg : x'.g = x.g) (hn : x'.n ≤ p.psi) (hreg : rd p.bk x'.s x'.l (p.pl + 1) = rd p.bk x.s x.l (p.pl + 1)) : RgI p x' :=
  ⟨sp, by rw [hg]; exact w.g, by rw [hreg, hg]; exact w.reg, w.l1, w.l2, w.q1, w.q2, hn⟩

def MOut (p : RPl) (x : RS) (r : Int × RS) : Prop :=
  (r.1 = 0 ∧ RgI p r.2 ∧ (∀ j, j < p.pl → rr p r.2 j = rr p x j) ∧ r.2.n = 0 ∧ r.2.g = x.g.next p.pl) ∨
  (r.1 = 10 ∧ RgI p r.2 ∧ (∀ j, j < p.pl → rr p r.2 j = rr p x j) ∧ r.2.n = x.n ∧ r.2.g = x.g) ∨
  (r.1 = 6 ∧ r.2.s.off = true ∧ PmOk r.2.s ∧ ∀ ks, ∃ l' g', RgI p ⟨pboot r.2.s ks, l', g', 0⟩ ∧ ∀ j, j < p.pl → rr p ⟨pboot r.2.s ks, l', g', 0⟩ j = rr p x j)

theorem wordAt_withW {b : ByteArray} {v : Nat} (hv : v < 18446744073709551616) : wordAt (withW b 0 v) 0 = v := by
  have := wordAt_text (f := fun j => if j = 0 then v else wordAt b j) (k := 0) (by omega) (by rw [if_pos rfl]; exact hv)
  rw [if_pos rfl] at this
  exact this

theorem rmove_out {p : RPl} {x : RS} (w : RgI p x) : MOut p x (rmove p x) := by
  obtain ⟨ok, d1, d2, d3, d4, d5, _, mv⟩ := Gp.move w.g
  have hB := rdN_size x.s.media (whN p.bk x.l (x.g.src p.pl))
  have o := swrite_out w.sp (i := x.g.dst p.pl) (B := rd p.bk x.s x.l (x.g.src p.pl)) (by rw [bk_pl]; omega) hB
  have hn0 : (0 : Nat) ≤ p.psi := Nat.zero_le _
  unfold rmove
  generalize swrite p.bk x.l x.s (x.g.dst p.pl) (rd p.bk x.s x.l (x.g.src p.pl)) = a at o
  unfold rmove1
  have sl : ∀ j, j < p.pl → x.g.slot p.pl j < p.bk.pl ∧ x.g.slot p.pl j ≠ x.g.dst p.pl ∧ x.g.slot p.pl j ≠ p.pl + 1 := fun j hj => by
    have := Gp.slot_at w.g hj
    rw [bk_pl]; exact ⟨by omega, by omega, by omega⟩
  have rg : p.pl + 1 < p.bk.pl ∧ p.pl + 1 ≠ x.g.dst p.pl := by rw [bk_pl]; omega
  rcases o with ⟨e, sp, m⟩ | ⟨e, sp, m⟩ | ⟨e, off, pok, m⟩
  · rw [if_pos e]
    have hreg : rd p.bk a.2.1 a.2.2 (p.pl + 1) = rd p.bk x.s x.l (p.pl + 1) := by rw [m _ rg.1, if_neg rg.2]
    have hl : ∀ j, j < p.pl → rd p.bk a.2.1 a.2.2 (x.g.slot p.pl j) = rr p x j := fun j hj => by rw [m _ (sl j hj).1, if_neg (sl j hj).2.1]; rfl
    have hdst : rd p.bk a.2.1 a.2.2 (x.g.dst p.pl) = rd p.bk x.s x.l (x.g.src p.pl) := by rw [m _ (by rw [bk_pl]; omega), if_pos rfl]
    have o2 := swritew_out sp (i := p.pl + 1) (k := 0) (v := (x.g.next p.pl).pk) rg.1 (by omega) (Gp.pk_lt ok)
    have w0 : RgI p ⟨a.2.1, a.2.2, x.g, x.n⟩ := w.keep sp rfl w.n hreg
    generalize a.2.1 = s1 at sp hreg hl hdst o2 w0
    generalize a.2.2 = l1 at sp hreg hl hdst o2 w0
    generalize swritew p.bk l1 s1 (p.pl + 1) 0 (x.g.next p.pl).pk = b at o2
    unfold rmove2
    /- the lines behind the move -/
    have after : ∀ (s' : PmS) (l' : List Nat), (∀ j, j < p.bk.pl → j ≠ p.pl + 1 → rd p.bk s' l' j = rd p.bk s1 l1 j) → ∀ j, j < p.pl → rd p.bk s' l' ((x.g.next p.pl).slot p.pl j) = rr p x j := fun s' l' hh j hj => by
      rw [mv j hj]
      by_cases e : x.g.slot p.pl j = x.g.src p.pl
      · rw [if_pos e, hh _ (by rw [bk_pl]; omega) (by omega), hdst, ← e]; rfl
      · rw [if_neg e, hh _ (sl j hj).1 (sl j hj).2.2]; exact hl j hj
    have newreg : ∀ (s' : PmS) (l' : List Nat) (n : Nat), n ≤ p.psi → SpI p.bk s' l' → rd p.bk s' l' (p.pl + 1) = withW (rd p.bk s1 l1 (p.pl + 1)) 0 (x.g.next p.pl).pk → RgI p ⟨s', l', x.g.next p.pl, n⟩ := fun s' l' n hn sp' e' =>
      ⟨sp', ok, by show wordAt (rd p.bk s' l' (p.pl + 1)) 0 = _; rw [e', wordAt_withW (Gp.pk_lt ok)], w.l1, w.l2, w.q1, w.q2, hn⟩
    rcases o2 with ⟨e2, sp2, m2⟩ | ⟨e2, sp2, m2⟩ | ⟨e2, off2, pok2, m2⟩
    · rw [if_pos e2]
      refine .inl ⟨rfl, newreg _ _ _ hn0 sp2 (by rw [m2 _ rg.1, if_pos rfl]), after _ _ fun j hj hne => by rw [m2 j hj, if_neg hne], rfl, rfl⟩
    · rw [if_neg (by omega)]
      exact .inr (.inl ⟨e2, w0.keep sp2 rfl w.n (m2 _ rg.1), fun j hj => (m2 _ (sl j hj).1).trans (hl j hj), rfl, rfl⟩)
    · rw [if_neg (by omega)]
      refine .inr (.inr ⟨e2, off2, pok2, fun ks => ?_⟩)
      obtain ⟨l', sp', m', y⟩ := m2 ks
      rcases y with y | y
      · exact ⟨l', x.g, w0.keep sp' rfl hn0 y, fun j hj => (m' _ (sl j hj).1 (sl j hj).2.2).trans (hl j hj)⟩
      · exact ⟨l', x.g.next p.pl, newreg _ _ _ hn0 sp' y, after _ _ m'⟩
  · rw [if_neg (by omega)]
    exact .inr (.inl ⟨e, w.keep sp rfl w.n (m _ rg.1), fun j hj => m _ (sl j hj).1, rfl, rfl⟩)
  · rw [if_neg (by omega)]
    refine .inr (.inr ⟨e, off, pok, fun ks => ?_⟩)
    obtain ⟨l', sp', m', -⟩ := m ks
    exact ⟨l', x.g, w.keep sp' rfl hn0 (m' _ rg.1 rg.2), fun j hj => m' _ (sl j hj).1 (sl j hj).2.1⟩

def ROut (p : RPl) (i : Nat) (B : ByteArray) (rd0 : Nat → ByteArray) (M : ByteArray → Prop) (r : Int × RS) : Prop :=
  (r.1 = 0 ∧ RgI p r.2 ∧ ∀ j, j < p.pl → rr p r.2 j = if j = i then B else rd0 j) ∨
  (r.1 = 10 ∧ RgI p r.2 ∧ ∀ j, j < p.pl → rr p r.2 j = rd0 j) ∨
  (r.1 = 6 ∧ r.2.s.off = true ∧ PmOk r.2.s ∧ ∀ ks, ∃ l' g', RgI p ⟨pboot r.2.s ks, l', g', 0⟩ ∧ (∀ j, j < p.pl → j ≠ i → rr p ⟨pboot r.2.s ks, l', g', 0⟩ j = rd0 j) ∧ M (rr p ⟨pboot r.2.s ks, l', g', 0⟩ i))

/-- What is written at a slot: the whole line, or a word of it. -/
def FOut (p : RPl) (x : RS) (f : PmS → List Nat → Nat → Int × PmS × List Nat) (T : ByteArray → ByteArray) (M : ByteArray → ByteArray → Prop) : Prop :=
  ∀ (s : PmS) (l : List Nat) (k : Nat), k < p.bk.pl → SpI p.bk s l → Out p.bk k (T (rd p.bk s l k)) (rd p.bk s l) (M (rd p.bk s l k)) (f s l k)

theorem rput_out {p : RPl} {x : RS} {f : PmS → List Nat → Nat → Int × PmS × List Nat} {T : ByteArray → ByteArray} {M : ByteArray → ByteArray → Prop} (w : RgI p x) (hn : x.n < p.psi) {i : Nat} (hi : i < p.pl) (hf : FOut p x f T M) :
    ROut p i (T (rr p x i)) (rr p x) (M (rr p x i)) (rput p f x i) := by
  obtain ⟨-, a2, a3, -⟩ := Gp.slot_at w.g hi
  have o := hf x.s x.l (x.g.slot p.pl i) (by rw [bk_pl]; omega) w.sp
  unfold rput
  generalize f x.s x.l (x.g.slot p.pl i) = r at o
  unfold rput2
  have sl : ∀ j, j < p.pl → x.g.slot p.pl j < p.bk.pl := fun j hj => by
    have := Gp.slot_at w.g hj
    rw [bk_pl]; omega
  have rg : p.pl + 1 < p.bk.pl ∧ p.pl + 1 ≠ x.g.slot p.pl i := by rw [bk_pl]; omega
  rcases o with ⟨e, sp, m⟩ | ⟨e, sp, m⟩ | ⟨e, off, pok, m⟩
  · refine .inl ⟨e, w.keep sp rfl ?_ (by show rd p.bk r.2.1 r.2.2 (p.pl + 1) = _; rw [m _ rg.1, if_neg rg.2]), fun j hj => ?_⟩
    · show (if r.1 = 0 then x.n + 1 else x.n) ≤ _
      split <;> omega
    · show rd p.bk r.2.1 r.2.2 (x.g.slot p.pl j) = _
      rw [m _ (sl j hj)]
      by_cases e : j = i
      · rw [if_pos (by rw [e]), if_pos e]; rfl
      · rw [if_neg (fun h => e (Gp.slot_inj w.g hj hi h)), if_neg e]; rfl
  · exact .inr (.inl ⟨e, w.keep sp rfl (by show (if r.1 = 0 then x.n + 1 else x.n) ≤ _; split <;> omega) (m _ rg.1), fun j hj => m _ (sl j hj)⟩)
  · refine .inr (.inr ⟨e, off, pok, fun ks => ?_⟩)
    obtain ⟨l', sp', m', y⟩ := m ks
    exact ⟨l', x.g, w.keep sp' rfl (Nat.zero_le _) (m' _ rg.1 rg.2), fun j hj hne => m' _ (sl j hj) fun h => hne (Gp.slot_inj w.g hj hi h), y⟩

theorem rwrite_out {p : RPl} {x : RS} {f : PmS → List Nat → Nat → Int × PmS × List Nat} {T : ByteArray → ByteArray} {M : ByteArray → ByteArray → Prop} (w : RgI p x) {i : Nat} (hi : i < p.pl) (hf : FOut p x f T M) (hM : M (rr p x i) (rr p x i)) :
    ROut p i (T (rr p x i)) (rr p x) (M (rr p x i)) (rwrite p f x i) := by
  unfold rwrite
  by_cases h : p.psi ≤ x.n
  · rw [if_pos h]
    rcases rmove_out w with ⟨e, w1, m, n0, _⟩ | ⟨e, w1, m, _⟩ | ⟨e, off, pok, m⟩
    · rw [if_pos e]
      have o := rput_out w1 (by have := w.q1; omega) hi (f := f) (T := T) (M := M) hf
      rw [m i hi] at o
      rcases o with ⟨e2, w2, m2⟩ | ⟨e2, w2, m2⟩ | ⟨e2, off, pok, m2⟩
      · exact .inl ⟨e2, w2, fun j hj => by
          rw [m2 j hj]
          by_cases e : j = i
          · rw [if_pos e, if_pos e]
          · rw [if_neg e, if_neg e]; exact m j hj⟩
      · exact .inr (.inl ⟨e2, w2, fun j hj => (m2 j hj).trans (m j hj)⟩)
      · refine .inr (.inr ⟨e2, off, pok, fun ks => ?_⟩)
        obtain ⟨l', g', w', m', y⟩ := m2 ks
        exact ⟨l', g', w', fun j hj hne => (m' j hj hne).trans (m j hj), y⟩
    · rw [if_neg (by omega)]
      exact .inr (.inl ⟨e, w1, m⟩)
    · rw [if_neg (by omega)]
      refine .inr (.inr ⟨e, off, pok, fun ks => ?_⟩)
      obtain ⟨l', g', w', m'⟩ := m ks
      exact ⟨l', g', w', fun j hj _ => m' j hj, by rw [m' i hi]; exact hM⟩
  · rw [if_neg h]
    exact rput_out w (by omega) hi hf
end Go.Gb
namespace Go.Gb
open Go.Proofs IntWalk

/-! ## gabionlaw05: a new bank; wakes -/

theorem getL_zero : ∀ n, getL (List.replicate n (0 : UInt8)) = 0
  | 0 => rfl
  | n + 1 => by rw [List.replicate_succ]; show (0 : UInt8).toNat + 256 * getL (List.replicate n 0) = 0; rw [getL_zero n]; rfl
theorem zero64_list : zero64.data.toList = List.replicate 64 (0 : UInt8) := by
  unfold zero64
  have : ∀ n, List.replicate n (0 : UInt8) = Lib.repeatL [UInt8.ofNat 0] n := by
    intro n
    induction n with
    | zero => rfl
    | succ n ih => rw [List.replicate_succ, ih]; rfl
  rw [this 64]
theorem zero64_word (k : Nat) : wordAt zero64 k = 0 := by
  unfold wordAt chunk
  rw [zero64_list, List.drop_replicate, List.take_replicate]
  exact getL_zero _

theorem sfmt_clean {p : Pl} : ∀ (j k : Nat) (s : PmS), Cl s → (∀ w, w < 8 * s.nl → s.media w = 0) → p.pa + k + j ≤ s.nl → s.count + 10 * j < 900000000 → PmOk s →
    ∃ s', sfmt p zero64 j k s = (0, s') ∧ Cl s' ∧ (∀ w, w < 8 * s.nl → s'.media w = 0) ∧ s'.nl = s.nl ∧ s'.bad = s.bad ∧ s'.count = s.count + 10 * j ∧ PmOk s'
  | 0, k, s, c, m, _, _, o => ⟨s, rfl, c, m, rfl, rfl, by omega, o⟩
  | j + 1, k, s, c, m, hf, hc, o => by
    have c0 := c.c0
    obtain ⟨s1, e1, c1, n1, b1, k1, m1⟩ := lnput_clean (b := zero64) c (show p.pa + k < s.nl by omega) zero64_size
    have o1 : PmOk s1 := by have := o.put (p.pa + k : Nat) zero64; rw [e1] at this; exact this
    have hm1 : ∀ w, w < 8 * s.nl → s1.media w = 0 := fun w hw => by
      rw [m1 w hw]
      split
      · rw [zero64_word]; rfl
      · exact m w hw
    obtain ⟨s2, e2, c2, m2, n2, b2, k2, o2⟩ := sfmt_clean (p := p) j (k + 1) s1 (c1.of (by omega) (by omega)) (by rw [n1]; exact hm1) (by rw [n1]; omega) (by omega) o1
    refine ⟨s2, ?_, c2, by rw [← n1]; exact m2, n2.trans n1, b2.trans b1, by omega, o2⟩
    unfold sfmt
    rw [e1, if_pos rfl]; exact e2

theorem Cl.on {s : PmS} (c : Cl s) : On s := ⟨c.off, by rw [c.fuse]; exact Int.le_refl _, c.buf⟩

/-- A new bank on a new device. -/
theorem sformat_new {p : Pl} {n : Nat} (ok : PlOk p n) : ∃ s, sformat p (pnew n) = (0, s) ∧ Cl s ∧ SpI p s [] ∧ s.nl = n ∧ s.bad = (fun _ => false) ∧ (∀ w, w < 8 * n → s.media w = 0) ∧ s.count ≤ 20000 := by
  have fit := ok.fit
  have l2 := ok.l2
  have ht := tblN_le ok.b
  unfold sizeN at fit
  obtain ⟨s, e, c, m, n1, b, k, o⟩ := sfmt_clean (p := p) (tblN p + p.pl) 0 (pnew n) (Cl.new n) (fun _ _ => rfl) (by show p.pa + 0 + (tblN p + p.pl) ≤ n; omega) (by show (0 : Int) + _ < _; omega) (PmOk.new n)
  have n1 : s.nl = n := n1
  have m : ∀ w, w < 8 * n → s.media w = 0 := m
  have k : s.count = 0 + 10 * ((tblN p + p.pl : Nat) : Int) := k
  refine ⟨s, e, c, ⟨ok.of n1, c.on, ?_, fun _ _ _ => by rw [b]; rfl, o⟩, n1, b, m, by omega⟩
  unfold sents
  refine entsTo_zeros (c := 0) rfl p.ps (Nat.zero_le _) fun j _ hj => ?_
  unfold twd
  have f := (tbl_fit ok hj).1
  rw [c.on.val (by rw [n1]; exact f), m _ f]; rfl

end Go.Gb
namespace Go.Gb
open Go.Proofs IntWalk

/-! ## SparePlays: both devices and the bank -/

/-- Between two acts: on, and the bank agrees; or the power failed. -/
def StB (p : Pl) (s : PmS) (l : List Nat) : Prop := SpI p s l ∨ (s.off = true ∧ PmOk s ∧ ∀ ks, ∃ l', SpI p (pboot s ks) l')

theorem StB.ok {p : Pl} {s : PmS} {l : List Nat} (t : StB p s l) : PmOk s := by
  rcases t with t | t
  · exact t.w
  · exact t.2.1
theorem Res.st {p : Pl} {n : Nat} {r : Int × PmS × List Nat} (t : Res p n r) : StB p r.2.1 r.2.2 := by
  rcases t.2 with h | h
  · exact .inl h.2
  · exact .inr h.2

section
variable {h0 h h1 h2 : Heap} {F G M : Nat → Prop} {d b m : Nat} {p : Pl} {s s' : PmS} {l l' : List Nat} {Q : Value → Heap → Prop}

end
end Go.Gb
namespace Go.Gb
open Go.Proofs IntWalk

/-! ## LinePlays -/

theorem sext_le (s : ByteArray) (r : Int) : (sext s 0 r).size ≤ r.toNat := by
  unfold sext; rw [ByteArray.size_extract]; omega

theorem PmOk.brk {s : PmS} (o : PmOk s) (f : Nat → Bool) : PmOk { s with bad := f } := o.of rfl rfl

structure Act6 where
  a0 : Int
  a1 : Int
  a2 : Int
  a3 : Int
  s : ByteArray
  ka : Option Addr
  kc : Nat
  ks : List Bool
def Act6.row (x : Act6) : List Value := [.int .i64 x.a0, .int .i64 x.a1, .int .i64 x.a2, .int .u64 x.a3, .string x.s, .slice x.ka x.ks.length x.kc]
theorem Act6.row_length (x : Act6) : x.row.length = 6 := rfl

section
variable {h0 h : Heap} {F G : Nat → Prop} {d m : Nat} {s : PmS} {Q : Value → Heap → Prop} {a : Option Addr} {n cp : Nat} {N t : Int} {b : ByteArray}

end

end Go.Gb
namespace Go.Gb
open Go.Proofs IntWalk

/-! ## A device without a fuse; SpareAgain -/

structure F0 (s : PmS) : Prop where
  off : s.off = false
  fuse : s.fuse = 0

theorem F0.store {s : PmS} (f : F0 s) {k : Nat} {v : Int} (hk : k < 8 * s.nl) : (pstore s (k : Int) v).1 = 0 ∧ F0 (pstore s (k : Int) v).2 := by
  rw [pstore_nf f.off f.fuse hk]; exact ⟨rfl, f.off, ptick_fuse f.fuse⟩
theorem F0.llast {s : PmS} (f : F0 s) {a : Nat} (ha : a < s.nl) : (llast s (a : Int)).1 = 0 ∧ F0 (llast s (a : Int)).2 := by
  unfold Gb.llast
  rw [pflush_nf f.off f.fuse ha, if_pos rfl]
  have f2 : F0 { ptick s with buf := fbuf s.buf a 8 } := ⟨f.off, ptick_fuse f.fuse⟩
  rw [pfence_run f2.off (by rw [f2.fuse]; decide)]
  exact ⟨rfl, f2.off, ptick_fuse f2.fuse⟩
theorem F0.stores {a : Nat} {g : Nat → Nat} : ∀ (j k : Nat) (s : PmS), k + j = 8 → F0 s → a < s.nl → (lstores a g j k s).1 = 0 ∧ F0 (lstores a g j k s).2
  | 0, k, s, _, f, ha => f.llast ha
  | j + 1, k, s, hk, f, ha => by
    have h := f.store (v := ((g k : Nat) : Int)) (show 8 * a + k < 8 * s.nl by omega)
    unfold lstores
    rw [if_pos h.1]
    exact F0.stores j (k + 1) _ (by omega) h.2 (by rw [pstore_nl]; exact ha)
theorem F0.put {s : PmS} (f : F0 s) {a : Nat} {b : ByteArray} (ha : a < s.nl) (hb : b.size = 64) : (lnput s (a : Int) b).1 = 0 ∧ F0 (lnput s (a : Int) b).2 := by
  unfold lnput
  rw [if_pos hb, if_pos (by unfold lthere; exact if_pos (by omega)), Int.toNat_natCast]
  exact F0.stores 8 0 s (by omega) f ha
theorem F0.putw {s : PmS} (f : F0 s) {a k : Nat} {v : Int} (ha : a < s.nl) (hk : k < 8) : (lnputw s (a : Int) (k : Int) v).1 = 0 ∧ F0 (lnputw s (a : Int) (k : Int) v).2 := by
  have h := f.store (v := v) (show 8 * a + k < 8 * s.nl by omega)
  unfold lnputw
  rw [if_pos (by omega), if_pos (by unfold lthere; exact if_pos (by omega)), show (8 * (a : Int) + (k : Int)) = ((8 * a + k : Nat) : Int) by omega, if_pos h.1]
  exact h.2.llast (by rw [pstore_nl]; exact ha)

section
variable {h0 h h1 : Heap} {F G : Nat → Prop} {d b : Nat} {p : Pl} {s s' : PmS} {l l' : List Nat} {Q : Value → Heap → Prop} {a : Option Addr} {n cp : Nat} {N t : Int}

theorem SpI.brk {k : Nat} (sp : SpI p s l) (hk : p.pa + tblN p ≤ k) : SpI p { s with bad := fset s.bad k true } l :=
  ⟨sp.ok, ⟨sp.on.off, sp.on.f0, sp.on.buf⟩, sp.en, fun t g1 g2 => by show fset s.bad k true t = false; unfold fset; rw [if_neg (by omega)]; exact sp.tb t g1 g2, sp.w.of rfl rfl⟩

end

end Go.Gb
namespace Go.Gb
open Go.Proofs IntWalk

/-! ## LineTorn: the pure part -/

end Go.Gb
namespace Go.Gb
open Go.Proofs IntWalk

/-! ## LineTorn -/

section
variable {h : Heap} {Q : Value → Heap → Prop} {a b : ByteArray} {kp : Option Addr} {kn kc : Nat} {c0 c1 : Int}

end

end Go.Gb
namespace Go.Gb
open Go.Proofs IntWalk

/-! ## A clean write; a boot; J39 -/

section
variable {p : Pl} {s : PmS} {l : List Nat}

theorem swrite_clean (w : SpI p s l) (f : F0 s) (hb : ∀ k, s.bad k = false) {i : Nat} {B : ByteArray} (hi : i < p.pl) (hB : B.size = 64) :
    ∃ s', swrite p l s i B = (0, s', l) ∧ SpI p s' l ∧ F0 s' ∧ s'.bad = s.bad ∧ s'.nl = s.nl ∧ ∀ j, j < p.pl → rd p s' l j = if j = i then B else rd p s l j := by
  obtain ⟨f1, f2⟩ := whN_lt w.ok w.len hi
  have h1 := f.put f1 hB
  have ht : took (lnput s (whN p l i : Nat) B).2 (whN p l i) B = true := by
    cases e : took (lnput s (whN p l i : Nat) B).2 (whN p l i) B with
    | true => rfl
    | false =>
      have := not_took w.on w.w f1 hB h1.1 (by rw [e]; simp)
      rw [hb] at this; cases this
  have e : swrite p l s i B = (0, (lnput s (whN p l i : Nat) B).2, l) := by
    unfold swrite
    rw [if_pos h1.1, if_pos ht]
  have o := swrite_out w hi hB
  rw [e] at o
  refine ⟨_, e, w.put f2 f1 hB h1.1, h1.2, lnput_bad w.on f1 hB, lnput_nl _ _ _, ?_⟩
  rcases o with o | o | o
  · exact o.2.2
  · have := o.1; cases this
  · have := o.1; cases this

theorem SpI.boot (w : SpI p s l) (ks : List Bool) : SpI p (pboot s ks) l ∧ (∀ j, j < p.pl → rd p (pboot s ks) l j = rd p s l j) ∧ (pboot s ks).nl = s.nl := by
  obtain ⟨t, o⟩ := (w.on.tg s.media).boot ks
  have hm : ∀ k, k < 8 * s.nl → (pboot s ks).media k = s.media k := fun k hk => by
    rcases t.med k hk with h | h
    · exact h
    · exact h.2
  refine ⟨⟨w.ok.of t.nl, o, ?_, fun k a b => by rw [t.bd]; exact w.tb k a b, w.w.boot ks⟩, fun j hj => ?_, t.nl⟩
  · rw [sents_eq w.ok w.on o t.nl fun k hk => hm _ (tbl_fit w.ok hk).1]; exact w.en
  · refine rdN_congr fun k hk => hm _ ?_
    have := (whN_lt w.ok w.len hj).1
    omega

theorem lnget_rd (w : SpI p s l) {i : Nat} (hi : i < p.pl) : lnget s (whN p l i : Nat) = (rd p s l i, 0) := by
  rw [lnget_on w.on (whN_lt w.ok w.len hi).1]; rfl

end

section
variable {h : Heap} {Q : Value → Heap → Prop} {ba : Option Addr} {bn bc : Nat} {s0 s1 is0 got : ByteArray} {c0 c1 c2 t28 turn f : Int}

end
end Go.Gb
namespace Go.Gb
open Go.Proofs IntWalk

/-! ## SpareTorn -/

section
variable {p : Pl} {s : PmS} {l : List Nat} {F G : Nat → Prop} {h : Heap} {d b : Nat} {Q : Value → Heap → Prop}

theorem spare_Bank_Read.rd {i : Nat} (w : DB F G h d b p s l) (sp : SpI p s l) (hi : i < p.pl) (hq : Q (.tuple #[.string (rd p s l i), .int .i64 0]) h) :
    C Tryz.prog 38 #[.pointer (some ⟨b, 0, none⟩), .int .i64 (i : Int)] h Q :=
  spare_Bank_Read.c w sp.w (fun _ _ => by rw [Int.toNat_natCast, lnget_rd sp hi]; exact hq) fun hno => absurd ⟨by omega, by omega⟩ hno

end

def bB : ByteArray := ⟨#[UInt8.ofNat 98]⟩

section
variable {h0 h : Heap} {F G : Nat → Prop} {d b : Nat} {s : PmS} {l : List Nat} {Q : Value → Heap → Prop} {ba : Option Addr} {bn bc : Nat} {s0 s1 is0 : ByteArray} {c0 c1 c2 t28 turn f : Int}

end
end Go.Gb
namespace Go.Gb
open Go.Proofs IntWalk

/-! ## ring: the region's block; where and what a line is -/

def ringV (p : RPl) : Value := .agg #[.int .i64 p.pa, .int .i64 p.pl, .int .i64 p.ps, .int .i64 p.psi]
def ringCs (b : Nat) (p : RPl) (g : Gp) (n : Nat) : List Value := [.int .i64 p.pa, .int .i64 p.pl, .int .i64 p.ps, .int .i64 p.psi, .pointer (some ⟨b, 0, none⟩), .int .i64 g.s0, .int .i64 g.s1, .int .u32 g.s2, .int .i64 (n : Nat)]

/-- A device, a bank and a region on it. -/
structure RD (F G : Nat → Prop) (h : Heap) (d b r : Nat) (p : RPl) (x : RS) : Prop where
  db : DB F G h d b p.bk x.s x.l
  rc : Blk h r (ringCs b p x.g x.n)
  nr : ¬ FG F G r

abbrev FR (F G : Nat → Prop) (r : Nat) : Nat → Prop := fun k => FG F G k ∨ k = r

/-- A plan that may be. -/
structure RpB (p : RPl) (n : Nat) : Prop where
  l1 : 1 ≤ p.pl
  l2 : p.pl ≤ 1024
  q1 : 1 ≤ p.psi
  q2 : p.psi ≤ 65535
  ok : PlOk p.bk n

theorem both {X : Prop} (h : X) : X ∧ X := ⟨h, h⟩

theorem Gp.nextS_eq {g : Gp} {pl : Nat} (o : g.ok pl) : nextS g.s0 g.s1 g.s2 pl = ((g.next pl).s0, (g.next pl).s1, (g.next pl).s2, ((g.src pl : Nat) : Int), ((g.dst pl : Nat) : Int)) := by
  obtain ⟨t0, t1, e, hr, _⟩ := nextS_move (s2 := g.s2) o.r
  have hr' := hr
  have ho := o.r
  unfold rightP at hr' ho
  unfold Gp.next Gp.src Gp.dst
  rw [e]
  dsimp only
  rw [show ((t1.toNat : Nat) : Int) = t1 by omega, show ((g.s1.toNat : Nat) : Int) = g.s1 by omega]

theorem sWrite_eq {p : Pl} {l : List Nat} {s : PmS} {i : Nat} {B : ByteArray} (hi : i < p.pl) (hB : B.size = 64) : sWrite p l s (i : Int) B = swrite p l s i B := by
  unfold sWrite; rw [if_pos hB, if_pos (by omega), Int.toNat_natCast]
theorem sWriteWord_eq {p : Pl} {l : List Nat} {s : PmS} {i k v : Nat} (hi : i < p.pl) (hk : k < 8) : sWriteWord p l s (i : Int) (k : Int) v = swritew p l s i k v := by
  unfold sWriteWord; rw [if_pos (by omega), if_pos (by omega), Int.toNat_natCast, Int.toNat_natCast]

section
variable {F G : Nat → Prop} {h h1 : Heap} {d b r n : Nat} {p : RPl} {x : RS} {Q : Value → Heap → Prop}

theorem RD.c0 (w : RD F G h d b r p x) : h.cell r (0 + 0) = some (.int .i64 p.pa) := w.rc.cell 0
theorem RD.c1 (w : RD F G h d b r p x) : h.cell r (0 + 0 + 1) = some (.int .i64 p.pl) := w.rc.cell 1
theorem RD.c2 (w : RD F G h d b r p x) : h.cell r (0 + 0 + 1 + 1) = some (.int .i64 p.ps) := w.rc.cell 2
theorem RD.c3 (w : RD F G h d b r p x) : h.cell r (0 + 0 + 1 + 1 + 1) = some (.int .i64 p.psi) := w.rc.cell 3
theorem RD.c4 (w : RD F G h d b r p x) : h.cell r (0 + 4) = some (.pointer (some ⟨b, 0, none⟩)) := w.rc.cell 4
theorem RD.c5 (w : RD F G h d b r p x) : h.cell r (0 + 5) = some (.int .i64 x.g.s0) := w.rc.cell 5
theorem RD.c6 (w : RD F G h d b r p x) : h.cell r (0 + 5 + 1) = some (.int .i64 x.g.s1) := w.rc.cell 6
theorem RD.c7 (w : RD F G h d b r p x) : h.cell r (0 + 5 + 1 + 1) = some (.int .u32 x.g.s2) := w.rc.cell 7
theorem RD.c8 (w : RD F G h d b r p x) : h.cell r (0 + 8) = some (.int .i64 (x.n : Nat)) := w.rc.cell 8

theorem RD.ap (w : RD F G h d b r p x) : Apart (FG F G) (fun k => k = r) := fun k hk hf => by
  have : k = r := hk
  subst this; exact w.nr hf
/-- The bank works on; the region's block stays. -/
theorem RD.bank {s' : PmS} {l' : List Nat} (w : RD F G h d b r p x) (w1 : DB F G h1 d b p.bk s' l') (st : Step (FG F G) h (FG F G) h1) : RD F G h1 d b r p ⟨s', l', x.g, x.n⟩ :=
  ⟨w1, w.rc.keep (st.keep r w.nr w.rc.ne), w.nr⟩
theorem RD.part (w : RD F G h d b r p x) (pt : Part h h1) : RD F G h1 d b r p x := ⟨w.db.part pt, w.rc.keep (part_live pt w.rc.ne), w.nr⟩
/-- The region's block is written. -/
theorem RD.put {x' : RS} {o : Nat} {vs : List Value} (w : RD F G h d b r p x) (hs : x'.s = x.s) (hl : x'.l = x.l) (hc : setL (ringCs b p x.g x.n) o vs = ringCs b p x'.g x'.n) : RD F G (h.put r o vs) d b r p x' ∧ Step (FR F G r) h (FR F G r) (h.put r o vs) := by
  have e : ∀ k, k ≠ r → (h.put r o vs) k = h k := fun k hk => put_other _ _ _ hk
  have hf : ∀ k, FG F G k → k ≠ r := fun k hk e => w.nr (by rw [← e]; exact hk)
  have st : Step (fun k => k = r) h (fun k => k = r) (h.put r o vs) := Step.put (F := fun k => k = r) rfl o vs
  refine ⟨⟨?_, ?_, w.nr⟩, st.right⟩
  · rw [hs, hl]
    exact ⟨w.db.dv.keep fun k hk _ => e k (hf k (.inl hk)), w.db.bk.keep fun k hk _ => e k (hf k (.inr hk)), st.alive w.db.lf, st.alive w.db.lg, w.db.ap⟩
  · have := w.rc.put o vs
    rw [hc] at this
    exact this

theorem ring_Plan_register.c (hb : RpB p n) (hq : Q (.int .i64 ((p.pl + 1 : Nat) : Int)) h) : C Tryz.prog 34 #[ringV p] h Q := by
  have := hb.l2
  apply ring_Plan_register.ok
  unfold ring_Plan_register.wp
  rw [show IntKind.i64.wrap ((p.pl : Int) + 1) = ((p.pl + 1 : Nat) : Int) by rw [i64_in _ (by omega)]; omega]
  exact hq
theorem ring_Plan_Bank.c (hb : RpB p n) (hq : Q (plV p.bk) h) : C Tryz.prog 31 #[ringV p] h Q := by
  have := hb.l2
  apply ring_Plan_Bank.ok
  refine ring_Plan_register.c hb ⟨_, rfl, ?_⟩
  rw [show IntKind.i64.wrap (((p.pl + 1 : Nat) : Int) + 1) = ((p.pl + 2 : Nat) : Int) by rw [i64_in _ (by omega)]; omega]
  exact hq
theorem ring_Plan_Check.c (hb : RpB p n) (hq : Q (.int .i64 0) h) : C Tryz.prog 74 #[ringV p, .int .i64 (n : Int)] h Q := by
  have := hb.l1
  have := hb.l2
  have := hb.q1
  have := hb.q2
  apply ring_Plan_Check.ok
  refine xsIf_f (decide_eq_false (by omega)) (xsIf_f (decide_eq_false (by omega)) (xsIf_f (decide_eq_false (by omega)) (xsIf_f (decide_eq_false (by omega)) (ring_Plan_Bank.c hb ⟨_, _, _, rfl, spare_Plan_Check.c ⟨_, rfl, ?_⟩⟩))))
  rw [hb.ok.check]; exact hq
theorem ring_check.c {s : PmS} (w : PmD F h d s) (hb : RpB p s.nl) (hq : Q (.int .i64 0) h) : C Tryz.prog 29 #[.pointer (some ⟨d, 0, none⟩), ringV p] h Q := by
  apply ring_check.ok
  exact xsIf_f rfl (pm_Device_Lines.c w ⟨_, rfl, ring_Plan_Check.c hb ⟨_, rfl, hq⟩⟩)

theorem slotS_at {g : Gp} {pl i : Nat} (o : g.ok pl) (hi : i < pl) : slotS g.s0 g.s1 pl i = ((g.slot pl i : Nat) : Int) := by
  rw [slotS_eq o.r (by omega) (by omega), (Gp.slot_at o hi).1]

theorem ring_Ring_slot.c {i : Int} (w : RD F G h d b r p x) (o : x.g.ok p.pl) (hy : 0 ≤ i → i < p.pl → Q (.tuple #[.int .i64 (x.g.slot p.pl i.toNat : Nat), .int .i64 0]) h) (hn : ¬ (0 ≤ i ∧ i < p.pl) → Q (.tuple #[.int .i64 0, .int .i64 3]) h) :
    C Tryz.prog 47 #[.pointer (some ⟨r, 0, none⟩), .int .i64 i] h Q := by
  apply ring_Ring_slot.ok
  refine xsIf_f rfl (xsIf_intro (fun h1 => hn fun h2 => by have := of_decide_eq_true h1; omega) fun h1 => ⟨r, 0, rfl, _, w.c1, xsIf_intro (fun h2 => hn fun h3 => by have := of_decide_eq_true h2; omega) fun h2 => ⟨r, 0, rfl, r, 0, rfl, _, w.c5, _, w.c6, _, w.c7, _, w.c1, ?_⟩⟩)
  have h1 := of_decide_eq_false h1
  have h2 := of_decide_eq_false h2
  obtain ⟨k, rfl⟩ : ∃ k : Nat, i = k := ⟨i.toNat, by omega⟩
  have hy := hy (by omega) (by omega)
  rw [Int.toNat_natCast] at hy
  exact gap_State_Slot.c (slotS_at o (by omega)) ⟨_, rfl, hy⟩

theorem ring_Ring_Where.c {i : Nat} (w : RD F G h d b r p x) (o : x.g.ok p.pl) (hi : i < p.pl) (hq : Q (.tuple #[.int .i64 (whN p.bk x.l (x.g.slot p.pl i) : Nat), .int .i64 0]) h) :
    C Tryz.prog 73 #[.pointer (some ⟨r, 0, none⟩), .int .i64 (i : Int)] h Q := by
  have hs := (Gp.slot_at o hi).2.1
  apply ring_Ring_Where.ok
  refine ring_Ring_slot.c w o (fun _ _ => ⟨_, _, rfl, xsIf_f rfl ⟨r, 0, rfl, _, w.c4, ?_⟩⟩) fun hn => absurd ⟨by omega, by omega⟩ hn
  rw [Int.toNat_natCast]
  refine spare_Bank_Where.c w.db.bk (fun _ _ => ⟨_, _, rfl, ?_⟩) fun hn => absurd ⟨by omega, by rw [bk_pl]; omega⟩ hn
  rw [Int.toNat_natCast]; exact hq

theorem ring_Ring_Read.c {i : Int} (w : RD F G h d b r p x) (o : x.g.ok p.pl) (sp : SpI p.bk x.s x.l) (hy : 0 ≤ i → i < p.pl → Q (.tuple #[.string (rr p x i.toNat), .int .i64 0]) h) (hn : ¬ (0 ≤ i ∧ i < p.pl) → Q (.tuple #[.string ⟨#[]⟩, .int .i64 3]) h) :
    C Tryz.prog 17 #[.pointer (some ⟨r, 0, none⟩), .int .i64 i] h Q := by
  apply ring_Ring_Read.ok
  refine ring_Ring_slot.c w o (fun h0 h1 => ⟨_, _, rfl, xsIf_f rfl ⟨r, 0, rfl, _, w.c4, ?_⟩⟩) fun h0 => ⟨_, _, rfl, xsIf_t rfl (hn h0)⟩
  have hs := (Gp.slot_at o (i := i.toNat) (by omega)).2.1
  exact spare_Bank_Read.rd w.db sp (by rw [bk_pl]; omega) ⟨_, _, rfl, hy h0 h1⟩

theorem ring_Ring_State.c (w : RD F G h d b r p x) (hq : Q (.agg #[.int .i64 x.g.s0, .int .i64 x.g.s1, .int .u32 x.g.s2]) h) : C Tryz.prog 12 #[.pointer (some ⟨r, 0, none⟩)] h Q := by
  apply ring_Ring_State.ok
  exact xsIf_f rfl ⟨r, 0, rfl, _, w.c5, _, w.c6, _, w.c7, hq⟩
theorem ring_Ring_Since.c (w : RD F G h d b r p x) (hq : Q (.int .i64 (x.n : Nat)) h) : C Tryz.prog 37 #[.pointer (some ⟨r, 0, none⟩)] h Q := by
  apply ring_Ring_Since.ok
  exact xsIf_f rfl ⟨r, 0, rfl, _, w.c8, hq⟩
end
end Go.Gb
namespace Go.Gb
open Go.Proofs IntWalk

/-! ## ring: move, write, Write, WriteWord -/

noncomputable def rWrite (p : RPl) (x : RS) (i : Int) (B : ByteArray) : Int × RS :=
  if B.size = 64 then (if 0 ≤ i ∧ i < p.pl then rwrite p (fun s l k => swrite p.bk l s k B) x i.toNat else (3, x)) else (2, x)
noncomputable def rWriteWord (p : RPl) (x : RS) (i k : Int) (v : Nat) : Int × RS :=
  if 0 ≤ k ∧ k < 8 then (if 0 ≤ i ∧ i < p.pl then rwrite p (fun s l j => swritew p.bk l s j k.toNat v) x i.toNat else (3, x)) else (2, x)

section
variable {F G : Nat → Prop} {h h1 h2 h3 : Heap} {d b r n : Nat} {p : RPl} {x : RS} {Q : Value → Heap → Prop}

theorem RgI.rb (i : RgI p x) : RpB p x.s.nl := ⟨i.l1, i.l2, i.q1, i.q2, i.sp.ok⟩

theorem Step.drop (pt : Part h1 h2) (st : Step (FG F G) h2 (FG F G) h3) (fg : ∀ k, G k → h1 k = none) : Step F h1 F h3 := by
  refine ⟨fun k hf hk => ?_, fun k hk => .inl hk, fun k hk => st.live k (by rw [part_live pt hk]; exact hk), fun hl k hk => st.live k (by rw [part_live pt (hl k hk)]; exact hl k hk)⟩
  have e := part_live pt hk
  rw [st.keep k (fun hfg => ?_) (by rw [e]; exact hk), e]
  rcases hfg with h | h
  · exact hf h
  · exact hk (fg k h)

theorem ring_Ring_move.c (w : RD F G h d b r p x) (i : RgI p x) (hq : ∀ h', RD F G h' d b r p (rmove p x).2 → Step (FR F G r) h (FR F G r) h' → Q (.int .i64 (rmove p x).1) h') :
    C Tryz.prog 89 #[.pointer (some ⟨r, 0, none⟩)] h Q := by
  obtain ⟨ok, d1, d2, d3, d4, d5, d6, -⟩ := Gp.move i.g
  have hb := i.rb
  apply ring_Ring_move.ok
  refine ⟨r, 0, rfl, r, 0, rfl, _, w.c5, _, w.c6, _, w.c7, _, w.c1, both (gap_State_Next.c (Gp.nextS_eq i.g) ⟨_, _, _, _, _, rfl, r, 0, rfl, _, w.c4, spare_Bank_Read.rd w.db i.sp (by rw [bk_pl]; omega) ⟨_, _, rfl, xsIf_f rfl ⟨r, 0, rfl, _, w.c4, spare_Bank_Write.c w.db fun h1 w1 st1 => ⟨_, rfl, ?_⟩⟩⟩⟩)⟩
  have hB : (rd p.bk x.s x.l (x.g.src p.pl)).size = 64 := rdN_size _ _
  rw [sWrite_eq (by rw [bk_pl]; omega) hB] at w1 ⊢
  have o := swrite_out i.sp (i := x.g.dst p.pl) (B := rd p.bk x.s x.l (x.g.src p.pl)) (by rw [bk_pl]; omega) hB
  unfold rmove at hq
  generalize swrite p.bk x.l x.s (x.g.dst p.pl) (rd p.bk x.s x.l (x.g.src p.pl)) = a at o w1 hq ⊢
  have w1' := w.bank w1 st1
  unfold rmove1 at hq
  by_cases e : a.1 = 0
  · rw [if_pos e] at hq
    have sp : SpI p.bk a.2.1 a.2.2 := by
      rcases o with o | o | o
      · exact o.2.1
      · exact o.2.1
      · rw [e] at o; cases o.1
    refine xsIf_f (decide_eq_false (fun h => h e)) ⟨r, 0, rfl, r, 0, rfl, _, w1'.c0, _, w1'.c1, _, w1'.c2, _, w1'.c3, ?_⟩
    refine ⟨⟨_, w1'.c4, ring_Plan_register.c hb ⟨_, rfl, gap_State_Pack.c ok.l (by have := ok.h; omega) ⟨_, rfl, ?_⟩⟩⟩, ring_Plan_register.c hb ⟨_, rfl, ⟨_, w1'.c4, gap_State_Pack.c ok.l (by have := ok.h; omega) ⟨_, rfl, ?_⟩⟩, gap_State_Pack.c ok.l (by have := ok.h; omega) ⟨_, rfl, _, w1'.c4, ?_⟩⟩⟩
    all_goals
      rw [← Gp.pk_int _ ok.l ok.h]
      refine spare_Bank_WriteWord.c w1'.db sp.w (Gp.pk_lt ok) fun h2 w2 st2 => ⟨_, rfl, ?_⟩
      have e2 : sWriteWord p.bk a.2.2 a.2.1 ((p.pl + 1 : Nat) : Int) 0 (x.g.next p.pl).pk = swritew p.bk a.2.2 a.2.1 (p.pl + 1) 0 (x.g.next p.pl).pk := sWriteWord_eq (k := 0) (by rw [bk_pl]; omega) (by omega)
      have w2 : DB F G h2 d b p.bk (sWriteWord p.bk a.2.2 a.2.1 ((p.pl + 1 : Nat) : Int) 0 (x.g.next p.pl).pk).2.1 (sWriteWord p.bk a.2.2 a.2.1 ((p.pl + 1 : Nat) : Int) 0 (x.g.next p.pl).pk).2.2 := w2
      rw [e2] at w2 ⊢
      generalize swritew p.bk a.2.2 a.2.1 (p.pl + 1) 0 (x.g.next p.pl).pk = bb at w2 hq ⊢
      have w2' := w1'.bank w2 st2
      unfold rmove2 at hq
      by_cases e3 : bb.1 = 0
      · rw [if_pos e3] at hq
        obtain ⟨w3, st3⟩ := w2'.put (x' := ⟨bb.2.1, bb.2.2, x.g.next p.pl, x.n⟩) (o := 0 + 5) (vs := [.int .i64 (x.g.next p.pl).s0, .int .i64 (x.g.next p.pl).s1, .int .u32 (x.g.next p.pl).s2]) rfl rfl rfl
        obtain ⟨w4, st4⟩ := w3.put (x' := ⟨bb.2.1, bb.2.2, x.g.next p.pl, 0⟩) (o := 0 + 8) (vs := [.int .i64 0]) rfl rfl rfl
        rw [e3]
        exact xsIf_f rfl ⟨r, 0, rfl, w2'.rc.can (by show 0 + 5 + 3 ≤ 9; omega), r, 0, rfl, w3.rc.can (by show 0 + 8 + 1 ≤ 9; omega), hq _ w4 ((st1.left.trans st2.left).trans (st3.trans st4))⟩
      · rw [if_neg e3] at hq
        exact xsIf_t (decide_eq_true e3) (hq h2 w2' (st1.left.trans st2.left))
  · rw [if_neg e] at hq
    exact xsIf_t (decide_eq_true e) (hq h1 w1' st1.left)

/-- What a slot's write does: in code and as a function. -/
def Fc (F G : Nat → Prop) (h : Heap) (d b r : Nat) (p : RPl) (fn : Nat) (fa fc : Array Value) (f : PmS → List Nat → Nat → Int × PmS × List Nat) : Prop :=
  ∀ (h1 : Heap) (x1 : RS) (k : Nat) (Q1 : Value → Heap → Prop), RD F G h1 d b r p x1 → SpI p.bk x1.s x1.l → Step (FR F G r) h (FR F G r) h1 → k < p.bk.pl →
    (∀ h2, DB F G h2 d b p.bk (f x1.s x1.l k).2.1 (f x1.s x1.l k).2.2 → Step (FG F G) h1 (FG F G) h2 → Q1 (.int .i64 (f x1.s x1.l k).1) h2) →
    C Tryz.prog fn (List.toArray (fa.toList ++ [.int .i64 (k : Nat)] ++ fc.toList)) h1 Q1

theorem ring_Ring_write.J8.c {fn : Nat} {fa fc : Array Value} {f : PmS → List Nat → Nat → Int × PmS × List Nat} {i : Nat} {h0 : Heap} (hg : goOk Tryz.prog fn = true) (hf : Fc F G h0 d b r p fn fa fc f) (w : RD F G h d b r p x) (iv : RgI p x) (st : Step (FR F G r) h0 (FR F G r) h) (hi : i < p.pl)
    (hq : ∀ h', RD F G h' d b r p (rput p f x i).2 → Step (FR F G r) h (FR F G r) h' → Q (.int .i64 (rput p f x i).1) h') : ring_Ring_write.J8 (some ⟨r, 0, none⟩) (i : Int) fn fa fc h Q := by
  have hs := (Gp.slot_at iv.g hi).2.1
  apply ring_Ring_write.J8.ok
  refine ring_Ring_slot.c w iv.g (fun _ _ => ⟨_, _, rfl, xsIf_t hg ?_⟩) fun hn => absurd ⟨by omega, by omega⟩ hn
  rw [Int.toNat_natCast]
  refine hf h x (x.g.slot p.pl i) _ w iv.sp st (by rw [bk_pl]; omega) fun h2 w2 st2 => ⟨_, rfl, ?_⟩
  unfold rput at hq
  generalize f x.s x.l (x.g.slot p.pl i) = q at w2 hq ⊢
  have w2' := w.bank w2 st2
  unfold rput2 at hq
  by_cases e : q.1 = 0
  · rw [if_pos e] at hq
    have := iv.n
    have := iv.q2
    obtain ⟨w3, st3⟩ := w2'.put (x' := ⟨q.2.1, q.2.2, x.g, x.n + 1⟩) (o := 0 + 8) (vs := [.int .i64 ((x.n + 1 : Nat) : Int)]) rfl rfl rfl
    refine xsIf_t (decide_eq_true e) ⟨r, 0, rfl, _, w2'.c8, r, 0, rfl, w2'.rc.can (by show 0 + 8 + 1 ≤ 9; omega), ?_⟩
    rw [show IntKind.i64.wrap (((x.n : Nat) : Int) + 1) = ((x.n + 1 : Nat) : Int) by rw [i64_in _ (by omega)]; omega]
    exact hq _ w3 (st2.left.trans st3)
  · rw [if_neg e] at hq
    exact xsIf_f (decide_eq_false e) (hq h2 w2' st2.left)

theorem ring_Ring_write.c {fn : Nat} {fa fc : Array Value} {f : PmS → List Nat → Nat → Int × PmS × List Nat} {i : Int} (hg : goOk Tryz.prog fn = true) (hf : Fc F G h d b r p fn fa fc f) (w : RD F G h d b r p x) (iv : RgI p x)
    (hy : 0 ≤ i → i < p.pl → ∀ h', RD F G h' d b r p (rwrite p f x i.toNat).2 → Step (FR F G r) h (FR F G r) h' → Q (.int .i64 (rwrite p f x i.toNat).1) h') (hn : ¬ (0 ≤ i ∧ i < p.pl) → Q (.int .i64 3) h) :
    C Tryz.prog 42 #[.pointer (some ⟨r, 0, none⟩), .int .i64 i, .func (.func fn) fa fc] h Q := by
  apply ring_Ring_write.ok
  refine ring_Ring_slot.c w iv.g (fun h0 h1 => ⟨_, _, rfl, xsIf_f rfl ⟨r, 0, rfl, r, 0, rfl, _, w.c8, _, w.c3, ?_⟩⟩) fun h0 => ⟨_, _, rfl, xsIf_t rfl (hn h0)⟩
  have hq := hy h0 h1
  obtain ⟨i, rfl⟩ : ∃ k : Nat, i = k := ⟨i.toNat, by omega⟩
  rw [Int.toNat_natCast] at hq
  unfold rwrite at hq
  refine xsIf_intro (fun e => ?_) fun e => ?_
  · have e := of_decide_eq_true e
    rw [if_pos (by omega)] at hq
    refine ring_Ring_move.c w iv fun h2 w2 st2 => ⟨_, rfl, ?_⟩
    have o := rmove_out iv
    generalize rmove p x = m at w2 hq o ⊢
    by_cases e2 : m.1 = 0
    · rw [if_pos e2] at hq
      rw [e2]
      have iv2 : RgI p m.2 := by
        rcases o with o | o | o
        · exact o.2.1
        · exact o.2.1
        · rw [e2] at o; cases o.1
      exact xsIf_f rfl (ring_Ring_write.J8.c hg hf w2 iv2 st2 (by omega) fun h3 w3 st3 => hq h3 w3 (st2.trans st3))
    · rw [if_neg e2] at hq
      exact xsIf_t (decide_eq_true e2) (hq h2 w2 st2)
  · have e := of_decide_eq_false e
    rw [if_neg (by omega)] at hq
    exact ring_Ring_write.J8.c hg hf w iv (Step.refl _ _) (by omega) hq

theorem RD.fresh (w : RD F G h d b r p x) {k : Nat} (hk : h k = none) : ¬ FR F G r k := fun hf => by
  rcases hf with (hf | hf) | hf
  · exact w.db.lf k hf hk
  · exact w.db.lg k hf hk
  · have hf : k = r := hf
    exact w.rc.ne (by rw [← hf]; exact hk)

theorem ring_Ring_Write.c {i : Int} {B : ByteArray} (w : RD F G h d b r p x) (iv : RgI p x)
    (hq : ∀ h', RD F G h' d b r p (rWrite p x i B).2 → Step (FR F G r) h (FR F G r) h' → Q (.int .i64 (rWrite p x i B).1) h') :
    C Tryz.prog 13 #[.pointer (some ⟨r, 0, none⟩), .int .i64 i, .string B] h Q := by
  apply ring_Ring_Write.ok
  intro b1 hb1 b2 hb2
  obtain ⟨ne, hb2'⟩ := fresh_ne hb2
  generalize e2 : upd (upd h b1 (Obj.cells #[.pointer (some ⟨r, 0, none⟩)] 34 (0, 0))) b2 (Obj.cells #[.string B] 9 (0, 0)) = h2
  have pt : Part h h2 := by rw [← e2]; exact (Part.upd hb1 _).upd' hb2' _
  have k1 : Blk h2 b1 [.pointer (some ⟨r, 0, none⟩)] := ⟨_, by rw [← e2, upd_other _ _ ne.symm, upd_same]⟩
  have k2 : Blk h2 b2 [.string B] := ⟨_, by rw [← e2, upd_same]⟩
  have w2 := w.part pt
  have f1 := w.fresh hb1
  have f2 := w.fresh hb2'
  have st0 : Step (FR F G r) h (FR F G r) h2 := Step.of_part pt
  unfold rWrite at hq
  refine ⟨_, k1.cell 0, xsIf_t rfl ⟨_, k2.cell 0, xsIf_intro (fun e => ?_) fun e => ⟨_, k1.cell 0, ?_⟩⟩⟩
  · have e := of_decide_eq_true e
    rw [if_neg (by omega)] at hq
    exact hq h2 w2 st0
  · have e := of_decide_eq_false e
    rw [if_pos (by omega)] at hq
    refine ring_Ring_write.c (f := fun s l k => swrite p.bk l s k B) (by kernel_rfl) (fun h3 x1 k Q1 w3 sp3 st3 hk hq1 => ?_) w2 iv (fun h0 h1 h' w' st' => ⟨_, rfl, ?_⟩) fun hn => ⟨_, rfl, ?_⟩
    · have c1 := k1.keep (st3.keep b1 f1 k1.ne)
      have c2 := k2.keep (st3.keep b2 f2 k2.ne)
      show C Tryz.prog 43 #[.int .i64 (k : Nat), .pointer (some ⟨b1, 0, none⟩), .pointer (some ⟨b2, 0, none⟩)] h3 Q1
      apply ring_Ring_Write_1.ok
      refine ⟨_, c1.cell 0, r, 0, rfl, _, w3.c4, _, c2.cell 0, spare_Bank_Write.c w3.db fun h4 w4 st4 => ⟨_, rfl, ?_⟩⟩
      rw [sWrite_eq hk (by omega)] at w4 ⊢
      exact hq1 h4 w4 st4
    · rw [if_pos ⟨h0, h1⟩] at hq; exact hq h' w' (st0.trans st')
    · rw [if_neg hn] at hq; exact hq h2 w2 st0

theorem ring_Ring_WriteWord.c {i k : Int} {v : Nat} (w : RD F G h d b r p x) (iv : RgI p x) (hv : v < 18446744073709551616)
    (hq : ∀ h', RD F G h' d b r p (rWriteWord p x i k v).2 → Step (FR F G r) h (FR F G r) h' → Q (.int .i64 (rWriteWord p x i k v).1) h') :
    C Tryz.prog 16 #[.pointer (some ⟨r, 0, none⟩), .int .i64 i, .int .i64 k, .int .u64 (v : Nat)] h Q := by
  apply ring_Ring_WriteWord.ok
  intro b1 hb1 b2 hb2 b3 hb3
  obtain ⟨ne, hb2'⟩ := fresh_ne hb2
  obtain ⟨ne2, hb3'⟩ := fresh_ne hb3
  obtain ⟨ne3, hb3''⟩ := fresh_ne hb3'
  generalize e2 : upd (upd (upd h b1 (Obj.cells #[.pointer (some ⟨r, 0, none⟩)] 34 (0, 0))) b2 (Obj.cells #[.int .i64 k] 3 (0, 0))) b3 (Obj.cells #[.int .u64 (v : Nat)] 49 (0, 0)) = h2
  have pt : Part h h2 := by rw [← e2]; exact ((Part.upd hb1 _).upd' hb2' _).upd' hb3'' _
  have k1 : Blk h2 b1 [.pointer (some ⟨r, 0, none⟩)] := ⟨_, by rw [← e2, upd_other _ _ ne3.symm, upd_other _ _ ne.symm, upd_same]⟩
  have k2 : Blk h2 b2 [.int .i64 k] := ⟨_, by rw [← e2, upd_other _ _ ne2.symm, upd_same]⟩
  have k3 : Blk h2 b3 [.int .u64 (v : Nat)] := ⟨_, by rw [← e2, upd_same]⟩
  have w2 := w.part pt
  have f1 := w.fresh hb1
  have f2 := w.fresh hb2'
  have f3 := w.fresh hb3''
  have st0 : Step (FR F G r) h (FR F G r) h2 := Step.of_part pt
  unfold rWriteWord at hq
  refine ⟨_, k1.cell 0, xsIf_t rfl ⟨_, k2.cell 0, xsIf_intro (fun e => ?_) fun e => ⟨_, k2.cell 0, xsIf_intro (fun e' => ?_) fun e' => ⟨_, k1.cell 0, ?_⟩⟩⟩⟩
  · have e := of_decide_eq_true e
    rw [if_neg (by omega)] at hq
    exact hq h2 w2 st0
  · have e' := of_decide_eq_true e'
    rw [if_neg (by omega)] at hq
    exact hq h2 w2 st0
  · have e := of_decide_eq_false e
    have e' := of_decide_eq_false e'
    rw [if_pos (by omega)] at hq
    obtain ⟨k, rfl⟩ : ∃ q : Nat, k = q := ⟨k.toNat, by omega⟩
    rw [Int.toNat_natCast] at hq
    refine ring_Ring_write.c (f := fun s l j => swritew p.bk l s j k v) (by kernel_rfl) (fun h3 x1 j Q1 w3 sp3 st3 hk hq1 => ?_) w2 iv (fun h0 h1 h' w' st' => ⟨_, rfl, ?_⟩) fun hn => ⟨_, rfl, ?_⟩
    · have c1 := k1.keep (st3.keep b1 f1 k1.ne)
      have c2 := k2.keep (st3.keep b2 f2 k2.ne)
      have c3 := k3.keep (st3.keep b3 f3 k3.ne)
      show C Tryz.prog 46 #[.int .i64 (j : Nat), .pointer (some ⟨b1, 0, none⟩), .pointer (some ⟨b2, 0, none⟩), .pointer (some ⟨b3, 0, none⟩)] h3 Q1
      apply ring_Ring_WriteWord_1.ok
      refine ⟨_, c1.cell 0, r, 0, rfl, _, w3.c4, _, c2.cell 0, _, c3.cell 0, spare_Bank_WriteWord.c w3.db sp3.w hv fun h4 w4 st4 => ⟨_, rfl, ?_⟩⟩
      rw [sWriteWord_eq hk (by omega)] at w4 ⊢
      exact hq1 h4 w4 st4
    · rw [if_pos ⟨h0, h1⟩] at hq; exact hq h' w' (st0.trans st')
    · rw [if_neg hn] at hq; exact hq h2 w2 st0
end
end Go.Gb
namespace Go.Gb
open Go.Proofs IntWalk

/-! ## ring: Open, Format; writes on a sound device -/

theorem pk_parts {g : Gp} {pl : Nat} (o : g.ok pl) : ((g.pk % 65536 : Nat) : Int) = g.s0 ∧ ((g.pk / 65536 % 65536 : Nat) : Int) = g.s1 ∧ ((g.pk / 4294967296 : Nat) : Int) = g.s2 := by
  have e := Gp.pk_int g o.l o.h
  have hr := o.r
  have h1 := o.l
  have h2 := o.h
  unfold rightP at hr
  unfold Gb.pk at e
  omega

section
variable {F G : Nat → Prop} {h h1 h2 h3 : Heap} {d b r n : Nat} {p : RPl} {x : RS} {Q : Value → Heap → Prop}

set_option maxRecDepth 100000 in
theorem ring_Open.c (w : PmD F h d x.s) (lv : Live F h) (i : RgI p x)
    (hq : ∀ b r G h', RD F G h' d b r p ⟨x.s, x.l, x.g, 0⟩ → (∀ k, G k → h k = none) → h r = none → Part h h' → Q (.tuple #[.pointer (some ⟨r, 0, none⟩), .int .i64 0]) h') :
    C Tryz.prog 11 #[.pointer (some ⟨d, 0, none⟩), ringV p] h Q := by
  have hb := i.rb
  apply ring_Open.ok
  refine ring_check.c w hb ⟨_, rfl, xsIf_f rfl (ring_Plan_Bank.c hb ⟨_, _, _, rfl, spare_Open.c (p := p.bk) w lv i.sp fun b G h1 wb wd fg lf lg pt => ⟨_, _, rfl, xsIf_f rfl (ring_Plan_register.c hb ⟨_, rfl, ?_⟩)⟩⟩)⟩
  have db : DB F G h1 d b p.bk x.s x.l := ⟨wd, wb, lf, lg, fun k hg hf => lv k hf (fg k hg)⟩
  have hz : (rd p.bk x.s x.l (p.pl + 1)).size = 64 := rdN_size _ _
  have e0 : get8 (rd p.bk x.s x.l (p.pl + 1)) = x.g.pk := i.reg
  refine spare_Bank_Read.rd db i.sp (by rw [bk_pl]; omega) ⟨_, _, rfl, xsIf_f rfl (le_Get.c (by omega) ⟨_, rfl, ?_⟩)⟩
  rw [e0]
  refine gap_Unpack.c (Gp.pk_lt i.g) ⟨_, _, _, rfl, ?_⟩
  obtain ⟨q0, q1, q2⟩ := pk_parts i.g
  rw [q0, q1, q2]
  intro r hr
  generalize e2 : upd h1 r (Obj.cells #[.int .i64 p.pa, .int .i64 p.pl, .int .i64 p.ps, .int .i64 p.psi, .pointer (some ⟨b, 0, none⟩), .int .i64 x.g.s0, .int .i64 x.g.s1, .int .u32 x.g.s2, .int .i64 0] 98 (0, 0)) = h2
  have pt2 : Part h1 h2 := by rw [← e2]; exact Part.upd hr _
  have rd2 : RD F G h2 d b r p ⟨x.s, x.l, x.g, 0⟩ := by
    refine ⟨db.part pt2, ⟨_, by rw [← e2, upd_same]; rfl⟩, fun hf => ?_⟩
    rcases hf with hf | hf
    · exact lf r hf hr
    · exact lg r hf hr
  refine ⟨r, 0, rfl, _, rd2.c5, _, rd2.c6, _, rd2.c7, gap_State_Right.c ⟨_, rfl, xsIf_f ?_ ?_⟩⟩
  · rw [decide_eq_true i.g.r]; rfl
  · exact hq b r G h2 rd2 fg (Part.none pt hr) (pt.trans pt2)

def Gp.first (pl : Nat) : Gp := ⟨0, pl, 0⟩
theorem Gp.first_ok {pl : Nat} (h1 : 1 ≤ pl) (h2 : pl ≤ 1024) : (Gp.first pl).ok pl := ⟨⟨by omega, by omega, by show (0 : Int) ≤ 0; omega, by show (0 : Int) < pl; omega, by show (0 : Int) ≤ (pl : Int); omega, by show (pl : Int) ≤ pl; omega⟩, by show (0 : Int) ≤ 0; omega, by show (0 : Int) < 4294967296; omega⟩

theorem ring_Format.c {s s1 : PmS} (w : PmD F h d s) (lv : Live F h) (hb : RpB p s.nl) (hs : sformat p.bk s = (0, s1)) (sp : SpI p.bk s1 [])
    (hq : ∀ h', PmD F h' d (swritew p.bk [] s1 (p.pl + 1) 0 (Gp.first p.pl).pk).2.1 → Step F h F h' → Q (.int .i64 (swritew p.bk [] s1 (p.pl + 1) 0 (Gp.first p.pl).pk).1) h') :
    C Tryz.prog 9 #[.pointer (some ⟨d, 0, none⟩), ringV p] h Q := by
  have l1 := hb.l1
  have l2 := hb.l2
  have ok := Gp.first_ok l1 l2
  apply ring_Format.ok
  refine ring_check.c w hb ⟨_, rfl, xsIf_f rfl (ring_Plan_Bank.c hb ⟨_, _, _, rfl, spare_Format.c (p := p.bk) w lv hb.ok fun h1 w1 st1 => ⟨_, rfl, ?_⟩⟩)⟩
  rw [hs] at w1 ⊢
  have lv1 := st1.dom lv
  refine xsIf_f rfl (ring_Plan_Bank.c hb ⟨_, _, _, rfl, spare_Open.c (p := p.bk) w1 lv1 sp fun b G h2 wb wd fg lf lg pt => ⟨_, _, rfl, xsIf_f rfl (ring_Plan_register.c hb ⟨_, rfl, gap_First.c ⟨_, _, _, rfl, gap_State_Pack.c (by omega) (by omega) ⟨_, rfl, ?_⟩⟩⟩)⟩⟩)
  have db : DB F G h2 d b p.bk s1 [] := ⟨wd, wb, lf, lg, fun k hg hf => lv1 k hf (fg k hg)⟩
  rw [if_pos ⟨by omega, by omega⟩]
  have epk : pk 0 (p.pl : Int) 0 = (((Gp.first p.pl).pk : Nat) : Int) := (Gp.pk_int _ ok.l ok.h).symm
  rw [epk]
  refine spare_Bank_WriteWord.c db sp.w (Gp.pk_lt ok) fun h3 w3 st3 => ⟨_, rfl, ?_⟩
  have e2 : sWriteWord p.bk [] s1 ((p.pl + 1 : Nat) : Int) 0 (Gp.first p.pl).pk = swritew p.bk [] s1 (p.pl + 1) 0 (Gp.first p.pl).pk := sWriteWord_eq (k := 0) (by rw [bk_pl]; omega) (by omega)
  have w3 : DB F G h3 d b p.bk (sWriteWord p.bk [] s1 ((p.pl + 1 : Nat) : Int) 0 (Gp.first p.pl).pk).2.1 (sWriteWord p.bk [] s1 ((p.pl + 1 : Nat) : Int) 0 (Gp.first p.pl).pk).2.2 := w3
  rw [e2] at w3 ⊢
  exact hq h3 w3.dv (st1.trans (Step.drop pt st3 fg))
end

/-! ### on a sound device -/

theorem swritew_clean {p : Pl} {s : PmS} {l : List Nat} (w : SpI p s l) (f : F0 s) (hb : ∀ k, s.bad k = false) {i k v : Nat} (hi : i < p.pl) (hk : k < 8) (hv : v < 18446744073709551616) :
    ∃ s', swritew p l s i k v = (0, s', l) ∧ SpI p s' l ∧ F0 s' ∧ s'.bad = s.bad ∧ s'.nl = s.nl ∧ ∀ j, j < p.pl → rd p s' l j = if j = i then withW (rd p s l i) k v else rd p s l j := by
  obtain ⟨f1, f2⟩ := whN_lt w.ok w.len hi
  have h1 := f.putw (v := ((v : Nat) : Int)) f1 hk
  have o := swritew_out w hi hk hv
  have hr : R64 ((v : Nat) : Int) := ⟨by omega, by omega⟩
  have w1 := w.putw f2 f1 hk hr h1.1
  have e : swritew p l s i k v = (0, (lnputw s (whN p l i : Nat) (k : Nat) (v : Nat)).2, l) := by
    unfold swritew
    rw [lnget_on w.on f1, if_pos rfl, if_pos h1.1]
    refine if_pos ((media_took w1.w (by rw [lnputw_nl]; exact f1) (withW_size _ _ _)).1 ?_)
    obtain ⟨_, m⟩ := w.on.putw0 f1 hk h1.1 (v := ((v : Nat) : Int))
    refine rdN_eq (withW_size _ _ _) fun j hj => ?_
    have hv0 : ∀ w', (s.media w').toNat < 18446744073709551616 ∧ s.media w' = (((s.media w').toNat : Nat) : Int) := fun w' => by have := w.w.media w'; unfold R64 at this; omega
    have wd : wordAt (lnbytes fun k => (s.media (8 * whN p l i + k)).toNat) j = (s.media (8 * whN p l i + j)).toNat := wordAt_text (f := fun k => (s.media (8 * whN p l i + k)).toNat) hj (hv0 _).1
    have wb : wordAt (withW (lnbytes fun k => (s.media (8 * whN p l i + k)).toNat) k v) j = if j = k then v else wordAt (lnbytes fun k => (s.media (8 * whN p l i + k)).toNat) j := wordAt_text (f := fun j => if j = k then v else wordAt (lnbytes fun k => (s.media (8 * whN p l i + k)).toNat) j) hj (by split; exact hv; exact wordAt_lt _ _)
    rw [wb, m _ (by omega)]
    by_cases ej : j = k
    · rw [if_pos ⟨by omega, hb _⟩, if_pos ej]
    · rw [if_neg (fun h => ej (by omega)), if_neg ej, wd]; exact (hv0 _).2
  rw [e] at o
  refine ⟨_, e, w1, h1.2, lnputw_bad w.on f1 hk, lnputw_nl _ _ _ _, ?_⟩
  rcases o with o | o | o
  · exact o.2.2
  · have := o.1; cases this
  · have := o.1; cases this

/-- Sound, and no fuse. -/
structure Sd (s : PmS) : Prop where
  f : F0 s
  nb : ∀ k, s.bad k = false

/-- What a slot's write does on a sound device. -/
def FClean (p : RPl) (f : PmS → List Nat → Nat → Int × PmS × List Nat) : Prop :=
  ∀ (s : PmS) (l : List Nat) (k : Nat), k < p.bk.pl → SpI p.bk s l → Sd s → ∃ s', f s l k = (0, s', l) ∧ Sd s' ∧ s'.nl = s.nl

theorem FClean.write (p : RPl) {B : ByteArray} (hB : B.size = 64) : FClean p (fun s l k => swrite p.bk l s k B) := fun s l k hk sp sd => by
  obtain ⟨s', e, _, f, b, n, _⟩ := swrite_clean sp sd.f sd.nb hk hB
  exact ⟨s', e, ⟨f, fun k => by rw [b]; exact sd.nb k⟩, n⟩
theorem FClean.word (p : RPl) {j v : Nat} (hj : j < 8) (hv : v < 18446744073709551616) : FClean p (fun s l k => swritew p.bk l s k j v) := fun s l k hk sp sd => by
  obtain ⟨s', e, _, f, b, n, _⟩ := swritew_clean sp sd.f sd.nb hk hj hv
  exact ⟨s', e, ⟨f, fun k => by rw [b]; exact sd.nb k⟩, n⟩

theorem FOut.write (p : RPl) (x : RS) {B : ByteArray} (hB : B.size = 64) : FOut p x (fun s l k => swrite p.bk l s k B) (fun _ => B) (fun b y => mixP b B y) := fun _ _ _ hk sp => swrite_out sp hk hB
theorem FOut.word (p : RPl) (x : RS) {j v : Nat} (hj : j < 8) (hv : v < 18446744073709551616) : FOut p x (fun s l k => swritew p.bk l s k j v) (fun b => withW b j v) (fun b y => y = b ∨ y = withW b j v) := fun _ _ _ hk sp => swritew_out sp hk hj hv

theorem rmove_clean {p : RPl} {x : RS} (w : RgI p x) (sd : Sd x.s) : (rmove p x).1 = 0 ∧ Sd (rmove p x).2.s ∧ (rmove p x).2.s.nl = x.s.nl := by
  obtain ⟨ok, d1, d2, d3, d4, d5, _, mv⟩ := Gp.move w.g
  obtain ⟨s', e, sp, f, b, n, _⟩ := swrite_clean w.sp sd.f sd.nb (i := x.g.dst p.pl) (B := rd p.bk x.s x.l (x.g.src p.pl)) (by rw [bk_pl]; omega) (rdN_size _ _)
  have nb : ∀ k, s'.bad k = false := fun k => by rw [b]; exact sd.nb k
  obtain ⟨s2, e2, sp2, f2, b2, n2, _⟩ := swritew_clean sp f nb (i := p.pl + 1) (k := 0) (v := (x.g.next p.pl).pk) (by rw [bk_pl]; omega) (by omega) (Gp.pk_lt ok)
  have er : rmove p x = (0, ⟨s2, x.l, x.g.next p.pl, 0⟩) := by
    unfold rmove rmove1
    rw [e, if_pos rfl]
    unfold rmove2
    rw [e2, if_pos rfl]
  rw [er]
  exact ⟨rfl, ⟨f2, fun k => by rw [b2]; exact nb k⟩, n2.trans n⟩

theorem rput_clean {p : RPl} {x : RS} {f : PmS → List Nat → Nat → Int × PmS × List Nat} (w : RgI p x) (sd : Sd x.s) {i : Nat} (hi : i < p.pl) (hf : FClean p f) :
    (rput p f x i).1 = 0 ∧ Sd (rput p f x i).2.s ∧ (rput p f x i).2.s.nl = x.s.nl ∧ (rput p f x i).2.g = x.g ∧ (rput p f x i).2.n = x.n + 1 := by
  have hs := (Gp.slot_at w.g hi).2.1
  obtain ⟨s', e, sd', n⟩ := hf x.s x.l (x.g.slot p.pl i) (by rw [bk_pl]; omega) w.sp sd
  unfold rput rput2
  rw [e]
  exact ⟨rfl, sd', n, rfl, rfl⟩

/-- A write on a sound device: done; it moves on after psi of them. -/
theorem rwrite_clean {p : RPl} {x : RS} {f : PmS → List Nat → Nat → Int × PmS × List Nat} (w : RgI p x) (sd : Sd x.s) {i : Nat} (hi : i < p.pl) (hf : FClean p f) :
    (rwrite p f x i).1 = 0 ∧ Sd (rwrite p f x i).2.s ∧ (rwrite p f x i).2.s.nl = x.s.nl ∧ (rwrite p f x i).2.g = (if p.psi ≤ x.n then x.g.next p.pl else x.g) ∧ (rwrite p f x i).2.n = (if p.psi ≤ x.n then 1 else x.n + 1) := by
  unfold rwrite
  by_cases h : p.psi ≤ x.n
  · rw [if_pos h, if_pos h, if_pos h]
    obtain ⟨e, sd1, n1⟩ := rmove_clean w sd
    rw [if_pos e]
    rcases rmove_out w with ⟨_, w1, _, z, g1⟩ | ⟨e2, _⟩ | ⟨e2, _⟩
    · have r := rput_clean w1 sd1 hi hf
      exact ⟨r.1, r.2.1, r.2.2.1.trans n1, r.2.2.2.1.trans g1, by rw [r.2.2.2.2, z]⟩
    · rw [e] at e2; cases e2
    · rw [e] at e2; cases e2
  · rw [if_neg h, if_neg h, if_neg h]
    exact rput_clean w sd hi hf

/-- A new region on a new device. -/
theorem rformat_new {p : RPl} {n : Nat} (hb : RpB p n) : ∃ s1 s2, sformat p.bk (pnew n) = (0, s1) ∧ SpI p.bk s1 [] ∧ swritew p.bk [] s1 (p.pl + 1) 0 (Gp.first p.pl).pk = (0, s2, []) ∧ RgI p ⟨s2, [], Gp.first p.pl, 0⟩ ∧ Sd s2 ∧ s2.nl = n ∧ ∀ j, j < p.pl → rr p ⟨s2, [], Gp.first p.pl, 0⟩ j = zero64 := by
  obtain ⟨s1, e1, cl, sp, n1, b1, m1, k1⟩ := sformat_new hb.ok
  have ok := Gp.first_ok hb.l1 hb.l2
  obtain ⟨s2, e2, sp2, f2, b2, n2, r2⟩ := swritew_clean sp ⟨cl.off, cl.fuse⟩ (fun k => by rw [b1]) (i := p.pl + 1) (k := 0) (v := (Gp.first p.pl).pk) (by rw [bk_pl]; omega) (by omega) (Gp.pk_lt ok)
  refine ⟨s1, s2, e1, sp, e2, ⟨sp2, ok, ?_, hb.l1, hb.l2, hb.q1, hb.q2, Nat.zero_le _⟩, ⟨f2, fun k => by rw [b2, b1]⟩, n2.trans n1, fun j hj => ?_⟩
  · show wordAt (rd p.bk s2 [] (p.pl + 1)) 0 = _
    rw [r2 _ (by rw [bk_pl]; omega), if_pos rfl, wordAt_withW (Gp.pk_lt ok)]
  · have hs := Gp.slot_at ok hj
    show rd p.bk s2 [] ((Gp.first p.pl).slot p.pl j) = _
    rw [r2 _ (by rw [bk_pl]; omega), if_neg (by omega)]
    refine rdN_eq rfl fun k hk => ?_
    have := (whN_lt (p := p.bk) (l := []) (n := n) hb.ok (Nat.zero_le _) (show (Gp.first p.pl).slot p.pl j < p.bk.pl by rw [bk_pl]; omega)).1
    rw [zero64_word, m1 _ (by omega)]; rfl
end Go.Gb
namespace Go.Gb
open Go.Proofs IntWalk

/-! ## SpareTorn: the turns -/

section
variable {hk h0 h : Heap} {F G : Nat → Prop} {d b : Nat} {s : PmS} {l : List Nat} {Q : Value → Heap → Prop} {ba : Option Addr} {bs : List Int} {bc bc2 : Nat} {s0 s1 : ByteArray} {c0 c1 c2 t28 turn : Int}

end

end Go.Gb
namespace Go.Gb
open Go.Proofs IntWalk

/-! ## gabionlaw07: full, wakes -/

theorem gabionlaw07_full.c {s : ByteArray} {h : Heap} {Q : Value → Heap → Prop} (hs : s.size ≤ 140737488351232) (hq : Q (.string (fullB s)) h) : C Tryz.prog 14 #[.string s] h Q := by
  apply gabionlaw07_full.ok
  refine strings_Repeat.c (c := 64) (by omega) (by show 1 ≤ 1000000; omega) ⟨_, rfl, ?_, ?_, hq⟩
  · show ((s.size + zero64.size : Nat) : Int) ≤ _
    rw [zero64_size]; omega
  · show (0 : Int) ≤ 64 ∧ (64 : Int) ≤ ((s ++ zero64).size : Int)
    rw [ByteArray.size_append, zero64_size]; omega

theorem rwrite_sound {p : RPl} {x : RS} {f : PmS → List Nat → Nat → Int × PmS × List Nat} {T : ByteArray → ByteArray} {M : ByteArray → ByteArray → Prop} (w : RgI p x) (sd : Sd x.s) {i : Nat} (hi : i < p.pl) (hf : FClean p f) (ho : FOut p x f T M) (hM : M (rr p x i) (rr p x i)) :
    ∃ x', rwrite p f x i = (0, x') ∧ RgI p x' ∧ Sd x'.s ∧ x'.s.nl = x.s.nl ∧ x'.g = (if p.psi ≤ x.n then x.g.next p.pl else x.g) ∧ x'.n = (if p.psi ≤ x.n then 1 else x.n + 1) ∧ ∀ j, j < p.pl → rr p x' j = if j = i then T (rr p x i) else rr p x j := by
  obtain ⟨c1, c2, c3, c4, c5⟩ := rwrite_clean w sd hi hf
  have o := rwrite_out w hi ho hM
  generalize rwrite p f x i = q at c1 c2 c3 c4 c5 o
  obtain ⟨e, x'⟩ := q
  have c1 : e = 0 := c1
  subst c1
  rcases o with o | o | o
  · exact ⟨x', rfl, o.2.1, c2, c3, c4, c5, o.2.2⟩
  · have := o.1; cases this
  · have := o.1; cases this

theorem mixP_self {b : ByteArray} {B : ByteArray} (hb : b.size = 64) (hB : B.size = 64) : mixP b B b := ⟨hb, hB, hb, fun _ _ => .inl rfl⟩
theorem rr_size (p : RPl) (x : RS) (j : Nat) : (rr p x j).size = 64 := rdN_size _ _

theorem rWrite_eq {p : RPl} {x : RS} {i : Nat} {B : ByteArray} (hi : i < p.pl) (hB : B.size = 64) : rWrite p x (i : Int) B = rwrite p (fun s l k => swrite p.bk l s k B) x i := by
  unfold rWrite; rw [if_pos hB, if_pos (by omega), Int.toNat_natCast]
theorem rWriteWord_eq {p : RPl} {x : RS} {i k v : Nat} (hi : i < p.pl) (hk : k < 8) : rWriteWord p x (i : Int) (k : Int) v = rwrite p (fun s l j => swritew p.bk l s j k v) x i := by
  unfold rWriteWord; rw [if_pos (by omega), if_pos (by omega), Int.toNat_natCast, Int.toNat_natCast]

/-- A line is written on a sound device. -/
theorem rWrite_sound {p : RPl} {x : RS} (w : RgI p x) (sd : Sd x.s) {i : Nat} (hi : i < p.pl) {B : ByteArray} (hB : B.size = 64) :
    ∃ x', rWrite p x (i : Int) B = (0, x') ∧ RgI p x' ∧ Sd x'.s ∧ x'.s.nl = x.s.nl ∧ x'.g = (if p.psi ≤ x.n then x.g.next p.pl else x.g) ∧ x'.n = (if p.psi ≤ x.n then 1 else x.n + 1) ∧ ∀ j, j < p.pl → rr p x' j = if j = i then B else rr p x j := by
  rw [rWrite_eq hi hB]
  exact rwrite_sound w sd hi (FClean.write p hB) (FOut.write p x hB) (mixP_self (rr_size _ _ _) hB)
theorem rWriteWord_sound {p : RPl} {x : RS} (w : RgI p x) (sd : Sd x.s) {i k v : Nat} (hi : i < p.pl) (hk : k < 8) (hv : v < 18446744073709551616) :
    ∃ x', rWriteWord p x (i : Int) (k : Int) v = (0, x') ∧ RgI p x' ∧ Sd x'.s ∧ x'.s.nl = x.s.nl ∧ x'.g = (if p.psi ≤ x.n then x.g.next p.pl else x.g) ∧ x'.n = (if p.psi ≤ x.n then 1 else x.n + 1) ∧ ∀ j, j < p.pl → rr p x' j = if j = i then withW (rr p x i) k v else rr p x j := by
  rw [rWriteWord_eq hi hk]
  exact rwrite_sound w sd hi (FClean.word p hk hv) (FOut.word p x hk hv) (.inl rfl)

/-- A region, beside what there was. -/
structure Rq (h0 h : Heap) (F G : Nat → Prop) (d b r : Nat) (p : RPl) (x : RS) : Prop where
  rd : RD F G h d b r p x
  pt : Part h0 h
  ff : ∀ k, h0 k ≠ none → ¬ FR F G r k

section
variable {F G : Nat → Prop} {h0 h h1 : Heap} {d b r n : Nat} {p : RPl} {x x' : RS} {Q : Value → Heap → Prop}

theorem Rq.next (i : Rq h0 h F G d b r p x) (w : RD F G h1 d b r p x') (st : Step (FR F G r) h (FR F G r) h1) : Rq h0 h1 F G d b r p x' := ⟨w, st.part i.pt i.ff, i.ff⟩
theorem Rq.part (i : Rq h0 h F G d b r p x) (pt : Part h h1) : Rq h0 h1 F G d b r p x := ⟨i.rd.part pt, i.pt.trans pt, i.ff⟩
theorem Rq.dev {s' : PmS} (i : Rq h0 h F G d b r p x) (w : PmD F h1 d s') (st : Step F h F h1) : Rq h0 h1 F G d b r p ⟨s', x.l, x.g, x.n⟩ :=
  i.next (i.rd.bank (i.rd.db.dev w st) st.left) st.left.left

/-- The region is opened on its device. -/
theorem Rq.of_open {h2 : Heap} (w : RD F G h2 d b r p x) (pt : Part h h1) (pt2 : Part h1 h2) (hF : ∀ k, h k ≠ none → ¬ F k) (hG : ∀ k, G k → h1 k = none) (hr : h1 r = none) : Rq h h2 F G d b r p x := by
  refine ⟨w, pt.trans pt2, fun k hk hf => ?_⟩
  have e := part_live pt hk
  rcases hf with (hf | hf) | hf
  · exact hF k hk hf
  · rw [hG k hf] at e; exact hk e.symm
  · have hf : k = r := hf
    rw [hf, hr] at e; rw [hf] at hk; exact hk e.symm

def pwr : RPl := ⟨0, 4, 0, 2⟩
theorem pwr_ok : RpB pwr 6 := ⟨by decide, by decide, by decide, by decide, by decide, by decide, by decide, by decide, by decide⟩

set_option maxRecDepth 100000 in
theorem gabionlaw07_wakes.c {h : Heap} (hq : ∀ h', Part h h' → Q (.bool true) h') : C Tryz.prog 10 #[] h Q := by
  apply gabionlaw07_wakes.ok
  obtain ⟨s1, s2, e1, sp1, e2, rg, sd, n2, rz⟩ := rformat_new pwr_ok
  refine pm_New.c (n := 6) (by omega) (by omega) fun d F h1 w1 fr lv1 p1 => ⟨_, _, rfl, ring_Format.c (p := pwr) w1 lv1 pwr_ok e1 sp1 fun h2 w2 st2 => ⟨_, rfl, ?_⟩⟩
  rw [e2] at w2 ⊢
  have hff : ∀ k, h k ≠ none → ¬ F k := fun k hk' hf => hk' (fr k hf)
  have P2 : Part h h2 := st2.part p1 hff
  have lv2 := st2.dom lv1
  refine ring_Open.c (p := pwr) (x := ⟨s2, [], Gp.first pwr.pl, 0⟩) w2 lv2 rg fun b r G h3 w3 fG fr3 p3 => ⟨_, _, rfl, xsIf_f rfl (xsIf_f rfl (xsIf_f rfl ?_))⟩
  have i3 := Rq.of_open w3 P2 p3 hff fG fr3
  refine ring_Ring_State.c w3 ⟨_, _, _, rfl, gap_First.c ⟨_, _, _, rfl, xsIf_f rfl ?_⟩⟩
  apply gabionlaw07_wakes.J7.ok
  have hp : pwr.pl = 4 := rfl
  have hpsi : pwr.psi = 2 := rfl
  obtain ⟨x1, q1, rg1, sd1, nl1, g1, m1, r1⟩ := rWrite_sound rg sd (i := 0) (by omega) (fullB_size ⟨#[UInt8.ofNat 97]⟩)
  obtain ⟨x2, q2, rg2, sd2, nl2, g2, m2, r2⟩ := rWrite_sound rg1 sd1 (i := 3) (by omega) (fullB_size bB)
  obtain ⟨x3, q3, rg3, sd3, nl3, g3, m3, r3⟩ := rWriteWord_sound rg2 sd2 (i := 1) (k := 0) (v := 5) (by omega) (by omega) (by omega)
  have m1 : x1.n = 1 := m1
  have m2 : x2.n = 2 := by rw [m2, m1]; rfl
  have m3 : x3.n = 1 := by rw [m3, m2]; rfl
  have g1 : x1.g = Gp.first 4 := g1
  have g2 : x2.g = Gp.first 4 := by rw [g2, m1, g1]; rfl
  have g3 : x3.g = (Gp.first 4).next 4 := by rw [g3, m2, g2]; rfl
  refine gabionlaw07_full.c (by decide) ⟨_, rfl, ring_Ring_Write.c (i := 0) w3 rg fun h4 w4 st4 => ⟨_, rfl, ?_⟩⟩
  have q1' : rWrite pwr ⟨s2, [], Gp.first pwr.pl, 0⟩ 0 (fullB ⟨#[UInt8.ofNat 97]⟩) = (0, x1) := q1
  rw [q1'] at w4
  have i4 := i3.next w4 st4
  refine gabionlaw07_full.c (by decide) ⟨_, rfl, ring_Ring_Write.c (i := 3) (B := fullB bB) i4.rd rg1 fun h5 w5 st5 => ⟨_, rfl, ?_⟩⟩
  have q2' : rWrite pwr x1 3 (fullB bB) = (0, x2) := q2
  rw [q2'] at w5
  have i5 := i4.next w5 st5
  refine ring_Ring_State.c i5.rd ⟨_, _, _, rfl, ring_Ring_WriteWord.c (i := 1) (k := 0) (v := 5) i5.rd rg2 (by omega) fun h6 w6 st6 => ⟨_, rfl, ?_⟩⟩
  have q3' : rWriteWord pwr x2 1 0 5 = (0, x3) := q3
  rw [q3'] at w6 ⊢
  have i6 := i5.next w6 st6
  refine ring_Ring_Read.c (i := 3) i6.rd rg3.g rg3.sp (fun _ _ => ⟨_, _, rfl, ?_⟩) fun hn => absurd ⟨by omega, by omega⟩ hn
  have er : rr pwr x3 3 = fullB bB := by rw [r3 3 (by omega), if_neg (by omega), r2 3 (by omega), if_pos rfl]
  refine xsIf_t (by rw [g2]; rfl) (xsIf_t rfl (xsIf_t rfl (gabionlaw07_full.c (by decide) ⟨_, rfl, xsIf_t (decide_eq_true er) (ring_Ring_State.c i6.rd ⟨_, _, _, rfl, xsIf_t ?_ (ring_Ring_Since.c i6.rd ⟨_, rfl, ?_⟩)⟩)⟩)))
  · rw [g3]; exact decide_eq_true (by rw [(Gp.move (Gp.first_ok (pl := 4) (by omega) (by omega))).2.2.2.2.2.2.1, u32_w]; rfl)
  · rw [m3]; exact hq h6 i6.pt
end
end Go.Gb
namespace Go.Gb
open Go.Proofs IntWalk

/-! ## gabionref07 over the same pure state -/

def refCs (p : RPl) (n : Nat) : List Value := [.int .i64 p.pa, .int .i64 p.pl, .int .i64 p.ps, .int .i64 p.psi, .int .i64 (n : Nat)]

structure RR (M : Nat → Prop) (h : Heap) (m qb : Nat) (p : RPl) (x : RS) : Prop where
  rf : RfD M h m x.s
  lm : Live M h
  qc : Blk h qb (refCs p x.n)
  nq : ¬ M qb

abbrev MR (M : Nat → Prop) (qb : Nat) : Nat → Prop := fun k => M k ∨ k = qb

section
variable {M : Nat → Prop} {h h1 : Heap} {m qb n : Nat} {p : RPl} {x : RS} {Q : Value → Heap → Prop}

theorem RR.c0 (w : RR M h m qb p x) : h.cell qb (0 + 0) = some (.int .i64 p.pa) := w.qc.cell 0
theorem RR.c1 (w : RR M h m qb p x) : h.cell qb (0 + 0 + 1) = some (.int .i64 p.pl) := w.qc.cell 1
theorem RR.c2 (w : RR M h m qb p x) : h.cell qb (0 + 0 + 1 + 1) = some (.int .i64 p.ps) := w.qc.cell 2
theorem RR.c3 (w : RR M h m qb p x) : h.cell qb (0 + 0 + 1 + 1 + 1) = some (.int .i64 p.psi) := w.qc.cell 3
theorem RR.c4 (w : RR M h m qb p x) : h.cell qb (0 + 4) = some (.int .i64 (x.n : Nat)) := w.qc.cell 4

/-- The device works on; the record stays. -/
theorem RR.dev {s' : PmS} {l' : List Nat} {g' : Gp} (w : RR M h m qb p x) (w1 : RfD M h1 m s') (st : Step M h M h1) : RR M h1 m qb p ⟨s', l', g', x.n⟩ :=
  ⟨w1, st.dom w.lm, w.qc.keep (st.keep qb w.nq w.qc.ne), w.nq⟩
theorem RR.part (w : RR M h m qb p x) (pt : Part h h1) : RR M h1 m qb p x := ⟨w.rf.keep fun _ _ hk => part_live pt hk, (Step.of_part pt).dom w.lm, w.qc.keep (part_live pt w.qc.ne), w.nq⟩
/-- The writes since a move are written. -/
theorem RR.put {x' : RS} (w : RR M h m qb p x) (hs : x'.s = x.s) : RR M (h.put qb (0 + 4) [.int .i64 (x'.n : Nat)]) m qb p x' ∧ Step (MR M qb) h (MR M qb) (h.put qb (0 + 4) [.int .i64 (x'.n : Nat)]) := by
  have st : Step (fun k => k = qb) h (fun k => k = qb) (h.put qb (0 + 4) [.int .i64 (x'.n : Nat)]) := Step.put (F := fun k => k = qb) rfl _ _
  refine ⟨⟨?_, st.alive w.lm, w.qc.put (0 + 4) [.int .i64 (x'.n : Nat)], w.nq⟩, st.right⟩
  rw [hs]
  exact w.rf.keep fun k hk _ => put_other _ _ _ fun e => w.nq (by rw [← e]; exact hk)

theorem gabionref07_Bank.c (hb : RpB p n) (hq : Q (plV p.bk) h) : C Tryz.prog 53 #[ringV p] h Q := by
  have := hb.l2
  apply gabionref07_Bank.ok
  unfold gabionref07_Bank.wp
  rw [show IntKind.i64.wrap ((p.pl : Int) + 2) = ((p.pl + 2 : Nat) : Int) by rw [i64_in _ (by omega)]; omega]
  exact hq
theorem gabionref07_Check.c (hb : RpB p n) (hq : Q (.int .i64 0) h) : C Tryz.prog 99 #[ringV p, .int .i64 (n : Int)] h Q := by
  have := hb.l1
  have := hb.l2
  have := hb.q1
  have := hb.q2
  apply gabionref07_Check.ok
  refine xsIf_f (decide_eq_false (by omega)) (xsIf_f (decide_eq_false (by omega)) (xsIf_f (decide_eq_false (by omega)) (xsIf_f (decide_eq_false (by omega)) (gabionref07_Bank.c hb ⟨_, _, _, rfl, gabionref05_Check.c ⟨_, rfl, ?_⟩⟩))))
  rw [hb.ok.check]; exact hq

theorem gabionref07_line.c {p : Pl} {s : PmS} {l : List Nat} {i : Nat} (w : RfD M h m s) (sp : SpI p s l) (hi : i < p.pl) (hq : ∀ h', Part h h' → Q (.tuple #[.string (rd p s l i), .int .i64 0]) h') :
    C Tryz.prog 106 #[.pointer (some ⟨m, 0, none⟩), plV p, .int .i64 (i : Int)] h Q := by
  apply gabionref07_line.ok
  refine gabionref05_Entries.c w sp fun a cp h1 p1 hr => ⟨_, _, _, _, rfl, xsIf_f rfl (gabionref05_Where.c sp.ok.b sp.len hi hr (ents_small sp) ⟨_, rfl, gabionref04_Get.c (w.keep fun _ _ hk => part_live p1 hk) sp.w ⟨_, _, rfl, ?_⟩⟩)⟩
  rw [lnget_rd sp hi]
  exact hq h1 p1

theorem gabionref07_State.c (w : RfD M h m x.s) (iv : RgI p x) (hq : ∀ h', Part h h' → Q (.tuple #[.int .i64 x.g.s0, .int .i64 x.g.s1, .int .u64 x.g.s2, .int .i64 0]) h') :
    C Tryz.prog 62 #[.pointer (some ⟨m, 0, none⟩), ringV p] h Q := by
  have hb := iv.rb
  have l2 := iv.l2
  apply gabionref07_State.ok
  refine gabionref07_Bank.c hb ⟨_, _, _, rfl, ?_⟩
  rw [show IntKind.i64.wrap ((p.pl : Int) + 1) = ((p.pl + 1 : Nat) : Int) by rw [i64_in _ (by omega)]; omega]
  refine gabionref07_line.c w iv.sp (by rw [bk_pl]; omega) fun h1 p1 => ⟨_, _, rfl, xsIf_f rfl ⟨?_, gabionref01_Get.c ⟨_, rfl, ?_⟩⟩⟩
  · rw [show (rd p.bk x.s x.l (p.pl + 1)).size = 64 from rdN_size _ _]; omega
  · have e0 : get8 (sext (rd p.bk x.s x.l (p.pl + 1)) 0 8) = x.g.pk := (get8_mid (k := 0)).trans iv.reg
    rw [e0]
    obtain ⟨q0, q1, q2⟩ := pk_parts iv.g
    have hlt := Gp.pk_lt iv.g
    have e1 : IntKind.i64.wrap (irem ((x.g.pk : Nat) : Int) 65536) = x.g.s0 := by
      rw [show irem ((x.g.pk : Nat) : Int) 65536 = ((x.g.pk % 65536 : Nat) : Int) from irem_nat _ 65536, i64_in _ (by omega), q0]
    have e2 : iquo .u64 ((x.g.pk : Nat) : Int) 65536 = ((x.g.pk / 65536 : Nat) : Int) := iquo_u64 65536 hlt
    have e3 : IntKind.i64.wrap (irem (iquo .u64 ((x.g.pk : Nat) : Int) 65536) 65536) = x.g.s1 := by
      rw [e2, show irem ((x.g.pk / 65536 : Nat) : Int) 65536 = ((x.g.pk / 65536 % 65536 : Nat) : Int) from irem_nat _ 65536, i64_in _ (by omega), q1]
    have e4 : iquo .u64 ((x.g.pk : Nat) : Int) 4294967296 = x.g.s2 := by
      rw [show iquo .u64 ((x.g.pk : Nat) : Int) 4294967296 = ((x.g.pk / 4294967296 : Nat) : Int) from iquo_u64 4294967296 hlt, q2]
    rw [e1, e3, e4]
    refine gabionref06_Right.c ⟨_, rfl, xsIf_f ?_ (hq h1 p1)⟩
    rw [decide_eq_true iv.g.r]; rfl

theorem gabionref07_slot.c {g : Gp} {pl i : Nat} (o : g.ok pl) (hi : i < pl) (hq : ∀ h', Part h h' → Q (.int .i64 (g.slot pl i : Nat)) h') :
    C Tryz.prog 63 #[.int .i64 g.s0, .int .i64 g.s1, .int .i64 (pl : Int), .int .i64 (i : Int)] h Q := by
  apply gabionref07_slot.ok
  have hr := o.r
  unfold rightP at hr
  obtain ⟨a1, a2, a3, a4⟩ := Gp.slot_at o hi
  refine gabionref06_Slots.c o.r fun a c h1 o1 => ⟨_, _, _, rfl, ?_⟩
  have loop : ∀ (j k : Nat), k + j = g.slot pl i → gabionref07_slot.L3 (i : Int) a (pl + 1) c (k : Int) h1 Q := by
    intro j
    induction j with
    | zero =>
      intro k hk
      apply gabionref07_slot.L3.ok
      have hk : k = g.slot pl i := by omega
      refine xsIf_t (decide_eq_true (by omega)) ⟨by omega, reads_base o1.reads (by simp [linesL]) fun b off hc => ⟨lineE g.s0 g.s1 pl (k : Nat), ?_, ?_⟩⟩
      · have := hc k (by simp [linesL]; omega)
        rw [show (k : Int).toNat * 1 = k * 1 by omega, this, List.getElem?_map, linesL_get (by omega)]; rfl
      · rw [hk, a4]
        exact xsIf_t (decide_eq_true rfl) (hq h1 o1.part)
    | succ j ih =>
      intro k hk
      apply gabionref07_slot.L3.ok
      refine xsIf_t (decide_eq_true (by omega)) ⟨by omega, reads_base o1.reads (by simp [linesL]) fun b off hc => ⟨lineE g.s0 g.s1 pl (k : Nat), ?_, ?_⟩⟩
      · have := hc k (by simp [linesL]; omega)
        rw [show (k : Int).toNat * 1 = k * 1 by omega, this, List.getElem?_map, linesL_get (by omega)]; rfl
      · refine xsIf_f (decide_eq_false fun e => ?_) ?_
        · by_cases hs : ((k : Nat) : Int) = g.s1
          · unfold lineE at e
            rw [if_pos hs] at e
            omega
          · have := (slotE_lineE o.r (p := (k : Int)) (by omega) (by omega) hs).1
            rw [e] at this
            omega
        · rw [show IntKind.i64.wrap ((k : Int) + 1) = ((k + 1 : Nat) : Int) by rw [i64_in _ (by omega)]; omega]
          exact ih (k + 1) (by omega)
  exact loop (g.slot pl i) 0 (by omega)

theorem gabionref07_Where.c {i : Nat} (w : RfD M h m x.s) (iv : RgI p x) (hi : i < p.pl) (hq : ∀ h', Part h h' → Q (.tuple #[.int .i64 (whN p.bk x.l (x.g.slot p.pl i) : Nat), .int .i64 0]) h') :
    C Tryz.prog 66 #[.pointer (some ⟨m, 0, none⟩), ringV p, .int .i64 (i : Int)] h Q := by
  have sp := iv.sp
  have hs := (Gp.slot_at iv.g hi).2.1
  apply gabionref07_Where.ok
  refine gabionref07_State.c w iv fun h1 p1 => ⟨_, _, _, _, rfl, xsIf_f rfl (gabionref07_Bank.c iv.rb ⟨_, _, _, rfl, ?_⟩)⟩
  refine gabionref05_Entries.c (p := p.bk) (w.keep fun _ _ hk => part_live p1 hk) sp fun a cp h2 p2 hr => ⟨_, _, _, _, rfl, xsIf_f rfl ?_⟩
  refine gabionref07_slot.c iv.g hi fun h3 p3 => ⟨_, rfl, gabionref05_Where.c (p := p.bk) sp.ok.b sp.len (by rw [bk_pl]; omega) (readsAt_part hr p3) (ents_small sp) ⟨_, rfl, hq h3 ((p1.trans p2).trans p3)⟩⟩

theorem gabionref07_Read.c {i : Int} (w : RfD M h m x.s) (iv : RgI p x) (hy : 0 ≤ i → i < p.pl → ∀ h', Part h h' → Q (.tuple #[.string (rr p x i.toNat), .int .i64 0]) h') (hn : ¬ (0 ≤ i ∧ i < p.pl) → Q (.tuple #[.string ⟨#[]⟩, .int .i64 3]) h) :
    C Tryz.prog 25 #[.pointer (some ⟨m, 0, none⟩), ringV p, .int .i64 i] h Q := by
  apply gabionref07_Read.ok
  refine xsIf_intro (fun h1 => hn fun h2 => by have := of_decide_eq_true h1; omega) fun h1 => xsIf_intro (fun h2 => hn fun h3 => by have := of_decide_eq_true h2; omega) fun h2 => ?_
  have h1 := of_decide_eq_false h1
  have h2 := of_decide_eq_false h2
  obtain ⟨i, rfl⟩ : ∃ k : Nat, i = k := ⟨i.toNat, by omega⟩
  have hy := hy (by omega) (by omega)
  rw [Int.toNat_natCast] at hy
  have hs := (Gp.slot_at iv.g (i := i) (by omega)).2.1
  apply gabionref07_Read.J3.ok
  refine gabionref07_Where.c w iv (by omega) fun h3 p3 => ⟨_, _, rfl, xsIf_f rfl (gabionref04_Get.c (w.keep fun _ _ hk => part_live p3 hk) iv.sp.w ⟨_, _, rfl, ?_⟩)⟩
  rw [lnget_rd iv.sp (by rw [bk_pl]; omega)]
  exact hy h3 p3

theorem gabionref07_move.c (w : RR M h m qb p x) (iv : RgI p x) (hq : ∀ h', RR M h' m qb p (rmove p x).2 → Step (MR M qb) h (MR M qb) h' → Q (.int .i64 (rmove p x).1) h') :
    C Tryz.prog 61 #[.pointer (some ⟨m, 0, none⟩), .pointer (some ⟨qb, 0, none⟩)] h Q := by
  obtain ⟨ok, d1, d2, d3, d4, d5, d6, -⟩ := Gp.move iv.g
  have hb := iv.rb
  have l2 := iv.l2
  apply gabionref07_move.ok
  refine ⟨qb, 0, rfl, _, w.c0, _, w.c1, _, w.c2, _, w.c3, gabionref07_Bank.c hb ⟨_, _, _, rfl, gabionref07_State.c w.rf iv fun h1 p1 => ⟨_, _, _, _, rfl, xsIf_f rfl (gabionref06_Next.c iv.g.r (Gp.nextS_eq iv.g) ⟨_, _, _, _, rfl, ?_⟩)⟩⟩⟩
  have w1 := w.part p1
  refine gabionref07_line.c (p := p.bk) w1.rf iv.sp (by rw [bk_pl]; omega) fun h2 p2 => ⟨_, _, rfl, xsIf_f rfl ?_⟩
  have w2 := w1.part p2
  have st2 : Step (MR M qb) h (MR M qb) h2 := Step.of_part (p1.trans p2)
  refine gabionref05_Write.c (p := p.bk) w2.rf w2.lm iv.sp fun h3 w3 st3 => ⟨_, rfl, ?_⟩
  have hB : (rd p.bk x.s x.l (x.g.src p.pl)).size = 64 := rdN_size _ _
  rw [sWrite_eq (by rw [bk_pl]; omega) hB] at w3 ⊢
  have o := swrite_out iv.sp (i := x.g.dst p.pl) (B := rd p.bk x.s x.l (x.g.src p.pl)) (by rw [bk_pl]; omega) hB
  unfold rmove at hq
  generalize swrite p.bk x.l x.s (x.g.dst p.pl) (rd p.bk x.s x.l (x.g.src p.pl)) = a at o w3 hq ⊢
  unfold rmove1 at hq
  by_cases e : a.1 = 0
  · rw [if_pos e] at hq
    have sp : SpI p.bk a.2.1 a.2.2 := by
      rcases o with o | o | o
      · exact o.2.1
      · exact o.2.1
      · rw [e] at o; cases o.1
    have w3' : RR M h3 m qb p ⟨a.2.1, a.2.2, x.g, x.n⟩ := w2.dev w3 st3
    have g0 := iv.g.l
    have g1 := iv.g.h
    have e2 : irem (IntKind.u64.wrap (x.g.s2 + 1)) 4294967296 = (x.g.next p.pl).s2 := by
      rw [u64_w, d6, u32_w, irem_pos (by omega)]; omega
    rw [e2, show IntKind.i64.wrap ((p.pl : Int) + 1) = ((p.pl + 1 : Nat) : Int) by rw [i64_in _ (by omega)]; omega]
    refine xsIf_f (decide_eq_false (fun h => h e)) (gabionref06_Pack.c ok.l (by have := ok.h; omega) ⟨_, rfl, ?_⟩)
    rw [← Gp.pk_int _ ok.l ok.h]
    refine gabionref05_WriteWord.c (p := p.bk) (k := 0) w3'.rf w3'.lm sp (Gp.pk_lt ok) fun h4 w4 st4 => ⟨_, rfl, ?_⟩
    have e3 : sWriteWord p.bk a.2.2 a.2.1 ((p.pl + 1 : Nat) : Int) 0 (x.g.next p.pl).pk = swritew p.bk a.2.2 a.2.1 (p.pl + 1) 0 (x.g.next p.pl).pk := sWriteWord_eq (k := 0) (by rw [bk_pl]; omega) (by omega)
    rw [e3] at w4 ⊢
    generalize swritew p.bk a.2.2 a.2.1 (p.pl + 1) 0 (x.g.next p.pl).pk = bb at w4 hq ⊢
    unfold rmove2 at hq
    by_cases e4 : bb.1 = 0
    · rw [if_pos e4] at hq
      have w4' : RR M h4 m qb p ⟨bb.2.1, bb.2.2, x.g.next p.pl, x.n⟩ := w3'.dev w4 st4
      obtain ⟨w5, st5⟩ := w4'.put (x' := ⟨bb.2.1, bb.2.2, x.g.next p.pl, 0⟩) rfl
      rw [e4]
      exact xsIf_t rfl ⟨qb, 0, rfl, w4'.qc.can (by show 0 + 4 + 1 ≤ 5; omega), hq _ w5 (st2.trans (st3.left.trans (st4.left.trans st5)))⟩
    · rw [if_neg e4] at hq
      exact xsIf_f (decide_eq_false e4) (hq h4 (w3'.dev w4 st4) (st2.trans (st3.left.trans st4.left)))
  · rw [if_neg e] at hq
    exact xsIf_t (decide_eq_true e) (hq h3 (w2.dev w3 st3) (st2.trans st3.left))
end
end Go.Gb
namespace Go.Gb
open Go.Proofs IntWalk

/-! ## gabionref07_Write, Format -/

/-- The whole line, or a word of it. -/
def Kd (p : RPl) (B : ByteArray) (k0 : Int) (v : Nat) (f : PmS → List Nat → Nat → Int × PmS × List Nat) : Prop :=
  (k0 < 0 ∧ B.size = 64 ∧ f = fun s l k => swrite p.bk l s k B) ∨ (∃ k : Nat, k0 = k ∧ k < 8 ∧ v < 18446744073709551616 ∧ f = fun s l j => swritew p.bk l s j k v)

section
variable {M : Nat → Prop} {h h1 : Heap} {m qb n : Nat} {p : RPl} {x : RS} {Q : Value → Heap → Prop} {B : ByteArray} {k0 : Int} {v : Nat} {f : PmS → List Nat → Nat → Int × PmS × List Nat}

theorem gabionref07_Write.J10.c {i : Nat} (kd : Kd p B k0 v f) (w : RR M h m qb p x) (iv : RgI p x) (hi : i < p.pl) (hq : ∀ h', RR M h' m qb p (rput p f x i).2 → Step (MR M qb) h (MR M qb) h' → Q (.int .i64 (rput p f x i).1) h') :
    gabionref07_Write.J10 (some ⟨m, 0, none⟩) (some ⟨qb, 0, none⟩) (i : Int) B k0 (v : Nat) p.pa p.pl p.ps p.psi h Q := by
  have hs := (Gp.slot_at iv.g hi).2.1
  have hn := iv.n
  have hq2 := iv.q2
  apply gabionref07_Write.J10.ok
  refine gabionref07_Bank.c iv.rb ⟨_, _, _, rfl, gabionref07_State.c w.rf iv fun h1 p1 => ⟨_, _, _, _, rfl, xsIf_f rfl ?_⟩⟩
  have w1 := w.part p1
  refine gabionref07_slot.c iv.g hi fun h2 p2 => ⟨_, rfl, ?_⟩
  have w2 := w1.part p2
  have st2 : Step (MR M qb) h (MR M qb) h2 := Step.of_part (p1.trans p2)
  have fin : ∀ h3, RfD M h3 m (f x.s x.l (x.g.slot p.pl i)).2.1 → Step M h2 M h3 →
      xsIf (decide ((f x.s x.l (x.g.slot p.pl i)).1 = 0)) (∃ b o, some (⟨qb, 0, none⟩ : Addr) = some ⟨b, o, none⟩ ∧ ∃ y : Int, h3.cell b (o + 4) = some (.int .i64 y) ∧ ∃ b o, some (⟨qb, 0, none⟩ : Addr) = some ⟨b, o, none⟩ ∧ h3.can b (o + 4) 1 ∧ Q (.int .i64 (f x.s x.l (x.g.slot p.pl i)).1) (h3.put b (o + 4) [.int .i64 (IntKind.i64.wrap (y + 1))]))
        (Q (.int .i64 (f x.s x.l (x.g.slot p.pl i)).1) h3) := by
    intro h3 w3 st3
    unfold rput at hq
    generalize f x.s x.l (x.g.slot p.pl i) = q at w3 hq ⊢
    have w3' : RR M h3 m qb p ⟨q.2.1, q.2.2, x.g, x.n⟩ := w2.dev w3 st3
    unfold rput2 at hq
    by_cases e : q.1 = 0
    · rw [if_pos e] at hq
      obtain ⟨w4, st4⟩ := w3'.put (x' := ⟨q.2.1, q.2.2, x.g, x.n + 1⟩) rfl
      refine xsIf_t (decide_eq_true e) ⟨qb, 0, rfl, _, w3'.c4, qb, 0, rfl, w3'.qc.can (by show 0 + 4 + 1 ≤ 5; omega), ?_⟩
      rw [show IntKind.i64.wrap (((x.n : Nat) : Int) + 1) = ((x.n + 1 : Nat) : Int) by rw [i64_in _ (by omega)]; omega]
      exact hq _ w4 (st2.trans (st3.left.trans st4))
    · rw [if_neg e] at hq
      exact xsIf_f (decide_eq_false e) (hq h3 w3' (st2.trans st3.left))
  rcases kd with ⟨hk, hB, rfl⟩ | ⟨k, rfl, hk, hv, rfl⟩
  · refine xsIf_t (decide_eq_true hk) (gabionref05_Write.c (p := p.bk) w2.rf w2.lm iv.sp fun h3 w3 st3 => ⟨_, rfl, ?_⟩)
    rw [sWrite_eq (by rw [bk_pl]; omega) hB] at w3 ⊢
    exact fin h3 w3 st3
  · refine xsIf_f (decide_eq_false (by omega)) (gabionref05_WriteWord.c (p := p.bk) w2.rf w2.lm iv.sp hv fun h3 w3 st3 => ⟨_, rfl, ?_⟩)
    rw [sWriteWord_eq (by rw [bk_pl]; omega) hk] at w3 ⊢
    exact fin h3 w3 st3

theorem gabionref07_Write.J3.c {i : Int} (kd : Kd p B k0 v f) (w : RR M h m qb p x) (iv : RgI p x)
    (hy : 0 ≤ i → i < p.pl → ∀ h', RR M h' m qb p (rwrite p f x i.toNat).2 → Step (MR M qb) h (MR M qb) h' → Q (.int .i64 (rwrite p f x i.toNat).1) h') (hn : ¬ (0 ≤ i ∧ i < p.pl) → Q (.int .i64 3) h) :
    gabionref07_Write.J3 (some ⟨m, 0, none⟩) (some ⟨qb, 0, none⟩) i B k0 (v : Nat) h Q := by
  apply gabionref07_Write.J3.ok
  refine ⟨qb, 0, rfl, _, w.c0, _, w.c1, _, w.c2, _, w.c3, xsIf_intro (fun h1 => hn fun h2 => by have := of_decide_eq_true h1; omega) fun h1 => xsIf_intro (fun h2 => hn fun h3 => by have := of_decide_eq_true h2; omega) fun h2 => ?_⟩
  have h1 := of_decide_eq_false h1
  have h2 := of_decide_eq_false h2
  obtain ⟨i, rfl⟩ : ∃ k : Nat, i = k := ⟨i.toNat, by omega⟩
  have hq := hy (by omega) (by omega)
  rw [Int.toNat_natCast] at hq
  unfold rwrite at hq
  apply gabionref07_Write.J6.ok
  refine ⟨qb, 0, rfl, _, w.c4, xsIf_intro (fun e => ?_) fun e => ?_⟩
  · have e := of_decide_eq_true e
    rw [if_pos (by omega)] at hq
    refine gabionref07_move.c w iv fun h2 w2 st2 => ⟨_, rfl, ?_⟩
    have o := rmove_out iv
    generalize rmove p x = q at w2 hq o ⊢
    by_cases e2 : q.1 = 0
    · rw [if_pos e2] at hq
      have iv2 : RgI p q.2 := by
        rcases o with o | o | o
        · exact o.2.1
        · exact o.2.1
        · rw [e2] at o; cases o.1
      exact xsIf_f (decide_eq_false (fun h => h e2)) (gabionref07_Write.J10.c kd w2 iv2 (by omega) fun h3 w3 st3 => hq h3 w3 (st2.trans st3))
    · rw [if_neg e2] at hq
      exact xsIf_t (decide_eq_true e2) (hq h2 w2 st2)
  · have e := of_decide_eq_false e
    rw [if_neg (by omega)] at hq
    exact gabionref07_Write.J10.c kd w iv (by omega) hq

theorem gabionref07_Write.line {i : Int} {v : Int} (w : RR M h m qb p x) (iv : RgI p x) (hv : 0 ≤ v) (hq : ∀ h', RR M h' m qb p (rWrite p x i B).2 → Step (MR M qb) h (MR M qb) h' → Q (.int .i64 (rWrite p x i B).1) h') :
    C Tryz.prog 24 #[.pointer (some ⟨m, 0, none⟩), .pointer (some ⟨qb, 0, none⟩), .int .i64 i, .string B, .int .i64 (-1), .int .u64 v] h Q := by
  apply gabionref07_Write.ok
  unfold rWrite at hq
  refine xsIf_t rfl (xsIf_intro (fun e => ?_) fun e => xsIf_f rfl ?_)
  · have e := of_decide_eq_true e
    rw [if_neg (by omega)] at hq
    exact hq h w (Step.refl _ _)
  · have e := of_decide_eq_false e
    rw [if_pos (by omega)] at hq
    obtain ⟨v, rfl⟩ : ∃ k : Nat, v = k := ⟨v.toNat, by omega⟩
    refine gabionref07_Write.J3.c (f := fun s l k => swrite p.bk l s k B) (.inl ⟨by omega, by omega, rfl⟩) w iv (fun h0 h1 h' w' st' => ?_) fun hn => ?_
    · rw [if_pos ⟨h0, h1⟩] at hq; exact hq h' w' st'
    · rw [if_neg hn] at hq; exact hq h w (Step.refl _ _)

theorem gabionref07_Write.word {i k : Int} {B : ByteArray} (hk : 0 ≤ k) (hv : v < 18446744073709551616) (w : RR M h m qb p x) (iv : RgI p x) (hq : ∀ h', RR M h' m qb p (rWriteWord p x i k v).2 → Step (MR M qb) h (MR M qb) h' → Q (.int .i64 (rWriteWord p x i k v).1) h') :
    C Tryz.prog 24 #[.pointer (some ⟨m, 0, none⟩), .pointer (some ⟨qb, 0, none⟩), .int .i64 i, .string B, .int .i64 k, .int .u64 (v : Nat)] h Q := by
  apply gabionref07_Write.ok
  unfold rWriteWord at hq
  refine xsIf_f (decide_eq_false (by omega)) (xsIf_intro (fun e => ?_) fun e => ?_)
  · have e := of_decide_eq_true e
    rw [if_neg (by omega)] at hq
    exact hq h w (Step.refl _ _)
  · have e := of_decide_eq_false e
    rw [if_pos (by omega)] at hq
    obtain ⟨k, rfl⟩ : ∃ q : Nat, k = q := ⟨k.toNat, by omega⟩
    rw [Int.toNat_natCast] at hq
    refine gabionref07_Write.J3.c (f := fun s l j => swritew p.bk l s j k v) (.inr ⟨k, rfl, by omega, hv, rfl⟩) w iv (fun h0 h1 h' w' st' => ?_) fun hn => ?_
    · rw [if_pos ⟨h0, h1⟩] at hq; exact hq h' w' st'
    · rw [if_neg hn] at hq; exact hq h w (Step.refl _ _)

theorem gabionref07_Format.c {s s1 : PmS} (w : RfD M h m s) (lv : Live M h) (hb : RpB p s.nl) (hs : sformat p.bk s = (0, s1)) (sp : SpI p.bk s1 [])
    (hq : ∀ h', RfD M h' m (swritew p.bk [] s1 (p.pl + 1) 0 (Gp.first p.pl).pk).2.1 → Step M h M h' → Q (.int .i64 (swritew p.bk [] s1 (p.pl + 1) 0 (Gp.first p.pl).pk).1) h') :
    C Tryz.prog 55 #[.pointer (some ⟨m, 0, none⟩), ringV p] h Q := by
  have l1 := hb.l1
  have l2 := hb.l2
  have ok := Gp.first_ok l1 l2
  have w0 := w
  obtain ⟨wb, rb, bb, q, w⟩ := w
  apply gabionref07_Format.ok
  refine ⟨m, 0, rfl, _, _, _, w.c1, gabionref07_Check.c hb ⟨_, rfl, xsIf_f rfl (gabionref07_Bank.c hb ⟨_, _, _, rfl, gabionref05_Format.c (p := p.bk) w0 lv hb.ok fun h1 w1 st1 => ⟨_, rfl, ?_⟩⟩)⟩⟩
  rw [hs] at w1 ⊢
  refine xsIf_f rfl (gabionref06_Pack.c (by omega) (by omega) ⟨_, rfl, ?_⟩)
  have epk : pk 0 (p.pl : Int) 0 = (((Gp.first p.pl).pk : Nat) : Int) := (Gp.pk_int _ ok.l ok.h).symm
  rw [epk, show IntKind.i64.wrap ((p.pl : Int) + 1) = ((p.pl + 1 : Nat) : Int) by rw [i64_in _ (by omega)]; omega]
  refine gabionref05_WriteWord.c (p := p.bk) (k := 0) w1 (st1.dom lv) sp (Gp.pk_lt ok) fun h2 w2 st2 => ⟨_, rfl, ?_⟩
  have e2 : sWriteWord p.bk [] s1 ((p.pl + 1 : Nat) : Int) 0 (Gp.first p.pl).pk = swritew p.bk [] s1 (p.pl + 1) 0 (Gp.first p.pl).pk := sWriteWord_eq (k := 0) (by rw [bk_pl]; omega) (by omega)
  rw [e2] at w2 ⊢
  exact hq h2 w2 (st1.trans st2)
end
end Go.Gb
namespace Go.Gb
open Go.Proofs IntWalk

/-! ## SparePlays -/

section
variable {h0 h : Heap} {F G M : Nat → Prop} {d b m : Nat} {p : Pl} {s : PmS} {l : List Nat} {Q : Value → Heap → Prop} {a : Option Addr} {n cp : Nat} {N t tb : Int} {x0 x1 x2 x3 : Int} {xs : ByteArray} {ka : Option Addr} {kc : Nat} {ks : List Bool}

end
end Go.Gb
namespace Go.Gb
open Go.Proofs IntWalk

end Go.Gb
namespace Go.Gb
open Go.Proofs IntWalk

/-! ## RingAlike: two regions side by side -/

theorem small_rpl (x0 x1 x2 x3 : Int) : ∃ p : RPl, p.pa ≤ 1 ∧ 1 ≤ p.pl ∧ p.pl ≤ 5 ∧ p.ps ≤ 8 ∧ 1 ≤ p.psi ∧ p.psi ≤ 4 ∧ irem (imax 0 x0) 2 = p.pa ∧ IntKind.i64.wrap (1 + irem (imax 0 x1) 5) = p.pl ∧ irem (imax 0 x2) 9 = p.ps ∧ IntKind.i64.wrap (1 + irem (imax 0 x3) 4) = p.psi := by
  obtain ⟨a, ha⟩ : ∃ q : Nat, imax 0 x0 = q := ⟨(imax 0 x0).toNat, by rw [imax_eq]; omega⟩
  obtain ⟨l, hl⟩ : ∃ q : Nat, imax 0 x1 = q := ⟨(imax 0 x1).toNat, by rw [imax_eq]; omega⟩
  obtain ⟨s, hs⟩ : ∃ q : Nat, imax 0 x2 = q := ⟨(imax 0 x2).toNat, by rw [imax_eq]; omega⟩
  obtain ⟨t, ht⟩ : ∃ q : Nat, imax 0 x3 = q := ⟨(imax 0 x3).toNat, by rw [imax_eq]; omega⟩
  refine ⟨⟨a % 2, 1 + l % 5, s % 9, 1 + t % 4⟩, by show a % 2 ≤ 1; omega, by show 1 ≤ 1 + l % 5; omega, by show 1 + l % 5 ≤ 5; omega, by show s % 9 ≤ 8; omega, by show 1 ≤ 1 + t % 4; omega, by show 1 + t % 4 ≤ 4; omega, ?_, ?_, ?_, ?_⟩
  · rw [ha]; exact irem_nat a 2
  · rw [hl, show irem ((l : Nat) : Int) 5 = ((l % 5 : Nat) : Int) from irem_nat l 5, i64_in _ (by omega)]
    show (1 : Int) + ((l % 5 : Nat) : Int) = ((1 + l % 5 : Nat) : Int); omega
  · rw [hs]; exact irem_nat s 9
  · rw [ht, show irem ((t : Nat) : Int) 4 = ((t % 4 : Nat) : Int) from irem_nat t 4, i64_in _ (by omega)]
    show (1 : Int) + ((t % 4 : Nat) : Int) = ((1 + t % 4 : Nat) : Int); omega

section
variable {F G F' G' : Nat → Prop} {h0 h h1 : Heap} {d b r d' b' r' n : Nat} {p q : RPl} {x x' y y' : RS} {Q : Value → Heap → Prop}

theorem RD.keep (w : RD F G h d b r p x) (e : ∀ k, FR F G r k → h k ≠ none → h1 k = h k) (st : ∀ k, h k ≠ none → h1 k ≠ none) : RD F G h1 d b r p x :=
  ⟨⟨w.db.dv.keep fun k hk hn => e k (.inl (.inl hk)) hn, w.db.bk.keep fun k hk hn => e k (.inl (.inr hk)) hn, fun k hk => st k (w.db.lf k hk), fun k hk => st k (w.db.lg k hk), w.db.ap⟩, w.rc.keep (e r (.inr rfl) w.rc.ne), w.nr⟩

end
end Go.Gb
namespace Go.Gb
open Go.Proofs IntWalk

/-! ## RingAlike: the law -/

theorem gabionlaw07_small.c {x0 x1 x2 x3 : Int} {p : RPl} {h : Heap} {Q : Value → Heap → Prop} (e0 : irem (imax 0 x0) 2 = p.pa) (e1 : IntKind.i64.wrap (1 + irem (imax 0 x1) 5) = p.pl) (e2 : irem (imax 0 x2) 9 = p.ps) (e3 : IntKind.i64.wrap (1 + irem (imax 0 x3) 4) = p.psi) (hq : Q (ringV p) h) :
    C Tryz.prog 7 #[.agg #[.int .i64 x0, .int .i64 x1, .int .i64 x2, .int .i64 x3]] h Q := by
  apply gabionlaw07_small.ok
  unfold gabionlaw07_small.wp
  rw [e0, e1, e2, e3]
  exact hq

section
variable {F G F' G' : Nat → Prop} {h0 h h1 : Heap} {d b r d' b' r' n : Nat} {p q : RPl} {x x' y y' : RS} {Q : Value → Heap → Prop}

end

end Go.Gb
namespace Go.Gb
open Go.Proofs IntWalk

/-! ## RingPlays: both devices, the region, the record -/

/-- Between two acts: the region agrees; or the power failed. -/
def StR (p : RPl) (x : RS) : Prop := RgI p x ∨ (x.s.off = true ∧ PmOk x.s ∧ ∀ ks, ∃ l' g', RgI p ⟨pboot x.s ks, l', g', 0⟩)

theorem StR.ok {p : RPl} {x : RS} (t : StR p x) : PmOk x.s := by
  rcases t with t | t
  · exact t.sp.w
  · exact t.2.1
theorem ROut.st {p : RPl} {i : Nat} {B : ByteArray} {rd0 : Nat → ByteArray} {M : ByteArray → Prop} {r : Int × RS} (o : ROut p i B rd0 M r) : StR p r.2 := by
  rcases o with o | o | ⟨_, e, w, m⟩
  · exact .inl o.2.1
  · exact .inl o.2.1
  · exact .inr ⟨e, w, fun ks => by obtain ⟨l', g', w', _⟩ := m ks; exact ⟨l', g', w'⟩⟩

theorem rWrite_st {p : RPl} {x : RS} (w : RgI p x) (i : Int) (B : ByteArray) : StR p (rWrite p x i B).2 := by
  unfold rWrite
  split
  · rename_i hB
    split
    · rename_i hi
      exact (rwrite_out w (i := i.toNat) (by omega) (FOut.write p x hB) (mixP_self (rr_size p x _) hB)).st
    · exact .inl w
  · exact .inl w
theorem rWriteWord_st {p : RPl} {x : RS} (w : RgI p x) (i k : Int) {v : Nat} (hv : v < 18446744073709551616) : StR p (rWriteWord p x i k v).2 := by
  unfold rWriteWord
  split
  · rename_i hk
    split
    · rename_i hi
      exact (rwrite_out w (i := i.toNat) (by omega) (FOut.word p x (j := k.toNat) (by omega) hv) (.inl rfl)).st
    · exact .inl w
  · exact .inl w

/-- The region, and the document's device. -/
structure T6 (h0 h : Heap) (F G M : Nat → Prop) (d b r m : Nat) (p : RPl) (x : RS) : Prop where
  rd : RD F G h d b r p x
  rf : RfD M h m x.s
  lm : Live M h
  ap : Apart (FR F G r) M
  pt : Part h0 h
  ff : ∀ k, h0 k ≠ none → ¬ FR F G r k
  fm : ∀ k, h0 k ≠ none → ¬ M k

structure T7 (h0 h : Heap) (F G M : Nat → Prop) (d b r m qb : Nat) (p : RPl) (x : RS) : Prop where
  t : T6 h0 h F G M d b r m p x
  qc : Blk h qb (refCs p x.n)
  nq : ¬ M qb
  nf : ¬ FR F G r qb
  fq : h0 qb = none

section
variable {h0 h h1 h2 : Heap} {F G M : Nat → Prop} {d b r m qb : Nat} {p : RPl} {x x' : RS} {Q : Value → Heap → Prop}

theorem T6.part (i : T6 h0 h F G M d b r m p x) (pt : Part h h1) : T6 h0 h1 F G M d b r m p x :=
  ⟨i.rd.part pt, i.rf.keep fun _ _ hk => part_live pt hk, (Step.of_part pt).dom i.lm, i.ap, i.pt.trans pt, i.ff, i.fm⟩
theorem T7.part (i : T7 h0 h F G M d b r m qb p x) (pt : Part h h1) : T7 h0 h1 F G M d b r m qb p x :=
  ⟨i.t.part pt, i.qc.keep (part_live pt i.qc.ne), i.nq, i.nf, i.fq⟩
theorem T7.rr (i : T7 h0 h F G M d b r m qb p x) : RR M h m qb p x := ⟨i.t.rf, i.t.lm, i.qc, i.nq⟩

/-- A new record. -/
theorem T6.note (i : T6 h0 h F G M d b r m p x) (hx : x.n = 0) {qb : Nat} (hb : h qb = none) (T : TypeId) : T7 h0 (upd h qb (Obj.cells #[.int .i64 p.pa, .int .i64 p.pl, .int .i64 p.ps, .int .i64 p.psi, .int .i64 0] T (0, 0))) F G M d b r m qb p x := by
  refine ⟨i.part (Part.upd hb _), ?_, fun hm => i.lm qb hm hb, i.rd.fresh hb, Part.none i.pt hb⟩
  have := Blk.new h qb #[.int .i64 p.pa, .int .i64 p.pl, .int .i64 p.ps, .int .i64 p.psi, .int .i64 0] T
  unfold refCs
  rw [hx]
  exact this

/-- One step of each. -/
theorem T7.next (i : T7 h0 h F G M d b r m qb p x) (w1 : RD F G h1 d b r p x') (st1 : Step (FR F G r) h (FR F G r) h1) (w2 : RR M h2 m qb p x') (st2 : Step (MR M qb) h1 (MR M qb) h2) : T7 h0 h2 F G M d b r m qb p x' := by
  have ap : Apart (MR M qb) (FR F G r) := fun k hk hm => by
    rcases hm with hm | hm
    · exact i.t.ap k hm hk
    · exact i.nf (by rw [← show k = qb from hm]; exact hk)
  have fq : ∀ k, h0 k ≠ none → ¬ MR M qb k := fun k hk hm => by
    rcases hm with hm | hm
    · exact i.t.fm k hk hm
    · rw [show k = qb from hm] at hk; exact hk i.fq
  exact ⟨⟨w1.keep (st2.same ap) st2.live, w2.rf, w2.lm, i.t.ap, st2.part (st1.part i.t.pt i.t.ff) fq, i.t.ff, i.t.fm⟩, w2.qc, i.nq, i.nf, i.fq⟩
/-- The record and its device when the region took a step. -/
theorem T7.over (i : T7 h0 h F G M d b r m qb p x) (st1 : Step (FR F G r) h (FR F G r) h1) : RR M h1 m qb p x :=
  ⟨i.t.rf.keep (st1.same i.t.ap), st1.alive i.t.lm, i.qc.keep (st1.keep qb i.nf i.qc.ne), i.nq⟩
/-- One step of each device. -/
theorem T7.dev {s' : PmS} (i : T7 h0 h F G M d b r m qb p x) (w1 : PmD F h1 d s') (st1 : Step F h F h1) (w2 : RfD M h2 m s') (st2 : Step M h1 M h2) : T7 h0 h2 F G M d b r m qb p ⟨s', x.l, x.g, x.n⟩ := by
  have st1' : Step (FR F G r) h (FR F G r) h1 := st1.left.left
  exact i.next (i.t.rd.bank (i.t.rd.db.dev w1 st1) st1.left) st1' ((i.over st1').dev w2 st2) st2.left

/-- The region is opened anew. -/
theorem T6.open {G' : Nat → Prop} {b' r' : Nat} {l' : List Nat} {g' : Gp} {n' : Nat} (i : T6 h0 h F G M d b r m p x) (w : RD F G' h1 d b' r' p ⟨x.s, l', g', n'⟩) (fG : ∀ k, G' k → h k = none) (fr : h r' = none) (pt : Part h h1) : T6 h0 h1 F G' M d b' r' m p ⟨x.s, l', g', n'⟩ := by
  refine ⟨w, i.rf.keep fun _ _ hk => part_live pt hk, (Step.of_part pt).dom i.lm, fun k hm hf => ?_, i.pt.trans pt, fun k hk hf => ?_, i.fm⟩
  · rcases hf with (hf | hf) | hf
    · exact i.ap k hm (.inl (.inl hf))
    · exact i.lm k hm (fG k hf)
    · rw [show k = r' from hf] at hm; exact i.lm r' hm fr
  · have e := part_live i.pt hk
    rcases hf with (hf | hf) | hf
    · exact i.ff k hk (.inl (.inl hf))
    · rw [fG k hf] at e; exact hk e.symm
    · rw [show k = r' from hf] at e hk; rw [fr] at e; exact hk e.symm

theorem gabionlaw07_media.c {s : PmS} (wd : PmD F h d s) (w0 : RfD M h m s) (ok : PmOk s) (hq : Q (.bool true) h) : C Tryz.prog 23 #[.pointer (some ⟨d, 0, none⟩), .pointer (some ⟨m, 0, none⟩)] h Q := by
  have w1 := w0
  obtain ⟨wb, rb, bb, q, w⟩ := w1
  have h92 := w.hi
  apply gabionlaw07_media.ok
  have ne : ∀ {x : Int}, decide (x ≠ x) = false := decide_eq_false (fun h => h rfl)
  have beq : ∀ (x : Bool), (x == x) = true := fun x => by cases x <;> rfl
  have loop : ∀ (j k : Nat), k + j = s.nl → gabionlaw07_media.L2 (some ⟨d, 0, none⟩) (some ⟨m, 0, none⟩) (s.nl : Int) (k : Int) h Q := by
    intro j
    induction j with
    | zero =>
      intro k hk
      apply gabionlaw07_media.L2.ok
      refine xsIf_f (decide_eq_false (by omega)) ⟨m, 0, rfl, pm_Device_Count.c wd ⟨_, rfl, _, w.c5, xsIf_t (decide_eq_true rfl) ?_⟩, _, w.c5, pm_Device_Count.c wd ⟨_, rfl, xsIf_t (decide_eq_true rfl) ?_⟩⟩
      all_goals exact ⟨m, 0, rfl, pm_Device_Off.c wd ⟨_, rfl, _, w.c4, by rw [beq]; exact hq⟩, _, w.c4, pm_Device_Off.c wd ⟨_, rfl, by rw [beq]; exact hq⟩⟩
    | succ j ih =>
      intro k hk
      apply gabionlaw07_media.L2.ok
      have hn : k < s.nl := by omega
      have kb : 0 ≤ (k : Int) ∧ (k : Int) < (s.nl : Int) := by omega
      have nx : gabionlaw07_media.L2 (some ⟨d, 0, none⟩) (some ⟨m, 0, none⟩) (s.nl : Int) (IntKind.i64.wrap ((k : Int) + 1)) h Q := by
        rw [show IntKind.i64.wrap ((k : Int) + 1) = ((k + 1 : Nat) : Int) by rw [i64_in _ (by omega)]; omega]
        exact ih (k + 1) (by omega)
      have er : h.cell rb (0 + (k : Int).toNat * 1) = some (.int .i64 (s.wear k)) := by
        rw [show 0 + (k : Int).toNat * 1 = k by omega, w.hr.cell]; exact row_get (fun k => Value.int .i64 (s.wear k)) hn
      have hW : ∀ {Q : Value → Heap → Prop}, Q (.int .i64 (s.wear k)) h → C Tryz.prog 58 #[.pointer (some ⟨d, 0, none⟩), .int .i64 (k : Int)] h Q := fun hq => pm_Device_Wear.c wd (by rw [if_pos kb]; exact hq)
      have tk := (media_took (B := lnbytes fun j => (s.media (8 * k + j)).toNat) ok hn (lnbytes_size _)).1 rfl
      refine xsIf_t (decide_eq_true (by omega)) (gabionref04_Media.c w0 ok hn ⟨_, rfl, line_Took.c wd (fun _ => ⟨_, rfl, xsIf_f rfl ?_⟩) fun t => absurd tk (took_no t)⟩)
      exact ⟨m, 0, rfl, hW ⟨_, rfl, _, _, _, w.c1, kb, rb, 0, rfl, _, er, xsIf_f ne nx⟩, _, _, _, w.c1, kb, rb, 0, rfl, hW ⟨_, rfl, _, er, xsIf_f ne nx⟩, _, er, hW ⟨_, rfl, xsIf_f ne nx⟩⟩
  exact ⟨m, 0, rfl, _, _, _, w.c1, loop s.nl 0 (by omega)⟩

theorem gabionlaw07_reads.c (i : T7 h0 h F G M d b r m qb p x) (iv : RgI p x) (hq : ∀ h', Part h h' → Q (.bool true) h') : C Tryz.prog 28 #[.pointer (some ⟨r, 0, none⟩), .pointer (some ⟨m, 0, none⟩), .pointer (some ⟨qb, 0, none⟩)] h Q := by
  have ne : ∀ {x : Int}, decide (x ≠ x) = false := decide_eq_false (fun h => h rfl)
  have nes : ∀ {x : ByteArray}, decide (x ≠ x) = false := decide_eq_false (fun h => h rfl)
  have l2 := iv.l2
  have w := i.rr
  apply gabionlaw07_reads.ok
  refine ⟨qb, 0, rfl, _, w.c0, _, w.c1, _, w.c2, _, w.c3, gabionref07_State.c w.rf iv fun h1 p1 => ⟨_, _, _, _, rfl, xsIf_f rfl ?_⟩⟩
  have i1 := i.part p1
  have g0 := iv.g.l
  have g1 := iv.g.h
  have e : IntKind.u32.wrap x.g.s2 = x.g.s2 := by rw [u32_w]; omega
  refine ring_Ring_State.c i1.t.rd ⟨_, _, _, rfl, xsIf_f ?_ ?_⟩
  · rw [e, decide_eq_true rfl, decide_eq_true rfl, decide_eq_true rfl]; rfl
  have loop : ∀ (j k : Nat) (h2 : Heap), k + j = p.pl → Part h1 h2 → gabionlaw07_reads.L5 (some ⟨r, 0, none⟩) (some ⟨m, 0, none⟩) (some ⟨qb, 0, none⟩) (p.pl : Int) (k : Int) h2 Q := by
    intro j
    induction j with
    | zero =>
      intro k h2 hk p2
      apply gabionlaw07_reads.L5.ok
      exact xsIf_f (decide_eq_false (by omega)) (hq h2 (p1.trans p2))
    | succ j ih =>
      intro k h2 hk p2
      apply gabionlaw07_reads.L5.ok
      have i2 := i1.part p2
      have w2 := i2.rr
      refine xsIf_t (decide_eq_true (by omega)) (ring_Ring_Read.c i2.t.rd iv.g iv.sp (fun _ _ => ⟨_, _, rfl, qb, 0, rfl, _, w2.c0, _, w2.c1, _, w2.c2, _, w2.c3, gabionref07_Read.c w2.rf iv (fun _ _ h3 p3 => ⟨_, _, rfl, ?_⟩) fun hn => absurd ⟨by omega, by omega⟩ hn⟩) fun hn => absurd ⟨by omega, by omega⟩ hn)
      have i3 := i2.part p3
      have w3 := i3.rr
      refine ring_Ring_Where.c i3.t.rd iv.g (by omega) ⟨_, _, rfl, qb, 0, rfl, _, w3.c0, _, w3.c1, _, w3.c2, _, w3.c3, gabionref07_Where.c w3.rf iv (by omega) fun h4 p4 => ⟨_, _, rfl, xsIf_f nes (xsIf_f ne (xsIf_f rfl (xsIf_f ne ?_)))⟩⟩
      rw [show IntKind.i64.wrap ((k : Int) + 1) = ((k + 1 : Nat) : Int) by rw [i64_in _ (by omega)]; omega]
      exact ih (k + 1) h4 (by omega) ((p2.trans p3).trans p4)
  have w1 := i1.rr
  have J : gabionlaw07_reads.J4 (some ⟨r, 0, none⟩) (some ⟨m, 0, none⟩) (some ⟨qb, 0, none⟩) h1 Q := by
    apply gabionlaw07_reads.J4.ok
    exact ⟨qb, 0, rfl, _, w1.c1, loop p.pl 0 h1 (by omega) (Part.refl h1)⟩
  exact ⟨qb, 0, rfl, ring_Ring_Since.c i1.t.rd ⟨_, rfl, _, w1.c4, xsIf_f ne J⟩, _, w1.c4, ring_Ring_Since.c i1.t.rd ⟨_, rfl, xsIf_f ne J⟩⟩

set_option maxRecDepth 100000 in
theorem gabionlaw07_pair.c {h : Heap} (hb : RpB p (sizeN p.bk + p.pa + 1)) (hz : sizeN p.bk ≤ 1098) (ha : p.pa ≤ 1) (hq : ∀ F G M d b r m h' x, T6 h h' F G M d b r m p x → RgI p x → x.s.nl = sizeN p.bk + p.pa + 1 → x.n = 0 →
    Q (.tuple #[.pointer (some ⟨d, 0, none⟩), .pointer (some ⟨r, 0, none⟩), .pointer (some ⟨m, 0, none⟩), .bool true]) h') : C Tryz.prog 22 #[ringV p] h Q := by
  apply gabionlaw07_pair.ok
  obtain ⟨s1, s2, e1, sp1, e2, rg, sd, n2, rz⟩ := rformat_new hb
  refine gabionref07_Bank.c hb ⟨_, _, _, rfl, gabionref05_Size.c (p := p.bk) hb.ok.b ⟨_, rfl, ?_⟩⟩
  have en : IntKind.i64.wrap (IntKind.i64.wrap (((sizeN p.bk : Nat) : Int) + (p.pa : Int)) + 1) = ((sizeN p.bk + p.pa + 1 : Nat) : Int) := by
    rw [i64_in (((sizeN p.bk : Nat) : Int) + (p.pa : Int)) (by omega), i64_in _ (by omega)]; omega
  rw [en]
  refine pm_New.c (n := sizeN p.bk + p.pa + 1) (by omega) (by omega) fun d F ha wd fd ld pa => ⟨_, _, rfl, gabionref03_New.c (n := sizeN p.bk + p.pa + 1) (by omega) (by omega) fun m M hm wm fm lm pm => ⟨_, rfl, ?_⟩⟩
  have apM : Apart F M := fun k hk hf => ld k hf (fm k hk)
  have wd2 : PmD F hm d (pnew (sizeN p.bk + p.pa + 1)) := wd.keep fun _ _ hk => part_live pm hk
  have ld2 : Live F hm := (Step.of_part pm).dom ld
  refine ring_Format.c (p := p) wd2 ld2 hb e1 sp1 fun h3 w3 st3 => ⟨_, rfl, gabionref07_Format.c (p := p) (wm.keep (st3.same apM)) (st3.alive lm) hb e1 sp1 fun h4 w4 st4 => ⟨_, rfl, ?_⟩⟩
  rw [e2] at w3 w4 ⊢
  have wd4 : PmD F h4 d s2 := w3.keep (st4.same apM.symm)
  have ld4 : Live F h4 := st4.alive (st3.dom ld2)
  have lm4 : Live M h4 := st4.dom (st3.alive lm)
  have fF : ∀ k, h k ≠ none → ¬ F k := fun k hk hf => hk (fd k hf)
  have fM : ∀ k, h k ≠ none → ¬ M k := fun k hk hf => by
    have := fm k hf
    rw [part_live pa hk] at this; exact hk this
  have P4 : Part h h4 := st4.part (st3.part (pa.trans pm) fF) fM
  refine ring_Open.c (p := p) (x := ⟨s2, [], Gp.first p.pl, 0⟩) wd4 ld4 rg fun b r G h5 w5 fG fr p5 => ⟨_, _, rfl, xsIf_t rfl (xsIf_t rfl (xsIf_t rfl ?_))⟩
  refine hq F G M d b r m h5 _ ⟨w5, w4.keep fun _ _ hk => part_live p5 hk, (Step.of_part p5).dom lm4, fun k hk hf => ?_, P4.trans p5, fun k hk hf => ?_, fM⟩ rg n2 rfl
  · rcases hf with (hf | hf) | hf
    · exact apM k hk hf
    · exact lm4 k hk (fG k hf)
    · rw [show k = r from hf] at hk; exact lm4 r hk fr
  · have e := part_live P4 hk
    rcases hf with (hf | hf) | hf
    · exact fF k hk hf
    · rw [fG k hf] at e; exact hk e.symm
    · rw [show k = r from hf] at e hk; rw [fr] at e; exact hk e.symm
end
end Go.Gb
namespace Go.Gb
open Go.Proofs IntWalk

/-! ## RingTorn -/

section
variable {p : RPl} {x : RS}

theorem RgI.boot (w : RgI p x) (ks : List Bool) : RgI p ⟨pboot x.s ks, x.l, x.g, 0⟩ ∧ ∀ j, j < p.pl → rr p ⟨pboot x.s ks, x.l, x.g, 0⟩ j = rr p x j := by
  obtain ⟨sp, m, _⟩ := w.sp.boot ks
  refine ⟨w.keep sp rfl (Nat.zero_le _) (m _ (by rw [bk_pl]; omega)), fun j hj => m _ ?_⟩
  have := (Gp.slot_at w.g hj).2.1
  show x.g.slot p.pl j < p.bk.pl
  rw [bk_pl]; omega

/-- Another device with the same words. -/
theorem RgI.dev {s' : PmS} (w : RgI p x) (sp : SpI p.bk s' x.l) (hm : s'.media = x.s.media) : RgI p ⟨s', x.l, x.g, x.n⟩ ∧ ∀ j, rr p ⟨s', x.l, x.g, x.n⟩ j = rr p x j := by
  refine ⟨w.keep sp rfl w.n ?_, fun j => ?_⟩
  · show rdN s'.media _ = _; rw [hm]; rfl
  · show rdN s'.media _ = _; rw [hm]; rfl
end

section
variable {F G : Nat → Prop} {h0 h h1 : Heap} {d b r n : Nat} {p : RPl} {x x' : RS} {Q : Value → Heap → Prop} {W0 W1 W2 s0 s1 : ByteArray} {bw : Nat} {f c0 c1 c2 : Int}

end
end Go.Gb
namespace Go.Gb
open Go.Proofs IntWalk

/-! ## RingPlays: an act -/

theorem pboot_on {s : PmS} (o : On s) (ks : List Bool) : pboot s ks = { s with buf := fun _ => none, off := false, fuse := 0 } := by
  unfold pboot
  rw [show pend s = [] from pend_none o.buf]
  show { Gb.plast s [] with buf := fun _ => none, off := false, fuse := 0 } = _
  rw [plast_nil]

theorem rmove_nl {p : RPl} {x : RS} (w : RgI p x) : (rmove p x).2.s.nl = x.s.nl := by
  obtain ⟨ok, d1, d2, d3, d4, d5, _, mv⟩ := Gp.move w.g
  have hB := rdN_size x.s.media (whN p.bk x.l (x.g.src p.pl))
  have hd : x.g.dst p.pl < p.bk.pl := by rw [bk_pl]; omega
  have o := swrite_out w.sp (i := x.g.dst p.pl) (B := rd p.bk x.s x.l (x.g.src p.pl)) hd hB
  have r := (swrite_res w.sp (i := x.g.dst p.pl) (b := rd p.bk x.s x.l (x.g.src p.pl)) hd hB).1
  unfold rmove
  generalize swrite p.bk x.l x.s (x.g.dst p.pl) (rd p.bk x.s x.l (x.g.src p.pl)) = a at o r
  unfold rmove1
  by_cases e : a.1 = 0
  · rw [if_pos e]
    have sp : SpI p.bk a.2.1 a.2.2 := by
      rcases o with o | o | o
      · exact o.2.1
      · exact o.2.1
      · rw [e] at o; cases o.1
    have r2 := (swritew_res sp (i := p.pl + 1) (k := 0) (v := (x.g.next p.pl).pk) (by rw [bk_pl]; omega) (by omega) (Gp.pk_lt ok)).1
    unfold rmove2
    split
    · exact r2.trans r
    · exact r2.trans r
  · rw [if_neg e]; exact r

theorem rwrite_nl {p : RPl} {x : RS} {f : PmS → List Nat → Nat → Int × PmS × List Nat} (w : RgI p x) {i : Nat} (hi : i < p.pl) (hf : ∀ s l k, k < p.bk.pl → SpI p.bk s l → (f s l k).2.1.nl = s.nl) : (rwrite p f x i).2.s.nl = x.s.nl := by
  have put : ∀ x : RS, RgI p x → (rput p f x i).2.s.nl = x.s.nl := fun x w => by
    have hs := (Gp.slot_at w.g hi).2.1
    exact hf x.s x.l (x.g.slot p.pl i) (by rw [bk_pl]; omega) w.sp
  unfold rwrite
  split
  · split
    · rename_i e
      have w1 : RgI p (rmove p x).2 := by
        rcases rmove_out w with o | o | o
        · exact o.2.1
        · exact o.2.1
        · rw [e] at o; cases o.1
      exact (put _ w1).trans (rmove_nl w)
    · exact rmove_nl w
  · exact put x w

theorem rWrite_nl {p : RPl} {x : RS} (w : RgI p x) (i : Int) (B : ByteArray) : (rWrite p x i B).2.s.nl = x.s.nl := by
  unfold rWrite
  split
  · rename_i hB
    split
    · exact rwrite_nl w (by omega) fun s l k hk sp => (swrite_res sp hk hB).1
    · rfl
  · rfl
theorem rWriteWord_nl {p : RPl} {x : RS} (w : RgI p x) (i k : Int) {v : Nat} (hv : v < 18446744073709551616) : (rWriteWord p x i k v).2.s.nl = x.s.nl := by
  unfold rWriteWord
  split
  · split
    · exact rwrite_nl w (by omega) fun s l j hj sp => (swritew_res sp hj (by omega) hv).1
    · rfl
  · rfl

section
variable {h0 h : Heap} {F G M : Nat → Prop} {d b r m qb : Nat} {p : RPl} {x : RS} {Q : Value → Heap → Prop} {a : Option Addr} {n cp : Nat} {N t tb : Int} {x0 x1 x2 x3 : Int} {xs : ByteArray} {ka : Option Addr} {kc : Nat} {ks : List Bool}

/-- What goes on behind an act. -/
abbrev GoR (h0 : Heap) (F M : Nat → Prop) (d m : Nat) (p : RPl) (nl : Nat) (tb : Int) (a : Option Addr) (n cp : Nat) (N t : Int) (Q : Value → Heap → Prop) : Prop :=
  ∀ h' G b r qb x', T7 h0 h' F G M d b r m qb p x' → RgI p x' → x'.s.nl = nl → gabionlaw07_RingPlays.L8 (some ⟨d, 0, none⟩) (some ⟨r, 0, none⟩) (some ⟨m, 0, none⟩) (some ⟨qb, 0, none⟩) tb a n cp N (IntKind.i64.wrap (t + 1)) p.pa p.pl p.ps p.psi h' Q

/-- Both devices took steps. -/
theorem T7.mix {hE : Heap} {s' : PmS} (i : T7 h0 h F G M d b r m qb p x) (wd : PmD F hE d s') (wm : RfD M hE m s') (u : Step (fun k => F k ∨ M k) h (fun k => F k ∨ M k) hE) : T7 h0 hE F G M d b r m qb p ⟨s', x.l, x.g, x.n⟩ := by
  have ap : ∀ k, M k → ¬ FR F G r k := fun k hm hf => i.t.ap k hm hf
  have kG : ∀ k, G k → h k ≠ none → hE k = h k := fun k hk hn => u.keep k (fun hf => by
    rcases hf with hf | hf
    · exact i.t.rd.db.ap k hk hf
    · exact ap k hf (.inl (.inr hk))) hn
  have kr : hE r = h r := u.keep r (fun hf => by
    rcases hf with hf | hf
    · exact i.t.rd.nr (.inl hf)
    · exact ap r hf (.inr rfl)) i.t.rd.rc.ne
  have kq : hE qb = h qb := u.keep qb (fun hf => by
    rcases hf with hf | hf
    · exact i.nf (.inl (.inl hf))
    · exact i.nq hf) i.qc.ne
  refine ⟨⟨⟨⟨wd, i.t.rd.db.bk.keep kG, u.alive i.t.rd.db.lf, u.alive i.t.rd.db.lg, i.t.rd.db.ap⟩, i.t.rd.rc.keep kr, i.t.rd.nr⟩, wm, u.alive i.t.lm, i.t.ap, u.part i.t.pt fun k hk hf => ?_, i.t.ff, i.t.fm⟩, i.qc.keep kq, i.nq, i.nf, i.fq⟩
  rcases hf with hf | hf
  · exact i.t.ff k hk (.inl (.inl hf))
  · exact i.t.fm k hk hf

set_option maxRecDepth 100000 in
theorem gabionlaw07_RingPlays.J38.c (i : T7 h0 h F G M d b r m qb p x) (st : StR p x) (hr : readsAt h0 ka (ks.map Value.bool)) (hkc : ks.length ≤ kc) (hq : GoR h0 F M d m p x.s.nl tb a n cp N t Q) :
    gabionlaw07_RingPlays.J38 (some ⟨d, 0, none⟩) (some ⟨r, 0, none⟩) (some ⟨m, 0, none⟩) (some ⟨qb, 0, none⟩) tb true a n cp N t p.pa p.pl p.ps p.psi x0 x1 x2 x3 xs ka ks.length kc h Q := by
  apply gabionlaw07_RingPlays.J38.ok
  refine xsIf_f rfl (gabionlaw07_media.c i.t.rd.db.dv i.t.rf st.ok ⟨_, rfl, xsIf_f rfl ?_⟩)
  apply gabionlaw07_RingPlays.J40.ok
  have rf := i.t.rf
  obtain ⟨wb, rb, bb, q, w⟩ := rf
  refine ⟨m, 0, rfl, _, w.c4, xsIf_intro (fun ho => ?_) fun ho => ?_⟩
  · have hm : imin (ks.length : Int) 30 = ((min ks.length 30 : Nat) : Int) := by rw [imin_eq]; omega
    rw [hm, slBase0, show (((min ks.length 30 : Nat) : Int) - 0).toNat = (ks.take 30).length by rw [List.length_take]; omega]
    have hb : ∃ l' g', RgI p ⟨pboot x.s (ks.take 30), l', g', 0⟩ := by
      rcases st with st | st
      · have := st.sp.on.off; rw [ho] at this; cases this
      · exact st.2.2 (ks.take 30)
    obtain ⟨l', g', iv⟩ := hb
    refine ⟨by omega, pm_Device_Boot.c i.t.rd.db.dv i.t.rd.db.lf (bools_at (readsAt_part hr i.t.pt)) fun h1 w1 st1 => ?_⟩
    have st1' : Step (FR F G r) h (FR F G r) h1 := st1.left.left
    refine gabionref03_Boot.c (i.over st1').rf (i.over st1').lm (bools_at (readsAt_part hr (st1'.part i.t.pt i.t.ff))) fun h2 w2 st2 => ?_
    have i2 := i.dev w1 st1 w2 st2
    refine ring_Open.c (p := p) (x := ⟨pboot x.s (ks.take 30), l', g', 0⟩) i2.t.rd.db.dv i2.t.rd.db.lf iv fun b' r' G' h3 w3 fG fr p3 => ⟨_, _, rfl, xsIf_f rfl (xsIf_f rfl fun qb' hqb => ?_)⟩
    have i4 := (i2.t.open w3 fG fr p3).note rfl hqb 69
    exact gabionlaw07_reads.c i4 iv fun h5 p5 => ⟨_, rfl, xsIf_f rfl (hq h5 G' b' r' qb' _ (i4.part p5) iv rfl)⟩
  · rcases st with st | st
    · exact gabionlaw07_reads.c i st fun h5 p5 => ⟨_, rfl, xsIf_f rfl (hq h5 G b r qb x (i.part p5) st rfl)⟩
    · rw [st.1] at ho; cases ho

set_option maxRecDepth 100000 in
theorem rplays_act {x : Act6} {y : RS} {t : Int} (i : T7 h0 h F G M d b r m qb p y) (iv : RgI p y) (h1 : x.a2 < 9223372036854775808) (h3 : R64 x.a3) (hr : readsAt h0 x.ka (x.ks.map Value.bool)) (hkc : x.ks.length ≤ x.kc) (ht : 0 ≤ t ∧ t < N) (hn : t < n)
    (hc : ∀ K, (∀ b o, h.cell b (o + t.toNat * 6) = some (.int .i64 x.a0) → h.cell b (o + t.toNat * 6 + 1) = some (.int .i64 x.a1) → h.cell b (o + t.toNat * 6 + 1 + 1) = some (.int .i64 x.a2) → h.cell b (o + t.toNat * 6 + 1 + 1 + 1) = some (.int .u64 x.a3) →
      h.cell b (o + t.toNat * 6 + 1 + 1 + 1 + 1) = some (.string x.s) → h.cell b (o + t.toNat * 6 + 1 + 1 + 1 + 1 + 1) = some (.slice x.ka x.ks.length x.kc) → K b o) → atBase a K)
    (hq : GoR h0 F M d m p y.s.nl (tblN p.bk : Nat) a n cp N t Q) :
    gabionlaw07_RingPlays.L8 (some ⟨d, 0, none⟩) (some ⟨r, 0, none⟩) (some ⟨m, 0, none⟩) (some ⟨qb, 0, none⟩) (tblN p.bk : Nat) a n cp N t p.pa p.pl p.ps p.psi h Q := by
  apply gabionlaw07_RingPlays.L8.ok
  refine xsIf_t (decide_eq_true ht.2) ⟨⟨ht.1, hn⟩, hc _ fun b0 o k0 k1 k2 k3 k4 k5 => ⟨_, k0, _, k1, _, k2, _, k3, _, k4, _, _, _, k5, by rw [imin_eq]; omega, ?_⟩⟩
  have hb : (sext x.s 0 (imin (x.s.size : Int) 80)).size ≤ 80 := by
    have := sext_le x.s (imin (x.s.size : Int) 80)
    rw [imin_eq] at this ⊢
    omega
  generalize sext x.s 0 (imin (x.s.size : Int) 80) = S at hb
  have sp := iv.sp
  have fitp := sp.ok.fit
  have pl1 := iv.l1
  have pl2 := iv.l2
  have ps2 : p.ps ≤ 64 := sp.ok.s2
  have pa2 : p.pa ≤ 8192 := sp.ok.a2
  have ebk : p.bk.pl = p.pl + 2 := rfl
  have ebs : p.bk.ps = p.ps := rfl
  have eba : p.bk.pa = p.pa := rfl
  have nx : ∀ h' y', T7 h0 h' F G M d b r m qb p y' → StR p y' → y'.s.nl = y.s.nl → gabionlaw07_RingPlays.J38 (some ⟨d, 0, none⟩) (some ⟨r, 0, none⟩) (some ⟨m, 0, none⟩) (some ⟨qb, 0, none⟩) (tblN p.bk : Nat) true a n cp N t p.pa p.pl p.ps p.psi x.a0 x.a1 x.a2 x.a3 x.s x.ka x.ks.length x.kc h' Q := fun h' y' i' st' e => gabionlaw07_RingPlays.J38.c i' st' hr hkc (by rw [e]; exact hq)
  have same1 : ∀ {x : Int}, decide (x = x) = true := decide_eq_true rfl
  refine xsIf_intro (fun _ => ?_) fun _ => xsIf_intro (fun _ => ?_) fun _ => xsIf_intro (fun _ => ?_) fun _ => xsIf_intro (fun _ => ?_) fun _ => xsIf_intro (fun _ => ?_) fun _ => xsIf_intro (fun _ => ?_) fun _ => xsIf_intro (fun _ => ?_) fun _ => nx h y i (.inl iv) rfl
  · refine gabionlaw07_full.c (by omega) ⟨_, rfl, ring_Ring_Write.c i.t.rd iv fun h1 w1 st1 => ⟨_, rfl, gabionlaw07_full.c (by omega) ⟨_, rfl, gabionref07_Write.line (i.over st1) iv (by omega) fun h2 w2 st2 => ⟨_, rfl, ?_⟩⟩⟩⟩
    rw [same1]
    exact nx h2 _ (i.next w1 st1 w2 st2) (rWrite_st iv _ _) (rWrite_nl iv _ _)
  · refine ring_Ring_Write.c i.t.rd iv fun h1 w1 st1 => ⟨_, rfl, gabionref07_Write.line (i.over st1) iv (by omega) fun h2 w2 st2 => ⟨_, rfl, ?_⟩⟩
    rw [same1]
    exact nx h2 _ (i.next w1 st1 w2 st2) (rWrite_st iv _ _) (rWrite_nl iv _ _)
  · unfold R64 at h3
    have e3 : x.a3 = ((x.a3.toNat : Nat) : Int) := by omega
    have hv : x.a3.toNat < 18446744073709551616 := by omega
    have word : ∀ k : Int, 0 ≤ k → gabionlaw07_RingPlays.J21 (some ⟨d, 0, none⟩) (some ⟨r, 0, none⟩) (some ⟨m, 0, none⟩) (some ⟨qb, 0, none⟩) (tblN p.bk : Nat) k a n cp N t p.pa p.pl p.ps p.psi x.a0 x.a1 x.a2 x.a3 x.s x.ka x.ks.length x.kc h Q := by
      intro k hk
      apply gabionlaw07_RingPlays.J21.ok
      unfold gabionlaw07_RingPlays.J21.wp
      rw [e3] at nx ⊢
      generalize x.a3.toNat = v at nx hv
      refine ring_Ring_WriteWord.c i.t.rd iv hv fun h1 w1 st1 => ⟨_, rfl, gabionref07_Write.word hk hv (i.over st1) iv fun h2 w2 st2 => ⟨_, rfl, ?_⟩⟩
      rw [same1]
      exact nx h2 _ (i.next w1 st1 w2 st2) (rWriteWord_st iv _ _ hv) (rWriteWord_nl iv _ _ hv)
    exact xsIf_intro (fun _ => word 8 (by omega)) fun e => word x.a2 (by have := of_decide_eq_false e; omega)
  · refine ring_Ring_Read.c i.t.rd iv.g sp (fun g0 g1 => ⟨_, _, rfl, gabionref07_Read.c i.t.rf iv (fun _ _ h2 p2 => ⟨_, _, rfl, xsIf_t (decide_eq_true rfl) ?_⟩) fun hn => absurd ⟨g0, g1⟩ hn⟩) fun hn => ⟨_, _, rfl, gabionref07_Read.c i.t.rf iv (fun g0 g1 => absurd ⟨g0, g1⟩ hn) fun _ => ⟨_, _, rfl, xsIf_t (decide_eq_true rfl) ?_⟩⟩
    · rw [same1]; exact nx h2 y (i.part p2) (.inl iv) rfl
    · rw [same1]; exact nx h y i (.inl iv) rfl
  · have ew : IntKind.i64.wrap (IntKind.i64.wrap ((p.pl : Int) + 2) + (p.ps : Int)) = ((p.pl + 2 + p.ps : Nat) : Int) := by rw [i64_in ((p.pl : Int) + 2) (by omega), i64_in _ (by omega)]; omega
    obtain ⟨j, hj⟩ : ∃ q : Nat, imax 0 x.a1 = q := ⟨(imax 0 x.a1).toNat, by rw [imax_eq]; omega⟩
    have hmod : j % (p.pl + 2 + p.ps) < p.pl + 2 + p.ps := Nat.mod_lt _ (by omega)
    have ht2 := tblN_le sp.ok.b
    have ei : IntKind.i64.wrap (IntKind.i64.wrap ((p.pa : Int) + ((tblN p.bk : Nat) : Int)) + irem (imax 0 x.a1) (IntKind.i64.wrap (IntKind.i64.wrap ((p.pl : Int) + 2) + (p.ps : Int)))) = ((p.pa + tblN p.bk + j % (p.pl + 2 + p.ps) : Nat) : Int) := by
      rw [ew, hj, irem_nat, i64_in ((p.pa : Int) + ((tblN p.bk : Nat) : Int)) (by omega), i64_in _ (by omega)]; omega
    have nz : IntKind.i64.wrap (IntKind.i64.wrap ((p.pl : Int) + 2) + (p.ps : Int)) ≠ 0 := by rw [ew]; omega
    rw [ei]
    refine ⟨nz, ?_⟩
    generalize hk0 : p.pa + tblN p.bk + j % (p.pl + 2 + p.ps) = kk
    have hkk : kk < y.s.nl := by unfold sizeN at fitp; omega
    have hk2 : p.bk.pa + tblN p.bk ≤ kk := by omega
    refine pm_Device_Break.c i.t.rd.db.dv fun h1 w1 st1 => ?_
    rw [if_pos (show (0 : Int) ≤ ((kk : Nat) : Int) ∧ ((kk : Nat) : Int) < (y.s.nl : Int) by omega)] at w1
    have st1' : Step (FR F G r) h (FR F G r) h1 := st1.left.left
    have rf := (i.over st1').rf
    obtain ⟨wb, rb, bb, q, w'⟩ := rf
    refine ⟨m, 0, rfl, _, _, _, w'.c2, by omega, bb, 0, rfl, w'.hb.can (by simp; omega), ?_⟩
    have rf2 : RfD M (h1.put bb (0 + ((kk : Nat) : Int).toNat * 1) [.bool true]) m { y.s with bad := fset y.s.bad ((kk : Nat) : Int).toNat true } := by
      have hk : ∀ k, k ≠ bb → h1.put bb (0 + ((kk : Nat) : Int).toNat * 1) [.bool true] k = h1 k := fun k hk => put_other h1 _ _ hk
      have ne := w'.ne
      refine ⟨wb, rb, bb, q, w'.lo, w'.hi, w'.fm, w'.fw, w'.fr, w'.fb, ne, w'.hm.keep (hk _ ne.2.2.1), w'.hw.keep (hk _ ne.2.2.2.2.1), w'.hr.keep (hk _ ne.2.2.2.2.2), ?_, w'.rel, w'.f0, w'.f1⟩
      exact w'.hb.bset
    rw [Int.toNat_natCast] at w1 rf2 ⊢
    exact nx _ _ (i.dev w1 st1 rf2 (Step.put w'.fb _ _)) (.inl (iv.dev (sp.brk (k := kk) hk2) rfl).1) rfl
  · refine pm_Device_Fuse.c i.t.rd.db.dv h1 fun h2 w1 st1 => ?_
    have st1' : Step (FR F G r) h (FR F G r) h2 := st1.left.left
    have rf := (i.over st1').rf
    obtain ⟨wb, rb, bb, q, w⟩ := rf
    have b1 := w.hm.put (0 + 3) [.int .i64 (imax x.a2 0)]
    refine ⟨m, 0, rfl, w.hm.can (by simp), ?_⟩
    have w2 := w.own (f := imax x.a2 0) (o := y.s.off) (n := y.s.count) b1 (fun k hk => put_other _ _ _ hk) (by rw [imax_eq]; omega) (by rw [imax_eq]; omega)
    refine nx _ _ (i.dev w1 st1 ⟨wb, rb, bb, q, w2⟩ (Step.put w.fm _ _)) (.inl (iv.dev (s' := { y.s with fuse := imax x.a2 0 }) ⟨sp.ok, ⟨sp.on.off, ?_, sp.on.buf⟩, sp.en, sp.tb, sp.w.of rfl rfl⟩ rfl).1) rfl
    show 0 ≤ imax x.a2 0
    rw [imax_eq]; omega
  · have rf := i.t.rf
    obtain ⟨wb, rb, bb, q, w⟩ := rf
    have b1 := w.hm.put (0 + 4) [.bool true]
    refine ⟨m, 0, rfl, w.hm.can (by simp), ?_⟩
    have w2 := w.own (f := y.s.fuse) (o := true) (n := y.s.count) b1 (fun k hk => put_other _ _ _ hk) sp.on.f0 w.f1
    generalize hh1 : h.put m (0 + 4) [.bool true] = h1 at b1 w2
    have stm : Step M h M h1 := by rw [← hh1]; exact Step.put w.fm _ _
    have apF : Apart M F := fun k hk hm => i.t.ap k hm (.inl (.inl hk))
    have wd1 : PmD F h1 d y.s := i.t.rd.db.dv.keep (stm.same apF)
    have lf1 : Live F h1 := stm.alive i.t.rd.db.lf
    refine pm_Device_Fuse.c wd1 (by omega) fun h2 w3 st3 => pm_Device_Fence.c w3 (st3.dom lf1) fun h3 w4 st4 => ⟨_, rfl, ?_⟩
    have ef : pfence { y.s with fuse := imax 1 0 } = (6, { y.s with fuse := 0, off := true }) := by
      unfold pfence
      rw [pbegin_fails (s := { y.s with fuse := imax 1 0 }) sp.on.off (by show imax 1 0 = 1; rw [imax_eq]; omega) (by omega) (by omega)]
      rfl
    rw [ef] at w4
    have st34 := st3.trans st4
    have w5 := w2.keep (st34.same apF.symm)
    have b2 := w5.hm.put (0 + 3) [.int .i64 0]
    refine ⟨m, 0, rfl, w5.hm.can (by simp), ?_⟩
    have w6 := w5.own (f := 0) (o := true) (n := y.s.count) b2 (fun k hk => put_other _ _ _ hk) (by omega) (by omega)
    have st5 : Step M h3 M (h3.put m (0 + 3) [.int .i64 0]) := Step.put w5.fm _ _
    have wd6 : PmD F (h3.put m (0 + 3) [.int .i64 0]) d { y.s with fuse := 0, off := true } := w4.keep (st5.same apF)
    refine nx _ ⟨{ y.s with fuse := 0, off := true }, y.l, y.g, y.n⟩ (i.mix wd6 ⟨wb, rb, bb, q, w6⟩ ((stm.right.trans st34.left).trans st5.right)) (.inr ⟨rfl, sp.w.of rfl rfl, fun ks => ?_⟩) rfl
    obtain ⟨iv2, _⟩ := iv.boot ks
    rw [pboot_on sp.on] at iv2
    refine ⟨y.l, y.g, ?_⟩
    have e : pboot { y.s with fuse := 0, off := true } ks = { y.s with buf := fun _ => none, off := false, fuse := 0 } := by
      unfold pboot
      rw [show pend { y.s with fuse := 0, off := true } = [] from pend_none sp.on.buf]
      show { Gb.plast { y.s with fuse := 0, off := true } [] with buf := fun _ => none, off := false, fuse := 0 } = _
      rw [plast_nil]
    rw [e]
    exact iv2
end
end Go.Gb
namespace Go.Gb
open Go.Proofs IntWalk

set_option maxRecDepth 100000 in
theorem gabionlaw07_RingPlays.law (ns : List Int) (hl : ns.length = 4) (hx : ∀ x ∈ ns, IntKind.i64.min ≤ x ∧ x ≤ IntKind.i64.max) (v : Value) (h : Heap) (hv : Okc Tryz.prog h 8 46 [v]) :
    C Tryz.prog 6 #[.agg (ns.map (Value.int .i64)).toArray, v] h fun v h' => v = .bool true ∧ Part h h' := by
  match ns, hl with
  | [y0, y1, y2, y3], _ =>
  obtain ⟨a, n, c, dss, rfl, hnc, hcm, hl, hb, hr⟩ := okc_slice (e := 52) (sz := 6) (by kernel_rfl) (by kernel_rfl) (by omega) hv
  obtain ⟨acts, rfl, hacts⟩ := typed (f := Act6.row) (p := fun x => x.a2 < 9223372036854775808 ∧ R64 x.a3 ∧ readsAt h x.ka (x.ks.map Value.bool) ∧ x.ks.length ≤ x.kc) dss (fun ds hds => by
    obtain ⟨h1, h2⟩ := hb ds hds
    obtain ⟨e1, e2⟩ := okc_each (d := 2) 5 52 [3, 3, 3, 49, 9, 50] ds (by kernel_rfl) h2 (by rw [h1]; rfl)
    match ds, h1 with
    | [p, q, r, s, u, v], _ =>
      obtain ⟨x0, rfl, -⟩ := okc_int (k := .i64) (by kernel_rfl) (e2 0 _ _ rfl rfl)
      obtain ⟨x1, rfl, -⟩ := okc_int (k := .i64) (by kernel_rfl) (e2 1 _ _ rfl rfl)
      obtain ⟨x2, rfl, h3⟩ := okc_int (k := .i64) (by kernel_rfl) (e2 2 _ _ rfl rfl)
      obtain ⟨x3, rfl, h7⟩ := okc_int (k := .u64) (by kernel_rfl) (e2 3 _ _ rfl rfl)
      obtain ⟨x4, rfl, -⟩ := okc_str (by kernel_rfl) (e2 4 _ _ rfl rfl)
      obtain ⟨ka, kn, kc, ks, rfl, h4, h5, rfl, h6⟩ := okc_bools (d := 0) (e := 4) (by kernel_rfl) (by kernel_rfl) (by kernel_rfl) (e2 5 _ _ rfl rfl)
      have h3 : x2 ≤ 9223372036854775807 := h3.2
      have h70 : 0 ≤ x3 := h7.1
      have h71 : x3 ≤ 18446744073709551615 := h7.2
      exact ⟨⟨x0, x1, x2, x3, x4, ka, kc, ks⟩, rfl, by show x2 < 9223372036854775808; omega, ⟨h70, by show x3 < _; omega⟩, h6, h4⟩)
  rw [List.length_map] at hl
  rw [← List.flatMap_def] at hr
  apply gabionlaw07_RingPlays.ok
  obtain ⟨p, p1, p2, p3, p4, p5, p6, e0, e1, e2, e3⟩ := small_rpl y0 y1 y2 y3
  refine gabionlaw07_small.c e0 e1 e2 e3 ⟨_, _, _, _, rfl, ?_⟩
  have hz : sizeN p.bk ≤ 16 := by unfold sizeN tblN RPl.bk; dsimp only; omega
  have hz2 : sizeN p.bk = (p.ps + 7) / 8 + (p.pl + 2) + p.ps := rfl
  have hok : RpB p (sizeN p.bk + p.pa + 1) := ⟨p2, by omega, p5, by omega, ⟨by show 1 ≤ p.pl + 2; omega, by show p.pl + 2 ≤ 1026; omega, by show p.ps ≤ 64; omega, by show p.pa ≤ 8192; omega, by show p.pa + sizeN p.bk ≤ _; omega⟩⟩
  refine gabionlaw07_pair.c hok (by omega) p1 fun F G M d b r m h1 x i iv nl xn => ⟨_, _, _, _, rfl, fun qb hqb => ?_⟩
  have i1 := i.note xn hqb 69
  refine gabionlaw07_wakes.c fun h2 q2 => ⟨_, rfl, xsIf_f rfl (xsIf_f rfl ?_)⟩
  have i2 := i1.part q2
  refine gabionlaw07_media.c i2.t.rd.db.dv i2.t.rf iv.sp.w ⟨_, rfl, xsIf_f rfl ?_⟩
  apply gabionlaw07_RingPlays.J6.ok
  unfold gabionlaw07_RingPlays.J6.wp
  have hmn : imin (n : Int) 30 = ((min n 30 : Nat) : Int) := by rw [imin_eq]; omega
  rw [hmn, slBase0]
  refine ⟨by omega, ?_⟩
  have g1 : (((min n 30 : Nat) : Int) - 0).toNat = min n 30 := by omega
  have g2 : iquo .i64 (IntKind.i64.wrap ((p.ps : Int) + 7)) 8 = ((tblN p.bk : Nat) : Int) := by
    rw [i64_in _ (by omega), iquo_i64 (by omega) (by omega) (by omega)]
    show ((p.ps : Int) + 7) / 8 = (((p.ps + 7) / 8 : Nat) : Int)
    omega
  rw [g1, g2]
  have loop : ∀ (jj j : Nat) (h' : Heap) (G : Nat → Prop) (b r qb : Nat) (x' : RS), j + jj = min n 30 → T7 h h' F G M d b r m qb p x' → RgI p x' → x'.s.nl = x.s.nl →
      gabionlaw07_RingPlays.L8 (some ⟨d, 0, none⟩) (some ⟨r, 0, none⟩) (some ⟨m, 0, none⟩) (some ⟨qb, 0, none⟩) (tblN p.bk : Nat) a (min n 30) ((c : Int) - 0).toNat ((min n 30 : Nat) : Int) j p.pa p.pl p.ps p.psi h' fun v h' => v = .bool true ∧ Part h h' := by
    intro jj
    induction jj with
    | zero =>
      intro j h' G b r qb x' hj i iv e
      apply gabionlaw07_RingPlays.L8.ok
      exact xsIf_f (decide_eq_false (by omega)) ⟨rfl, i.t.pt⟩
    | succ jj ih =>
      intro j h' G b r qb x' hj i iv e
      have hjl : j < acts.length := by omega
      have hg : acts[j]? = some acts[j] := List.getElem?_eq_getElem hjl
      obtain ⟨ha1, ha2, ha3, ha4⟩ := hacts _ (List.getElem_mem hjl)
      refine rplays_act (x := acts[j]) i iv ha1 ha2 ha3 ha4 (by omega) (by omega) (fun K hK => ?_) fun h2 G2 b2 r2 qb2 x2 i2 iv2 e2 => ?_
      · refine reads_base (readsAt_part hr i.t.pt) (by rw [flat_length Act6.row_length]; omega) fun b o hcell => ?_
        have key : ∀ q, q < 6 → h'.cell b (o + (j * 6 + q)) = (acts[j].row)[q]? := fun q hq => by
          have := hcell (j * 6 + q) (by rw [flat_length Act6.row_length]; omega)
          rw [Nat.mul_one, flat_get Act6.row_length acts j q _ hg hq] at this
          exact this
        refine hK b o ?_ ?_ ?_ ?_ ?_ ?_
        · rw [Int.toNat_natCast]; exact key 0 (by omega)
        · rw [Int.toNat_natCast]; exact key 1 (by omega)
        · rw [Int.toNat_natCast]; exact key 2 (by omega)
        · rw [Int.toNat_natCast]; exact key 3 (by omega)
        · rw [Int.toNat_natCast]; exact key 4 (by omega)
        · rw [Int.toNat_natCast]; exact key 5 (by omega)
      · rw [show IntKind.i64.wrap ((j : Int) + 1) = ((j + 1 : Nat) : Int) by rw [i64_in _ (by omega)]; omega]
        exact ih (j + 1) h2 G2 b2 r2 qb2 x2 (by omega) i2 iv2 (e2.trans e)
  exact loop (min n 30) 0 h2 G b r qb x (by omega) i2 iv rfl
end Go.Gb
