/- Own text for the seat: Rf1. -/
import Derived.Test.YtbphidfhcijbhaaPmB
import Derived.Test.YtbphidfhcijbhaaHp
set_option linter.unusedVariables false
set_option linter.unusedSimpArgs false
set_option linter.unnecessarySimpa false
set_option linter.deprecated false
namespace Go.Gb
open Go.Proofs IntWalk

/-! ## gabionref03: the document's device over the same pure state -/

/-- A word of the document's. -/
structure Wd where
  media : Int
  there : Bool
  v : Int
  fl : Bool

def Wd.cell (q : Wd) : Nat → Value
  | 0 => .int .u64 q.media
  | 1 => .bool q.there
  | 2 => .int .u64 q.v
  | _ => .bool q.fl

def wcells (n : Nat) (q : Nat → Wd) : List Value := (List.range (4 * n)).map fun i => (q (i / 4)).cell (i % 4)

theorem wcells_get {n w j : Nat} (q : Nat → Wd) (hw : w < n) (hj : j < 4) : (wcells n q)[4 * w + j]? = some ((q w).cell j) := by
  unfold wcells
  rw [row_get (fun i => (q (i / 4)).cell (i % 4)) (show 4 * w + j < 4 * n by omega), show (4 * w + j) / 4 = w by omega, show (4 * w + j) % 4 = j by omega]

theorem wcells_set {n w j : Nat} {q : Nat → Wd} {q' : Wd} {x : Value} (hj : j < 4) (hx : q'.cell j = x) (ho : ∀ i, i < 4 → i ≠ j → q'.cell i = (q w).cell i) : (wcells n q).set (4 * w + j) x = wcells n (fset q w q') := by
  apply List.ext_getElem?
  intro i
  rw [List.getElem?_set]
  by_cases hi : i < 4 * n
  · have e1 : (wcells n q)[i]? = some ((q (i / 4)).cell (i % 4)) := by
      have := wcells_get q (show i / 4 < n by omega) (show i % 4 < 4 by omega)
      rwa [show 4 * (i / 4) + i % 4 = i by omega] at this
    have e2 : (wcells n (fset q w q'))[i]? = some ((fset q w q' (i / 4)).cell (i % 4)) := by
      have := wcells_get (fset q w q') (show i / 4 < n by omega) (show i % 4 < 4 by omega)
      rwa [show 4 * (i / 4) + i % 4 = i by omega] at this
    rw [e1, e2]
    unfold fset
    by_cases e : 4 * w + j = i
    · rw [if_pos e, if_pos (by unfold wcells; simp; omega), if_pos (by omega), ← hx, show i % 4 = j by omega]
    · rw [if_neg e]
      by_cases e3 : i / 4 = w
      · rw [if_pos e3, e3, ho (i % 4) (by omega) (by omega)]
      · rw [if_neg e3]
  · have e1 : (wcells n q)[i]? = none := List.getElem?_eq_none (by unfold wcells; simp; omega)
    have e2 : (wcells n (fset q w q'))[i]? = none := List.getElem?_eq_none (by unfold wcells; simp; omega)
    rw [e1, e2]
    by_cases e : 4 * w + j = i
    · rw [if_pos e, if_neg (by unfold wcells; simp; omega)]
    · rw [if_neg e]

theorem wcells_len (n : Nat) (q : Nat → Wd) : (wcells n q).length = 4 * n := by unfold wcells; simp

/-- A word and what the state says of it. -/
def Wr (q : Wd) (m : Int) (b : Option (Int × Bool)) : Prop := q.media = m ∧ match b with
  | none => q.there = false
  | some x => q.there = true ∧ q.v = x.1 ∧ q.fl = x.2

abbrev refV (wb rb bb nl : Nat) (f : Int) (o : Bool) (n : Int) : List Value := [.slice (some ⟨wb, 0, none⟩) (8 * nl) (8 * nl), .slice (some ⟨rb, 0, none⟩) nl nl, .slice (some ⟨bb, 0, none⟩) nl nl, .int .i64 f, .bool o, .int .i64 n]

structure RfC (F : Nat → Prop) (h : Heap) (m wb rb bb : Nat) (q : Nat → Wd) (s : PmS) : Prop where
  lo : 1 ≤ s.nl
  hi : s.nl ≤ 8192
  fm : F m
  fw : F wb
  fr : F rb
  fb : F bb
  ne : m ≠ wb ∧ m ≠ rb ∧ m ≠ bb ∧ wb ≠ rb ∧ wb ≠ bb ∧ rb ≠ bb
  hm : Blk h m (refV wb rb bb s.nl s.fuse s.off s.count)
  hw : Blk h wb (wcells (8 * s.nl) q)
  hr : Blk h rb (rowI s.nl s.wear)
  hb : Blk h bb (rowB s.nl s.bad)
  rel : ∀ w, w < 8 * s.nl → Wr (q w) (s.media w) (s.buf w)
  f0 : 0 ≤ s.fuse
  f1 : s.fuse < 9223372036854775808

def RfD (F : Nat → Prop) (h : Heap) (m : Nat) (s : PmS) : Prop := ∃ wb rb bb q, RfC F h m wb rb bb q s

theorem RfC.keep {F : Nat → Prop} {h h' : Heap} {m wb rb bb : Nat} {q : Nat → Wd} {s : PmS} (w : RfC F h m wb rb bb q s) (e : ∀ k, F k → h k ≠ none → h' k = h k) : RfC F h' m wb rb bb q s :=
  ⟨w.lo, w.hi, w.fm, w.fw, w.fr, w.fb, w.ne, w.hm.keep (e _ w.fm w.hm.ne), w.hw.keep (e _ w.fw w.hw.ne), w.hr.keep (e _ w.fr w.hr.ne), w.hb.keep (e _ w.fb w.hb.ne), w.rel, w.f0, w.f1⟩
theorem RfD.keep {F : Nat → Prop} {h h' : Heap} {m : Nat} {s : PmS} (w : RfD F h m s) (e : ∀ k, F k → h k ≠ none → h' k = h k) : RfD F h' m s := by
  obtain ⟨wb, rb, bb, q, w⟩ := w; exact ⟨wb, rb, bb, q, w.keep e⟩

section
variable {F : Nat → Prop} {h : Heap} {m wb rb bb : Nat} {q : Nat → Wd} {s : PmS} {Q : Value → Heap → Prop}

theorem RfC.c0 (w : RfC F h m wb rb bb q s) : h.cell m (0 + 0) = some (.slice (some ⟨wb, 0, none⟩) (8 * s.nl) (8 * s.nl)) := w.hm.cell 0
theorem RfC.c1 (w : RfC F h m wb rb bb q s) : h.cell m (0 + 1) = some (.slice (some ⟨rb, 0, none⟩) s.nl s.nl) := w.hm.cell 1
theorem RfC.c2 (w : RfC F h m wb rb bb q s) : h.cell m (0 + 2) = some (.slice (some ⟨bb, 0, none⟩) s.nl s.nl) := w.hm.cell 2
theorem RfC.c3 (w : RfC F h m wb rb bb q s) : h.cell m (0 + 3) = some (.int .i64 s.fuse) := w.hm.cell 3
theorem RfC.c4 (w : RfC F h m wb rb bb q s) : h.cell m (0 + 4) = some (.bool s.off) := w.hm.cell 4
theorem RfC.c5 (w : RfC F h m wb rb bb q s) : h.cell m (0 + 5) = some (.int .i64 s.count) := w.hm.cell 5
theorem RfC.wc (w : RfC F h m wb rb bb q s) {k j : Nat} (hk : k < 8 * s.nl) (hj : j < 4) : h.cell wb (4 * k + j) = some ((q k).cell j) := by rw [w.hw.cell]; exact wcells_get q hk hj

/-- One cell of a word is set. -/
theorem RfC.wput (w : RfC F h m wb rb bb q s) {k j : Nat} {x : Value} {q' : Wd} {md : Nat → Int} {bf : Nat → Option (Int × Bool)} (hk : k < 8 * s.nl) (hj : j < 4) (hx : q'.cell j = x) (ho : ∀ i, i < 4 → i ≠ j → q'.cell i = (q k).cell i)
    (hr : ∀ i, i < 8 * s.nl → Wr (fset q k q' i) (md i) (bf i)) : RfC F (h.put wb (4 * k + j) [x]) m wb rb bb (fset q k q') { s with media := md, buf := bf } := by
  have hk' : ∀ i, i ≠ wb → h.put wb (4 * k + j) [x] i = h i := fun i hi => put_other h _ _ hi
  have ne := w.ne
  refine ⟨w.lo, w.hi, w.fm, w.fw, w.fr, w.fb, ne, w.hm.keep (hk' _ ne.1), ?_, w.hr.keep (hk' _ (Ne.symm ne.2.2.2.1)), w.hb.keep (hk' _ (Ne.symm ne.2.2.2.2.1)), hr, w.f0, w.f1⟩
  have := w.hw.put (4 * k + j) [x]
  rw [setL_one, wcells_set hj hx ho] at this
  exact this
theorem RfC.wcan (w : RfC F h m wb rb bb q s) {k j : Nat} (hk : k < 8 * s.nl) (hj : j < 4) : h.can wb (4 * k + j) 1 := w.hw.can (by rw [wcells_len]; omega)

/-- The own block is changed. -/
theorem RfC.own {h' : Heap} (w : RfC F h m wb rb bb q s) {f n : Int} {o : Bool} (hd : Blk h' m (refV wb rb bb s.nl f o n)) (hk : ∀ k, k ≠ m → h' k = h k) (f0 : 0 ≤ f) (f1 : f < 9223372036854775808) : RfC F h' m wb rb bb q { s with fuse := f, off := o, count := n } := by
  have ne := w.ne
  exact ⟨w.lo, w.hi, w.fm, w.fw, w.fr, w.fb, ne, hd, w.hw.keep (hk _ (Ne.symm ne.1)), w.hr.keep (hk _ (Ne.symm ne.2.1)), w.hb.keep (hk _ (Ne.symm ne.2.2.1)), w.rel, f0, f1⟩

theorem gabionref03_begin.c {a o : Int} (w : RfC F h m wb rb bb q s)
    (hq : ∀ h', RfC F h' m wb rb bb q (pbegin s a o).2 → Step F h F h' → (∀ k, k ≠ m → h' k = h k) → Q (.int .i64 (pbegin s a o).1) h') : C Try.prog 75 #[.pointer (some ⟨m, 0, none⟩), .int .i64 a, .int .i64 o] h Q := by
  apply gabionref03_begin.ok
  refine ⟨m, 0, rfl, s.off, w.c4, xsIf_intro (fun h1 => ?_) fun h1 => xsIf_intro (fun h2 => ?_) fun h2 => xsIf_intro (fun h3 => ?_) fun h3 => ?_⟩
  · have e : pbegin s a o = (6, s) := pbegin_off h1
    rw [e] at hq
    exact hq h w (Step.refl _ _) fun _ _ => rfl
  · have h2 := of_decide_eq_true h2
    have e : pbegin s a o = (3, s) := by
      have : pready s a o = 3 := by unfold pready; rw [if_neg (by simp [h1]), if_neg (by omega)]
      unfold pbegin; rw [this]; rfl
    rw [e] at hq
    exact hq h w (Step.refl _ _) fun _ _ => rfl
  · have h3 := of_decide_eq_true h3
    have e : pbegin s a o = (3, s) := by
      have : pready s a o = 3 := by unfold pready; rw [if_neg (by simp [h1]), if_neg (by omega)]
      unfold pbegin; rw [this]; rfl
    rw [e] at hq
    exact hq h w (Step.refl _ _) fun _ _ => rfl
  · have h2 := of_decide_eq_false h2
    have h3 := of_decide_eq_false h3
    have er : pready s a o = 0 := by unfold pready; rw [if_neg (by simp [h1]), if_pos (by omega)]
    have eb : pbegin s a o = pburn s := by unfold pbegin; rw [if_pos er]
    rw [eb] at hq
    apply gabionref03_begin.J5.ok
    have f0 := w.f0
    have f1 := w.f1
    refine ⟨m, 0, rfl, s.fuse, w.c3, xsIf_intro (fun h4 => ?_) fun h4 => ⟨m, 0, rfl, s.fuse, w.c3, xsIf_intro (fun h5 => ?_) fun h5 => ?_⟩⟩
    · have h4 := of_decide_eq_true h4
      have e : pburn s = (6, { s with fuse := 0, off := true }) := by unfold pburn; rw [if_pos h4]
      rw [e] at hq
      refine ⟨m, 0, rfl, w.hm.can (by simp), m, 0, rfl, (w.hm.put _ _).can (by simp [setL_length]), ?_⟩
      have b2 := (w.hm.put (0 + 3) [.int .i64 0]).put (0 + 4) [.bool true]
      refine hq _ (w.own (f := 0) (o := true) (n := s.count) b2 (fun k hk => by rw [put_other _ _ _ hk, put_other _ _ _ hk]) (by omega) (by omega)) ((Step.put w.fm _ _).trans (Step.put w.fm _ _)) fun k hk => by rw [put_other _ _ _ hk, put_other _ _ _ hk]
    · have h5 := of_decide_eq_true h5
      have h4 := of_decide_eq_false h4
      have e : pburn s = (0, { s with fuse := s.fuse - 1, count := IntKind.wrap .i64 (s.count + 1) }) := by unfold pburn; rw [if_neg h4, if_pos (by omega)]
      rw [e] at hq
      have b1 := w.hm.put (0 + 3) [.int .i64 (IntKind.wrap .i64 (s.fuse - 1))]
      refine ⟨m, 0, rfl, s.fuse, w.c3, m, 0, rfl, w.hm.can (by simp), m, 0, rfl, s.count, b1.cell 5, m, 0, rfl, b1.can (by simp [setL_length]), ?_⟩
      have b2 := b1.put (0 + 5) [.int .i64 (IntKind.wrap .i64 (s.count + 1))]
      have ew : IntKind.i64.wrap (s.fuse - 1) = s.fuse - 1 := i64_in _ (by omega)
      rw [ew] at b2 ⊢
      exact hq _ (w.own (f := s.fuse - 1) (o := s.off) (n := IntKind.wrap .i64 (s.count + 1)) b2 (fun k hk => by rw [put_other _ _ _ hk, put_other _ _ _ hk]) (by omega) (by omega)) ((Step.put w.fm _ _).trans (Step.put w.fm _ _)) fun k hk => by rw [put_other _ _ _ hk, put_other _ _ _ hk]
    · have h5 := of_decide_eq_false h5
      have h4 := of_decide_eq_false h4
      have e : pburn s = (0, { s with count := IntKind.wrap .i64 (s.count + 1) }) := by unfold pburn; rw [if_neg h4, if_neg (by omega)]
      rw [e] at hq
      refine ⟨m, 0, rfl, s.count, w.c5, m, 0, rfl, w.hm.can (by simp), ?_⟩
      have b2 := w.hm.put (0 + 5) [.int .i64 (IntKind.wrap .i64 (s.count + 1))]
      exact hq _ (w.own (f := s.fuse) (o := s.off) (n := IntKind.wrap .i64 (s.count + 1)) b2 (fun k hk => put_other _ _ _ hk) f0 f1) (Step.put w.fm _ _) fun k hk => put_other _ _ _ hk

theorem gabionref03_Load.c {k : Int} (w : RfD F h m s) (hq : Q (.tuple #[.int .u64 (pload s k).1, .int .i64 (pload s k).2]) h) : C Try.prog 59 #[.pointer (some ⟨m, 0, none⟩), .int .i64 k] h Q := by
  obtain ⟨wb, rb, bb, q, w⟩ := w
  apply gabionref03_Load.ok
  unfold pload pready at hq
  refine ⟨m, 0, rfl, s.off, w.c4, xsIf_intro (fun h1 => ?_) fun h1 => xsIf_intro (fun h2 => ?_) fun h2 => ⟨m, 0, rfl, _, _, _, w.c0, xsIf_intro (fun h3 => ?_) fun h3 => ?_⟩⟩
  · rw [h1] at hq; exact hq
  · have h2 := of_decide_eq_true h2
    rw [h1, if_neg (show ¬ (false = true) by simp), if_neg (show ¬ (0 ≤ k ∧ k < ((8 * s.nl : Nat) : Int)) by omega)] at hq; exact hq
  · have h3 := of_decide_eq_true h3
    rw [h1, if_neg (show ¬ (false = true) by simp), if_neg (show ¬ (0 ≤ k ∧ k < ((8 * s.nl : Nat) : Int)) by omega)] at hq; exact hq
  · have h2 := of_decide_eq_false h2
    have h3 := of_decide_eq_false h3
    rw [h1, if_neg (show ¬ (false = true) by simp), if_pos (show 0 ≤ k ∧ k < ((8 * s.nl : Nat) : Int) by omega), if_pos rfl] at hq
    apply gabionref03_Load.J5.ok
    have hk : k.toNat < 8 * s.nl := by omega
    have ew : ∀ j, 0 + k.toNat * 4 + j = 4 * k.toNat + j := fun j => by omega
    have r := w.rel k.toNat hk
    have c0 : h.cell wb (0 + k.toNat * 4 + 0) = some (.int .u64 (q k.toNat).media) := by rw [ew]; exact w.wc hk (by omega)
    have c1 : h.cell wb (0 + k.toNat * 4 + 1) = some (.bool (q k.toNat).there) := by rw [ew]; exact w.wc hk (by omega)
    have c2 : h.cell wb (0 + k.toNat * 4 + 2) = some (.int .u64 (q k.toNat).v) := by rw [ew]; exact w.wc hk (by omega)
    refine ⟨m, 0, rfl, _, _, _, w.c0, by omega, wb, 0, rfl, _, c1, xsIf_intro (fun h4 => ⟨m, 0, rfl, _, _, _, w.c0, by omega, wb, 0, rfl, _, c2, ?_⟩) fun h4 => ⟨m, 0, rfl, _, _, _, w.c0, by omega, wb, 0, rfl, _, c0, ?_⟩⟩
    · unfold Wr at r
      cases e : s.buf k.toNat with
      | none => rw [e] at r; have := r.2; rw [h4] at this; cases this
      | some x => rw [e] at r hq; rw [r.2.2.1]; exact hq
    · unfold Wr at r
      cases e : s.buf k.toNat with
      | none => rw [e] at hq; rw [r.1]; exact hq
      | some x => rw [e] at r; have := r.2.1; rw [h4] at this; cases this

theorem gabionref03_Store.c {k v : Int} (w : RfD F h m s) (hq : ∀ h', RfD F h' m (pstore s k v).2 → Step F h F h' → Q (.int .i64 (pstore s k v).1) h') :
    C Try.prog 56 #[.pointer (some ⟨m, 0, none⟩), .int .i64 k, .int .u64 v] h Q := by
  obtain ⟨wb, rb, bb, q, w⟩ := w
  apply gabionref03_Store.ok
  refine ⟨m, 0, rfl, _, _, _, w.c0, gabionref03_begin.c w fun h2 w2 st2 _ => ⟨_, rfl, ?_⟩⟩
  unfold pstore at hq
  refine xsIf_intro (fun h1 => ?_) fun h1 => ?_
  · have h1 := of_decide_eq_true h1
    rw [if_pos h1] at hq
    obtain ⟨-, k0, k1⟩ := pbegin_ok h1
    have nl := pbegin_nl s k ((8 * s.nl : Nat) : Int)
    have bf := pbegin_buf s k ((8 * s.nl : Nat) : Int)
    rw [h1]
    dsimp only at hq
    generalize (pbegin s k ((8 * s.nl : Nat) : Int)).2 = s2 at w2 hq nl bf
    have hk : k.toNat < 8 * s2.nl := by omega
    have ew : ∀ j, 0 + k.toNat * 4 + j = 4 * k.toNat + j := fun j => by omega
    have r2 := w2.rel
    have w3 := w2.wput (k := k.toNat) (j := 1) (x := .bool true) (q' := { q k.toNat with there := true }) (md := s2.media) (bf := fset s2.buf k.toNat (some ((q k.toNat).v, (q k.toNat).fl))) hk (by omega) rfl (fun i hi hn => by
      match i, hi, hn with
      | 0, _, _ => rfl
      | 2, _, _ => rfl
      | 3, _, _ => rfl) (fun i hi => by
      unfold fset
      by_cases e : i = k.toNat
      · rw [if_pos e, if_pos e, e]; exact ⟨(r2 _ hk).1, rfl, rfl, rfl⟩
      · rw [if_neg e, if_neg e]; exact r2 i hi)
    rw [← ew 1] at w3
    have w4 := w3.wput (k := k.toNat) (j := 2) (x := .int .u64 v) (q' := { q k.toNat with there := true, v := v }) (md := s2.media) (bf := fset s2.buf k.toNat (some (v, (q k.toNat).fl))) hk (by omega) rfl (fun i hi hn => by
      have e : fset q k.toNat { q k.toNat with there := true } k.toNat = { q k.toNat with there := true } := by unfold fset; rw [if_pos rfl]
      rw [e]
      match i, hi, hn with
      | 0, _, _ => rfl
      | 1, _, _ => rfl
      | 3, _, _ => rfl) (fun i hi => by
      unfold fset
      by_cases e : i = k.toNat
      · rw [if_pos e, if_pos e, e]; exact ⟨(r2 _ hk).1, rfl, rfl, rfl⟩
      · rw [if_neg e, if_neg e, if_neg e]; exact r2 i hi)
    rw [← ew 2] at w4
    have w5 := w4.wput (k := k.toNat) (j := 3) (x := .bool false) (q' := ⟨(q k.toNat).media, true, v, false⟩) (md := s2.media) (bf := fset s.buf k.toNat (some (v, false))) hk (by omega) rfl (fun i hi hn => by
      have e : fset (fset q k.toNat { q k.toNat with there := true }) k.toNat { q k.toNat with there := true, v := v } k.toNat = { q k.toNat with there := true, v := v } := by unfold fset; rw [if_pos rfl]
      rw [e]
      match i, hi, hn with
      | 0, _, _ => rfl
      | 1, _, _ => rfl
      | 2, _, _ => rfl
      | 3, _, hn => exact absurd rfl hn) (fun i hi => by
      unfold fset
      by_cases e : i = k.toNat
      · rw [if_pos e, if_pos e, e]; exact ⟨(r2 _ hk).1, rfl, rfl, rfl⟩
      · rw [if_neg e, if_neg e, if_neg e, if_neg e, ← bf]; exact r2 i hi)
    have kb : 0 ≤ k ∧ k < ((8 * s2.nl : Nat) : Int) := by omega
    refine ⟨m, 0, rfl, _, _, _, w2.c0, kb, wb, 0, rfl, by rw [ew]; exact w2.wcan hk (by omega), m, 0, rfl, _, _, _, w3.c0, kb, wb, 0, rfl, by have := w3.wcan (j := 2) hk (by omega); rw [← ew 2] at this; exact this, m, 0, rfl, _, _, _, w4.c0, kb, wb, 0, rfl, by have := w4.wcan (j := 3) hk (by omega); rw [← ew 3] at this; exact this, ?_⟩
    rw [← ew 3] at w5
    exact hq _ ⟨wb, rb, bb, _, w5⟩ (((st2.trans (Step.put w.fw _ _)).trans (Step.put w.fw _ _)).trans (Step.put w.fw _ _))
  · have h1 := of_decide_eq_false h1
    rw [if_neg h1] at hq
    exact hq h2 ⟨wb, rb, bb, q, w2⟩ st2

theorem gabionref03_Flush.L3.c {L : Nat} (hL : L < s.nl) : ∀ (j k : Nat) (h : Heap) (q : Nat → Wd), k + j = 8 → RfC F h m wb rb bb q { s with buf := fbuf s.buf L k } → (∀ h' q', RfC F h' m wb rb bb q' { s with buf := fbuf s.buf L 8 } → Step F h F h' → Q (.int .i64 0) h') →
    gabionref03_Flush.L3 (some ⟨m, 0, none⟩) (L : Int) 0 (k : Int) h Q := by
  intro j
  induction j with
  | zero =>
    intro k h q hk w hq
    apply gabionref03_Flush.L3.ok
    have : k = 8 := by omega
    subst this
    exact xsIf_f (decide_eq_false (by omega)) (hq h q w (Step.refl _ _))
  | succ j ih =>
    intro k h q hk w hq
    apply gabionref03_Flush.L3.ok
    refine xsIf_t (decide_eq_true (by omega)) (xsIf_t rfl ?_)
    apply gabionref03_Flush.J5.ok
    unfold gabionref03_Flush.J5.wp
    have hi : s.nl ≤ 8192 := w.hi
    have e1 : IntKind.i64.wrap (IntKind.i64.wrap (8 * (L : Int)) + k) = ((8 * L + k : Nat) : Int) := by
      rw [i64_in (8 * (L : Int)) (by omega), i64_in _ (by omega)]; omega
    have e2 : IntKind.i64.wrap ((k : Int) + 1) = ((k + 1 : Nat) : Int) := by rw [i64_in _ (by omega)]; omega
    rw [e1, e2]
    have ew : ∀ j, 0 + ((8 * L + k : Nat) : Int).toNat * 4 + j = 4 * (8 * L + k) + j := fun j => by omega
    have hw : 8 * L + k < 8 * s.nl := by omega
    have r2 := w.rel
    have w3 := w.wput (k := 8 * L + k) (j := 3) (x := .bool (q (8 * L + k)).there) (q' := { q (8 * L + k) with fl := (q (8 * L + k)).there }) (md := s.media) (bf := fbuf s.buf L (k + 1)) hw (by omega) rfl (fun i hi hn => by
      match i, hi, hn with
      | 0, _, _ => rfl
      | 1, _, _ => rfl
      | 2, _, _ => rfl
      | 3, _, hn => exact absurd rfl hn) (fun i hi => by
      have hri := r2 i hi
      have hri : Wr (q i) (s.media i) (fbuf s.buf L k i) := hri
      unfold fset
      by_cases e : i = 8 * L + k
      · rw [if_pos e, ← e]
        have eb : fbuf s.buf L k i = s.buf i := by unfold fbuf; rw [if_neg (by omega)]
        have eb2 : fbuf s.buf L (k + 1) i = (s.buf i).map fun x => (x.1, true) := by unfold fbuf; rw [if_pos (by omega)]
        rw [eb] at hri
        rw [eb2]
        unfold Wr at hri ⊢
        cases hb : s.buf i with
        | none => rw [hb] at hri; exact hri
        | some x => rw [hb] at hri; exact ⟨hri.1, hri.2.1, hri.2.2.1, hri.2.1⟩
      · rw [if_neg e]
        have eb : fbuf s.buf L (k + 1) i = fbuf s.buf L k i := by
          unfold fbuf
          by_cases e3 : 8 * L ≤ i ∧ i < 8 * L + k
          · rw [if_pos e3, if_pos (by omega)]
          · rw [if_neg e3, if_neg (by omega)]
        rw [eb]; exact hri)
    have kb : 0 ≤ ((8 * L + k : Nat) : Int) ∧ ((8 * L + k : Nat) : Int) < ((8 * s.nl : Nat) : Int) := by omega
    refine ⟨m, 0, rfl, m, 0, rfl, _, _, _, w.c0, _, _, _, w.c0, kb, wb, 0, rfl, (q (8 * L + k)).there, by rw [ew]; exact w.wc (j := 1) hw (by omega), kb, wb, 0, rfl, by rw [ew]; exact w.wcan (j := 3) hw (by omega), ?_⟩
    rw [← ew 3] at w3
    exact ih (k + 1) _ _ (by omega) w3 fun h' q' w' st => hq h' q' w' ((Step.put w.fw _ _).trans st)

theorem gabionref03_Flush.c {k : Int} (w : RfD F h m s) (hq : ∀ h', RfD F h' m (pflush s k).2 → Step F h F h' → Q (.int .i64 (pflush s k).1) h') :
    C Try.prog 57 #[.pointer (some ⟨m, 0, none⟩), .int .i64 k] h Q := by
  obtain ⟨wb, rb, bb, q, w⟩ := w
  apply gabionref03_Flush.ok
  refine ⟨m, 0, rfl, _, _, _, w.c1, gabionref03_begin.c w fun h2 w2 st2 _ => ⟨_, rfl, ?_⟩⟩
  unfold pflush at hq
  by_cases h1 : (pbegin s k s.nl).1 = 0
  · rw [if_pos h1] at hq
    obtain ⟨-, k0, k1⟩ := pbegin_ok h1
    have nl := pbegin_nl s k s.nl
    have bf := pbegin_buf s k s.nl
    rw [h1]
    generalize (pbegin s k s.nl).2 = s2 at w2 hq nl bf
    rw [← bf] at hq
    have ek : k = ((k.toNat : Nat) : Int) := by omega
    rw [ek]
    refine gabionref03_Flush.L3.c (s := s2) (by omega) 8 0 h2 q (by omega) (by rw [fbuf_zero]; exact w2) fun h' q' w' st => ?_
    exact hq h' ⟨wb, rb, bb, q', w'⟩ (st2.trans st)
  · rw [if_neg h1] at hq
    apply gabionref03_Flush.L3.ok
    exact xsIf_t rfl (xsIf_f (decide_eq_false h1) (hq h2 ⟨wb, rb, bb, q, w2⟩ st2))
end
end Go.Gb
