/- Own text for the seat: Ln3. -/
import Derived.Test.YtbphidfhcijbhaaLn1
import Derived.Test.YtbphidfhcijbhaaRep1
set_option linter.unusedVariables false
set_option linter.unusedSimpArgs false
set_option linter.unnecessarySimpa false
set_option linter.deprecated false
namespace Go.Gb
open Go.Proofs IntWalk

/-! ## gabionlaw04: full; puts on a device that works -/

def zero64 : ByteArray := ⟨(Lib.repeatL [UInt8.ofNat 0] 64).toArray⟩
def fullB (s : ByteArray) : ByteArray := sext (s ++ zero64) 0 64

theorem zero64_size : zero64.size = 64 := by
  show (Lib.repeatL [UInt8.ofNat 0] 64).toArray.size = 64
  rw [List.size_toArray, Lib.repeatL_length]; rfl
theorem fullB_size (s : ByteArray) : (fullB s).size = 64 := by
  unfold fullB sext
  rw [ByteArray.size_extract, ByteArray.size_append, zero64_size]
  show min 64 _ - 0 = 64
  omega

theorem gabionlaw04_full.c {s : ByteArray} {h : Heap} {Q : Value → Heap → Prop} (hs : s.size ≤ 140737488351232) (hq : Q (.string (fullB s)) h) : C Try.prog 35 #[.string s] h Q := by
  apply gabionlaw04_full.ok
  refine strings_Repeat.c (c := 64) (by omega) (by show 1 ≤ 1000000; omega) ⟨_, rfl, ?_, ?_, hq⟩
  · show ((s.size + zero64.size : Nat) : Int) ≤ _
    rw [zero64_size]; omega
  · show (0 : Int) ≤ 64 ∧ (64 : Int) ≤ ((s ++ zero64).size : Int)
    rw [ByteArray.size_append, zero64_size]; omega

/-- A device that works, with nothing pending. -/
structure Cl (s : PmS) : Prop where
  off : s.off = false
  fuse : s.fuse = 0
  buf : ∀ w, w < 8 * s.nl → s.buf w = none
  c0 : 0 ≤ s.count
  c1 : s.count < 1000000000

theorem pflush_nf {s : PmS} {a : Nat} (h0 : s.off = false) (h1 : s.fuse = 0) (ha : a < s.nl) : pflush s (a : Int) = (0, { ptick s with buf := fbuf s.buf a 8 }) := by
  have := pflush_run (s := s) (k := (a : Int)) h0 (by rw [h1]; decide) (by omega) (by omega)
  rw [Int.toNat_natCast] at this; exact this
theorem pstore_nf {s : PmS} {k : Nat} {v : Int} (h0 : s.off = false) (h1 : s.fuse = 0) (hk : k < 8 * s.nl) : pstore s (k : Int) v = (0, { ptick s with buf := fset s.buf k (some (v, false)) }) := by
  have := pstore_run (s := s) (k := (k : Int)) (v := v) h0 (by rw [h1]; decide) (by omega) (by omega)
  rw [Int.toNat_natCast] at this; exact this
theorem ptick_fuse {s : PmS} (h : s.fuse = 0) : (ptick s).fuse = 0 := by show (if 0 < s.fuse then s.fuse - 1 else s.fuse) = 0; rw [h]; rfl
theorem ptick_count {s : PmS} (h : 0 ≤ s.count) (h1 : s.count < 2000000000) : (ptick s).count = s.count + 1 := by show IntKind.wrap .i64 (s.count + 1) = _; rw [i64_in _ (by omega)]

/-- What is stored lasts. -/
theorem llast_clean {s : PmS} {a : Nat} {p : Nat → Bool} {f : Nat → Int} (h0 : s.off = false) (h1 : s.fuse = 0) (ha : a < s.nl) (c0 : 0 ≤ s.count) (c1 : s.count < 1000001000)
    (hb : ∀ w, w < 8 * s.nl → s.buf w = if w / 8 = a ∧ p (w % 8) = true then some (f (w % 8), false) else none) :
    ∃ s', llast s (a : Int) = (0, s') ∧ s'.nl = s.nl ∧ s'.off = false ∧ s'.fuse = 0 ∧ s'.bad = s.bad ∧ s'.count = s.count + 2 ∧ (∀ w, w < 8 * s.nl → s'.buf w = none) ∧
      ∀ w, w < 8 * s.nl → s'.media w = if w / 8 = a ∧ p (w % 8) = true ∧ s.bad a = false then f (w % 8) else s.media w := by
  unfold llast
  rw [pflush_nf h0 h1 ha, if_pos rfl]
  generalize hs2 : ({ ptick s with buf := fbuf s.buf a 8 } : PmS) = s2
  have o2 : s2.off = false := by rw [← hs2]; exact h0
  have f2 : s2.fuse = 0 := by rw [← hs2]; exact ptick_fuse h1
  have nl2 : s2.nl = s.nl := by rw [← hs2]; rfl
  have b2 : s2.buf = fbuf s.buf a 8 := by rw [← hs2]
  have cc : s2.count = s.count + 1 := by rw [← hs2]; exact ptick_count c0 (by omega)
  have m2 : s2.media = s.media := by rw [← hs2]; rfl
  have bd2 : s2.bad = s.bad := by rw [← hs2]; rfl
  rw [pfence_run o2 (by rw [f2]; decide)]
  have hb2 : ∀ w, w < 8 * s.nl → s2.buf w = if w / 8 = a ∧ p (w % 8) = true then some (f (w % 8), true) else none := by
    intro w hw
    rw [b2]
    unfold fbuf
    rw [hb w hw]
    by_cases e : w / 8 = a ∧ p (w % 8) = true
    · rw [if_pos e, if_pos e, if_pos (by omega)]; rfl
    · rw [if_neg e, if_neg e]; split <;> rfl
  have hf : ∀ w, w < 8 * s.nl → (w ∈ flushed s2 ↔ w / 8 = a ∧ p (w % 8) = true) := by
    intro w hw
    rw [flushed_mem, nl2, hb2 w hw]
    by_cases e : w / 8 = a ∧ p (w % 8) = true
    · rw [if_pos e]; exact ⟨fun _ => e, fun _ => ⟨hw, _, rfl⟩⟩
    · rw [if_neg e]; exact ⟨fun h => (by obtain ⟨_, v, h⟩ := h; cases h), fun h => absurd h e⟩
  refine ⟨_, rfl, nl2, o2, ptick_fuse f2, bd2, ?_, fun w hw => ?_, fun w hw => ?_⟩
  · show (ptick s2).count = _
    rw [ptick_count (by omega) (by omega), cc]; omega
  · show lbuf (ptick s2) (flushed s2) w = none
    unfold lbuf
    by_cases e : w ∈ flushed s2
    · rw [if_pos e]
    · rw [if_neg e]
      show s2.buf w = none
      rw [hb2 w hw, if_neg (fun h => e ((hf w hw).2 h))]
  · show lmedia (ptick s2) (flushed s2) w = _
    unfold lmedia
    show (if w ∈ flushed s2 ∧ s2.bad (w / 8) = false then (match s2.buf w with | some x => x.1 | none => 0) else s2.media w) = _
    rw [m2, bd2]
    by_cases e : w / 8 = a ∧ p (w % 8) = true
    · by_cases eb : s.bad a = false
      · rw [if_pos ⟨(hf w hw).2 e, by rw [e.1]; exact eb⟩, if_pos ⟨e.1, e.2, eb⟩, hb2 w hw, if_pos e]
      · rw [if_neg (fun h => eb (by rw [← e.1]; exact h.2)), if_neg (fun h => eb h.2.2)]
    · rw [if_neg (fun h => e ((hf w hw).1 h.1)), if_neg (fun h => e ⟨h.1, h.2.1⟩)]

theorem lstores_clean {a : Nat} {f : Nat → Nat} : ∀ (j k : Nat) (s : PmS), k + j = 8 → s.off = false → s.fuse = 0 → a < s.nl → 0 ≤ s.count → s.count + j < 1000000500 →
    (∀ w, w < 8 * s.nl → s.buf w = if w / 8 = a ∧ w % 8 < k then some (((f (w % 8) : Nat) : Int), false) else none) →
    ∃ s', lstores a f j k s = (0, s') ∧ s'.nl = s.nl ∧ s'.off = false ∧ s'.fuse = 0 ∧ s'.bad = s.bad ∧ s'.count = s.count + j + 2 ∧ (∀ w, w < 8 * s.nl → s'.buf w = none) ∧
      ∀ w, w < 8 * s.nl → s'.media w = if w / 8 = a ∧ s.bad a = false then ((f (w % 8) : Nat) : Int) else s.media w := by
  intro j
  induction j with
  | zero =>
    intro k s hk h0 h1 ha c0 c1 hb
    obtain ⟨s', g1, g2, g3, g4, g5, g6, g7, g8⟩ := llast_clean (p := fun _ => true) (f := fun i => ((f i : Nat) : Int)) h0 h1 ha c0 (by omega) (fun w hw => by
      rw [hb w hw]
      by_cases e : w / 8 = a
      · rw [if_pos ⟨e, by omega⟩, if_pos ⟨e, rfl⟩]
      · rw [if_neg (fun h => e h.1), if_neg (fun h => e h.1)])
    refine ⟨s', g1, g2, g3, g4, g5, by omega, g7, fun w hw => ?_⟩
    rw [g8 w hw]
    by_cases e : w / 8 = a ∧ s.bad a = false
    · rw [if_pos ⟨e.1, rfl, e.2⟩, if_pos e]
    · rw [if_neg (fun h => e ⟨h.1, h.2.2⟩), if_neg e]
  | succ j ih =>
    intro k s hk h0 h1 ha c0 c1 hb
    unfold lstores
    rw [pstore_nf h0 h1 (by omega), if_pos rfl]
    obtain ⟨s', g1, g2, g3, g4, g5, g6, g7, g8⟩ := ih (k + 1) { ptick s with buf := fset s.buf (8 * a + k) (some (((f k : Nat) : Int), false)) } (by omega) h0 (ptick_fuse h1) ha (by show 0 ≤ (ptick s).count; rw [ptick_count c0 (by omega)]; omega) (by show (ptick s).count + j < _; rw [ptick_count c0 (by omega)]; omega) (fun w hw => by
      have hw : w < 8 * s.nl := hw
      show fset s.buf (8 * a + k) (some (((f k : Nat) : Int), false)) w = _
      unfold fset
      by_cases e : w = 8 * a + k
      · rw [if_pos e, if_pos (by omega), show w % 8 = k by omega]
      · rw [if_neg e, hb w hw]
        by_cases e2 : w / 8 = a ∧ w % 8 < k
        · rw [if_pos e2, if_pos (by omega)]
        · rw [if_neg e2, if_neg (by omega)])
    refine ⟨s', g1, g2, g3, g4, g5, ?_, g7, g8⟩
    rw [g6]
    show (ptick s).count + j + 2 = _
    rw [ptick_count c0 (by omega)]; omega

theorem lnput_clean {s : PmS} {a : Nat} {b : ByteArray} (cl : Cl s) (ha : a < s.nl) (hb : b.size = 64) : ∃ s', lnput s (a : Int) b = (0, s') ∧ Cl { s' with count := 0 } ∧ s'.nl = s.nl ∧ s'.bad = s.bad ∧ s'.count = s.count + 10 ∧
      ∀ w, w < 8 * s.nl → s'.media w = if w / 8 = a ∧ s.bad a = false then ((wordAt b (w % 8) : Nat) : Int) else s.media w := by
  have c0 := cl.c0
  have c1 := cl.c1
  obtain ⟨s', g1, g2, g3, g4, g5, g6, g7, g8⟩ := lstores_clean (a := a) (f := wordAt b) 8 0 s (by omega) cl.off cl.fuse ha cl.c0 (by omega) (fun w hw => by rw [cl.buf w hw, if_neg (by omega)])
  unfold lnput
  rw [if_pos hb, if_pos (by unfold lthere; rw [if_pos (by omega)]), Int.toNat_natCast]
  exact ⟨s', g1, ⟨g3, g4, by show ∀ w, w < 8 * s'.nl → s'.buf w = none; rw [g2]; exact g7, Int.le_refl _, by show (0 : Int) < _; omega⟩, g2, g5, by omega, g8⟩

theorem lnputw_clean {s : PmS} {a k : Nat} {v : Int} (cl : Cl s) (ha : a < s.nl) (hk : k < 8) : ∃ s', lnputw s (a : Int) (k : Int) v = (0, s') ∧ Cl { s' with count := 0 } ∧ s'.nl = s.nl ∧ s'.bad = s.bad ∧ s'.count = s.count + 3 ∧
      ∀ w, w < 8 * s.nl → s'.media w = if w = 8 * a + k ∧ s.bad a = false then v else s.media w := by
  have c0 := cl.c0
  have c1 := cl.c1
  unfold lnputw
  have e : (8 * (a : Int) + (k : Int)) = ((8 * a + k : Nat) : Int) := by omega
  rw [if_pos (by omega), if_pos (by unfold lthere; rw [if_pos (by omega)]), e, pstore_nf cl.off cl.fuse (by omega), if_pos rfl]
  have cc : (ptick s).count = s.count + 1 := ptick_count c0 (by omega)
  obtain ⟨s', g1, g2, g3, g4, g5, g6, g7, g8⟩ := llast_clean (s := { ptick s with buf := fset s.buf (8 * a + k) (some (v, false)) }) (a := a) (p := fun i => decide (i = k)) (f := fun _ => v) cl.off (ptick_fuse cl.fuse) ha (by show 0 ≤ (ptick s).count; omega) (by show (ptick s).count < _; omega) (fun w hw => by
    have hw : w < 8 * s.nl := hw
    show fset s.buf (8 * a + k) (some (v, false)) w = _
    unfold fset
    by_cases e : w = 8 * a + k
    · rw [if_pos e, if_pos ⟨by omega, decide_eq_true (by omega)⟩]
    · rw [if_neg e, cl.buf w hw, if_neg]
      rintro ⟨h1, h2⟩
      have := of_decide_eq_true h2
      omega)
  refine ⟨s', g1, ⟨g3, g4, by show ∀ w, w < 8 * s'.nl → s'.buf w = none; rw [g2]; exact g7, Int.le_refl _, by show (0 : Int) < _; omega⟩, g2, g5, ?_, fun w hw => ?_⟩
  · rw [g6]; show (ptick s).count + 2 = _; omega
  · rw [g8 w hw]
    by_cases e : w = 8 * a + k ∧ s.bad a = false
    · rw [if_pos e, if_pos ⟨by omega, decide_eq_true (by omega), e.2⟩]
    · rw [if_neg e, if_neg]
      · rfl
      · rintro ⟨h1, h2, h3⟩
        have := of_decide_eq_true h2
        exact e ⟨by omega, h3⟩
end Go.Gb
