/- Own texts for the seat: Ln3 Ln4 Ln7 Ln5 Ln8. -/
import Derived.Test.YtbphidfhcijbhaaB4
import Derived.Test.YtbphidfhcijbhaaB3
import Derived.Test.YtbphidfhcijbhaaB1
set_option linter.unusedVariables false
set_option linter.unusedSimpArgs false
set_option linter.unnecessarySimpa false
set_option linter.deprecated false
namespace Go.Gb
open Go.Proofs IntWalk

/-! ## gabionlaw04: full; puts on a device that works -/

def zero64 : ByteArray := ⟨(Lib.repeatL [UInt8.ofNat 0] 64).toArray⟩
def fullB (s : ByteArray) : ByteArray := sext (s ++ zero64) 0 64

theorem zero64_size : zero64.size = 64 := by
  show (Lib.repeatL [UInt8.ofNat 0] 64).toArray.size = 64
  rw [List.size_toArray, Lib.repeatL_length]; rfl
theorem fullB_size (s : ByteArray) : (fullB s).size = 64 := by
  unfold fullB sext
  rw [ByteArray.size_extract, ByteArray.size_append, zero64_size]
  show min 64 _ - 0 = 64
  omega

theorem gabionlaw04_full.c {s : ByteArray} {h : Heap} {Q : Value → Heap → Prop} (hs : s.size ≤ 140737488351232) (hq : Q (.string (fullB s)) h) : C Try.prog 35 #[.string s] h Q := by
  apply gabionlaw04_full.ok
  refine strings_Repeat.c (c := 64) (by omega) (by show 1 ≤ 1000000; omega) ⟨_, rfl, ?_, ?_, hq⟩
  · show ((s.size + zero64.size : Nat) : Int) ≤ _
    rw [zero64_size]; omega
  · show (0 : Int) ≤ 64 ∧ (64 : Int) ≤ ((s ++ zero64).size : Int)
    rw [ByteArray.size_append, zero64_size]; omega

/-- A device that works, with nothing pending. -/
structure Cl (s : PmS) : Prop where
  off : s.off = false
  fuse : s.fuse = 0
  buf : ∀ w, w < 8 * s.nl → s.buf w = none
  c0 : 0 ≤ s.count
  c1 : s.count < 1000000000

theorem pflush_nf {s : PmS} {a : Nat} (h0 : s.off = false) (h1 : s.fuse = 0) (ha : a < s.nl) : pflush s (a : Int) = (0, { ptick s with buf := fbuf s.buf a 8 }) := by
  have := pflush_run (s := s) (k := (a : Int)) h0 (by rw [h1]; decide) (by omega) (by omega)
  rw [Int.toNat_natCast] at this; exact this
theorem pstore_nf {s : PmS} {k : Nat} {v : Int} (h0 : s.off = false) (h1 : s.fuse = 0) (hk : k < 8 * s.nl) : pstore s (k : Int) v = (0, { ptick s with buf := fset s.buf k (some (v, false)) }) := by
  have := pstore_run (s := s) (k := (k : Int)) (v := v) h0 (by rw [h1]; decide) (by omega) (by omega)
  rw [Int.toNat_natCast] at this; exact this
theorem ptick_fuse {s : PmS} (h : s.fuse = 0) : (ptick s).fuse = 0 := by show (if 0 < s.fuse then s.fuse - 1 else s.fuse) = 0; rw [h]; rfl
theorem ptick_count {s : PmS} (h : 0 ≤ s.count) (h1 : s.count < 2000000000) : (ptick s).count = s.count + 1 := by show IntKind.wrap .i64 (s.count + 1) = _; rw [i64_in _ (by omega)]

/-- What is stored lasts. -/
theorem llast_clean {s : PmS} {a : Nat} {p : Nat → Bool} {f : Nat → Int} (h0 : s.off = false) (h1 : s.fuse = 0) (ha : a < s.nl) (c0 : 0 ≤ s.count) (c1 : s.count < 1000001000)
    (hb : ∀ w, w < 8 * s.nl → s.buf w = if w / 8 = a ∧ p (w % 8) = true then some (f (w % 8), false) else none) :
    ∃ s', llast s (a : Int) = (0, s') ∧ s'.nl = s.nl ∧ s'.off = false ∧ s'.fuse = 0 ∧ s'.bad = s.bad ∧ s'.count = s.count + 2 ∧ (∀ w, w < 8 * s.nl → s'.buf w = none) ∧
      ∀ w, w < 8 * s.nl → s'.media w = if w / 8 = a ∧ p (w % 8) = true ∧ s.bad a = false then f (w % 8) else s.media w := by
  unfold llast
  rw [pflush_nf h0 h1 ha, if_pos rfl]
  generalize hs2 : ({ ptick s with buf := fbuf s.buf a 8 } : PmS) = s2
  have o2 : s2.off = false := by rw [← hs2]; exact h0
  have f2 : s2.fuse = 0 := by rw [← hs2]; exact ptick_fuse h1
  have nl2 : s2.nl = s.nl := by rw [← hs2]; rfl
  have b2 : s2.buf = fbuf s.buf a 8 := by rw [← hs2]
  have cc : s2.count = s.count + 1 := by rw [← hs2]; exact ptick_count c0 (by omega)
  have m2 : s2.media = s.media := by rw [← hs2]; rfl
  have bd2 : s2.bad = s.bad := by rw [← hs2]; rfl
  rw [pfence_run o2 (by rw [f2]; decide)]
  have hb2 : ∀ w, w < 8 * s.nl → s2.buf w = if w / 8 = a ∧ p (w % 8) = true then some (f (w % 8), true) else none := by
    intro w hw
    rw [b2]
    unfold fbuf
    rw [hb w hw]
    by_cases e : w / 8 = a ∧ p (w % 8) = true
    · rw [if_pos e, if_pos e, if_pos (by omega)]; rfl
    · rw [if_neg e, if_neg e]; split <;> rfl
  have hf : ∀ w, w < 8 * s.nl → (w ∈ flushed s2 ↔ w / 8 = a ∧ p (w % 8) = true) := by
    intro w hw
    rw [flushed_mem, nl2, hb2 w hw]
    by_cases e : w / 8 = a ∧ p (w % 8) = true
    · rw [if_pos e]; exact ⟨fun _ => e, fun _ => ⟨hw, _, rfl⟩⟩
    · rw [if_neg e]; exact ⟨fun h => (by obtain ⟨_, v, h⟩ := h; cases h), fun h => absurd h e⟩
  refine ⟨_, rfl, nl2, o2, ptick_fuse f2, bd2, ?_, fun w hw => ?_, fun w hw => ?_⟩
  · show (ptick s2).count = _
    rw [ptick_count (by omega) (by omega), cc]; omega
  · show lbuf (ptick s2) (flushed s2) w = none
    unfold lbuf
    by_cases e : w ∈ flushed s2
    · rw [if_pos e]
    · rw [if_neg e]
      show s2.buf w = none
      rw [hb2 w hw, if_neg (fun h => e ((hf w hw).2 h))]
  · show lmedia (ptick s2) (flushed s2) w = _
    unfold lmedia
    show (if w ∈ flushed s2 ∧ s2.bad (w / 8) = false then (match s2.buf w with | some x => x.1 | none => 0) else s2.media w) = _
    rw [m2, bd2]
    by_cases e : w / 8 = a ∧ p (w % 8) = true
    · by_cases eb : s.bad a = false
      · rw [if_pos ⟨(hf w hw).2 e, by rw [e.1]; exact eb⟩, if_pos ⟨e.1, e.2, eb⟩, hb2 w hw, if_pos e]
      · rw [if_neg (fun h => eb (by rw [← e.1]; exact h.2)), if_neg (fun h => eb h.2.2)]
    · rw [if_neg (fun h => e ((hf w hw).1 h.1)), if_neg (fun h => e ⟨h.1, h.2.1⟩)]

theorem lstores_clean {a : Nat} {f : Nat → Nat} : ∀ (j k : Nat) (s : PmS), k + j = 8 → s.off = false → s.fuse = 0 → a < s.nl → 0 ≤ s.count → s.count + j < 1000000500 →
    (∀ w, w < 8 * s.nl → s.buf w = if w / 8 = a ∧ w % 8 < k then some (((f (w % 8) : Nat) : Int), false) else none) →
    ∃ s', lstores a f j k s = (0, s') ∧ s'.nl = s.nl ∧ s'.off = false ∧ s'.fuse = 0 ∧ s'.bad = s.bad ∧ s'.count = s.count + j + 2 ∧ (∀ w, w < 8 * s.nl → s'.buf w = none) ∧
      ∀ w, w < 8 * s.nl → s'.media w = if w / 8 = a ∧ s.bad a = false then ((f (w % 8) : Nat) : Int) else s.media w := by
  intro j
  induction j with
  | zero =>
    intro k s hk h0 h1 ha c0 c1 hb
    obtain ⟨s', g1, g2, g3, g4, g5, g6, g7, g8⟩ := llast_clean (p := fun _ => true) (f := fun i => ((f i : Nat) : Int)) h0 h1 ha c0 (by omega) (fun w hw => by
      rw [hb w hw]
      by_cases e : w / 8 = a
      · rw [if_pos ⟨e, by omega⟩, if_pos ⟨e, rfl⟩]
      · rw [if_neg (fun h => e h.1), if_neg (fun h => e h.1)])
    refine ⟨s', g1, g2, g3, g4, g5, by omega, g7, fun w hw => ?_⟩
    rw [g8 w hw]
    by_cases e : w / 8 = a ∧ s.bad a = false
    · rw [if_pos ⟨e.1, rfl, e.2⟩, if_pos e]
    · rw [if_neg (fun h => e ⟨h.1, h.2.2⟩), if_neg e]
  | succ j ih =>
    intro k s hk h0 h1 ha c0 c1 hb
    unfold lstores
    rw [pstore_nf h0 h1 (by omega), if_pos rfl]
    obtain ⟨s', g1, g2, g3, g4, g5, g6, g7, g8⟩ := ih (k + 1) { ptick s with buf := fset s.buf (8 * a + k) (some (((f k : Nat) : Int), false)) } (by omega) h0 (ptick_fuse h1) ha (by show 0 ≤ (ptick s).count; rw [ptick_count c0 (by omega)]; omega) (by show (ptick s).count + j < _; rw [ptick_count c0 (by omega)]; omega) (fun w hw => by
      have hw : w < 8 * s.nl := hw
      show fset s.buf (8 * a + k) (some (((f k : Nat) : Int), false)) w = _
      unfold fset
      by_cases e : w = 8 * a + k
      · rw [if_pos e, if_pos (by omega), show w % 8 = k by omega]
      · rw [if_neg e, hb w hw]
        by_cases e2 : w / 8 = a ∧ w % 8 < k
        · rw [if_pos e2, if_pos (by omega)]
        · rw [if_neg e2, if_neg (by omega)])
    refine ⟨s', g1, g2, g3, g4, g5, ?_, g7, g8⟩
    rw [g6]
    show (ptick s).count + j + 2 = _
    rw [ptick_count c0 (by omega)]; omega

theorem lnput_clean {s : PmS} {a : Nat} {b : ByteArray} (cl : Cl s) (ha : a < s.nl) (hb : b.size = 64) : ∃ s', lnput s (a : Int) b = (0, s') ∧ Cl { s' with count := 0 } ∧ s'.nl = s.nl ∧ s'.bad = s.bad ∧ s'.count = s.count + 10 ∧
      ∀ w, w < 8 * s.nl → s'.media w = if w / 8 = a ∧ s.bad a = false then ((wordAt b (w % 8) : Nat) : Int) else s.media w := by
  have c0 := cl.c0
  have c1 := cl.c1
  obtain ⟨s', g1, g2, g3, g4, g5, g6, g7, g8⟩ := lstores_clean (a := a) (f := wordAt b) 8 0 s (by omega) cl.off cl.fuse ha cl.c0 (by omega) (fun w hw => by rw [cl.buf w hw, if_neg (by omega)])
  unfold lnput
  rw [if_pos hb, if_pos (by unfold lthere; rw [if_pos (by omega)]), Int.toNat_natCast]
  exact ⟨s', g1, ⟨g3, g4, by show ∀ w, w < 8 * s'.nl → s'.buf w = none; rw [g2]; exact g7, Int.le_refl _, by show (0 : Int) < _; omega⟩, g2, g5, by omega, g8⟩

theorem lnputw_clean {s : PmS} {a k : Nat} {v : Int} (cl : Cl s) (ha : a < s.nl) (hk : k < 8) : ∃ s', lnputw s (a : Int) (k : Int) v = (0, s') ∧ Cl { s' with count := 0 } ∧ s'.nl = s.nl ∧ s'.bad = s.bad ∧ s'.count = s.count + 3 ∧
      ∀ w, w < 8 * s.nl → s'.media w = if w = 8 * a + k ∧ s.bad a = false then v else s.media w := by
  have c0 := cl.c0
  have c1 := cl.c1
  unfold lnputw
  have e : (8 * (a : Int) + (k : Int)) = ((8 * a + k : Nat) : Int) := by omega
  rw [if_pos (by omega), if_pos (by unfold lthere; rw [if_pos (by omega)]), e, pstore_nf cl.off cl.fuse (by omega), if_pos rfl]
  have cc : (ptick s).count = s.count + 1 := ptick_count c0 (by omega)
  obtain ⟨s', g1, g2, g3, g4, g5, g6, g7, g8⟩ := llast_clean (s := { ptick s with buf := fset s.buf (8 * a + k) (some (v, false)) }) (a := a) (p := fun i => decide (i = k)) (f := fun _ => v) cl.off (ptick_fuse cl.fuse) ha (by show 0 ≤ (ptick s).count; omega) (by show (ptick s).count < _; omega) (fun w hw => by
    have hw : w < 8 * s.nl := hw
    show fset s.buf (8 * a + k) (some (v, false)) w = _
    unfold fset
    by_cases e : w = 8 * a + k
    · rw [if_pos e, if_pos ⟨by omega, decide_eq_true (by omega)⟩]
    · rw [if_neg e, cl.buf w hw, if_neg]
      rintro ⟨h1, h2⟩
      have := of_decide_eq_true h2
      omega)
  refine ⟨s', g1, ⟨g3, g4, by show ∀ w, w < 8 * s'.nl → s'.buf w = none; rw [g2]; exact g7, Int.le_refl _, by show (0 : Int) < _; omega⟩, g2, g5, ?_, fun w hw => ?_⟩
  · rw [g6]; show (ptick s).count + 2 = _; omega
  · rw [g8 w hw]
    by_cases e : w = 8 * a + k ∧ s.bad a = false
    · rw [if_pos e, if_pos ⟨by omega, decide_eq_true (by omega), e.2⟩]
    · rw [if_neg e, if_neg]
      · rfl
      · rintro ⟨h1, h2, h3⟩
        have := of_decide_eq_true h2
        exact e ⟨by omega, h3⟩
end Go.Gb
namespace Go.Gb
open Go.Proofs IntWalk

/-! ## gabionlaw04: wakes, LineNone, LineCosts -/

section
variable {h : Heap} {Q : Value → Heap → Prop} {a : Int}

theorem pm_Device_Off.nil (hq : Q (.bool false) h) : C Try.prog 28 #[.pointer none] h Q := by
  apply pm_Device_Off.ok
  exact xsIf_f rfl hq

theorem line_there.nil (hq : Q (.int .i64 1) h) : C Try.prog 61 #[.pointer none, .int .i64 a] h Q := by
  apply line_there.ok
  exact xsIf_t rfl hq
theorem line_Get.nil (hq : Q (.tuple #[.string ⟨#[]⟩, .int .i64 1]) h) : C Try.prog 30 #[.pointer none, .int .i64 a] h Q := by
  apply line_Get.ok
  exact line_there.nil ⟨_, rfl, xsIf_t (by decide) (pm_Device_Off.nil ⟨_, rfl, xsIf_t rfl hq⟩)⟩
theorem line_Put.nil {b : ByteArray} (hq : Q (.int .i64 1) h) : C Try.prog 32 #[.pointer none, .int .i64 a, .string b] h Q := by
  apply line_Put.ok
  exact le_Words.c2 fun f _ => ⟨_, _, _, _, _, _, _, _, _, rfl, line_there.nil ⟨_, rfl, xsIf_t (by decide) hq⟩⟩
theorem line_PutWord.nil {k v : Int} (hq : Q (.int .i64 1) h) : C Try.prog 33 #[.pointer none, .int .i64 a, .int .i64 k, .int .u64 v] h Q := by
  apply line_PutWord.ok
  exact line_there.nil ⟨_, rfl, xsIf_t (by decide) hq⟩
theorem line_Took.nil {b : ByteArray} (hq : Q (.bool false) h) : C Try.prog 34 #[.pointer none, .int .i64 a, .string b] h Q := by
  apply line_Took.ok
  refine le_Words.c2 fun f _ => ⟨_, _, _, _, _, _, _, _, _, rfl, xsIf_intro (fun _ => hq) fun _ => line_there.nil ⟨_, rfl, xsIf_t (by decide) hq⟩⟩
end

theorem Cl.of {s : PmS} (c : Cl { s with count := 0 }) (h0 : 0 ≤ s.count) (h1 : s.count < 1000000000) : Cl s := ⟨c.off, c.fuse, c.buf, h0, h1⟩
theorem Cl.new (n : Nat) : Cl (pnew n) := ⟨rfl, rfl, fun _ _ => rfl, Int.le_refl _, by show (0 : Int) < _; omega⟩

theorem bytes_word_eq {b c : ByteArray} (hb : b.size = 64) (hc : c.size = 64) (h : ∀ k, k < 8 → wordAt b k = wordAt c k) : b = c := by
  rw [← lnbytes_words b hb, ← lnbytes_words c hc]
  unfold lnbytes
  rw [textN_congr 8 h]

theorem lnget_clean {s : PmS} {a : Nat} {b : ByteArray} (cl : Cl s) (ok : PmOk s) (ha : a < s.nl) (hb : b.size = 64) (hm : ∀ k, k < 8 → s.media (8 * a + k) = ((wordAt b k : Nat) : Int)) : lnget s (a : Int) = (b, 0) := by
  unfold lnget
  rw [cl.off, if_neg (by simp), if_pos (by unfold lthere; rw [if_pos (by omega)]), Int.toNat_natCast]
  congr 1
  refine Eq.trans ?_ (lnbytes_words b hb)
  unfold lnbytes
  rw [textN_congr 8]
  intro k hk
  show (pval s (8 * a + k)).toNat = _
  unfold pval
  rw [cl.buf _ (by omega)]
  show (s.media (8 * a + k)).toNat = _
  rw [hm k hk]; omega

set_option maxRecDepth 100000 in
theorem abc_word : wordAt (fullB ⟨#[UInt8.ofNat 97, UInt8.ofNat 98, UInt8.ofNat 99]⟩) 0 ≠ 0 := by
  have : wordAt (fullB ⟨#[UInt8.ofNat 97, UInt8.ofNat 98, UInt8.ofNat 99]⟩) 0 = 6513249 := by kernel_rfl
  rw [this]; decide

theorem gabionlaw04_wakes.c {h : Heap} {Q : Value → Heap → Prop} (hq : ∀ h', Part h h' → Q (.bool true) h') : C Try.prog 31 #[] h Q := by
  apply gabionlaw04_wakes.ok
  refine pm_New.c (n := 2) (by omega) (by omega) fun d F h1 w1 fr lv1 p1 => ⟨_, _, rfl, gabionlaw04_full.c (by show 3 ≤ _; omega) ⟨_, rfl, xsIf_f (by decide) (xsIf_f rfl ?_)⟩⟩
  have fs := fullB_size ⟨#[UInt8.ofNat 97, UInt8.ofNat 98, UInt8.ofNat 99]⟩
  have w0 := abc_word
  generalize fullB ⟨#[UInt8.ofNat 97, UInt8.ofNat 98, UInt8.ofNat 99]⟩ = b at fs w0
  obtain ⟨s1, e1, c1, n1, b1, k1, m1⟩ := lnput_clean (s := pnew 2) (a := 1) (Cl.new 2) (by show 1 < 2; omega) fs
  have cl1 : Cl s1 := c1.of (by rw [k1]; show (0 : Int) ≤ 0 + 10; omega) (by rw [k1]; show (0 : Int) + 10 < _; omega)
  have ok1 : PmOk s1 := by have := (PmOk.new 2).put (1 : Nat) b; rw [e1] at this; exact this
  refine line_Put.c w1 lv1 fun h2 w2 st2 => ⟨_, rfl, ?_⟩
  rw [show lnput (pnew 2) 1 b = (0, s1) from e1] at w2 ⊢
  have tk : lntook s1 1 b := ⟨fs, by unfold lthere; rw [n1]; rfl, fun k hk => by
    rw [m1 _ (by show 8 * 1 + k < 8 * 2; omega), if_pos ⟨by show (8 * 1 + k) / 8 = 1; omega, rfl⟩, show (8 * (1 : Int).toNat + k) % 8 = k by show (8 * 1 + k) % 8 = k; omega]⟩
  refine xsIf_f rfl (line_Took.c w2 (fun _ => ⟨_, rfl, xsIf_f rfl ?_⟩) fun h => absurd tk h)
  apply gabionlaw04_wakes.J5.ok
  refine pm_Device_Break.c w2 fun h3 w3 st3 => ?_
  have n1' : s1.nl = 2 := n1
  rw [if_pos (show (0 : Int) ≤ 0 ∧ (0 : Int) < (s1.nl : Int) by omega)] at w3
  have lv3 := st3.dom (st2.dom lv1)
  obtain ⟨s2, hs2⟩ : ∃ s2 : PmS, s2 = { s1 with bad := fset s1.bad (Int.toNat 0) true } := ⟨_, rfl⟩
  rw [← hs2] at w3
  have cl2 : Cl s2 := by rw [hs2]; exact ⟨cl1.off, cl1.fuse, cl1.buf, cl1.c0, cl1.c1⟩
  have ok2 : PmOk s2 := by rw [hs2]; exact ⟨ok1.media, ok1.buf⟩
  have n2 : s2.nl = 2 := by rw [hs2]; exact n1'
  have b2 : s2.bad 0 = true := by rw [hs2]; rfl
  have m2 : s2.media = s1.media := by rw [hs2]
  have g2 : lnget s2 ((1 : Nat) : Int) = (b, 0) := lnget_clean cl2 ok2 (by omega) fs fun k hk => by rw [m2]; exact tk.2.2 k hk
  refine line_Get.c w3 ok2 ⟨_, _, rfl, ?_⟩
  rw [show lnget s2 1 = (b, 0) from g2]
  have kk : s2.count = 10 := by rw [hs2]; exact k1
  obtain ⟨s3, e3, c3, n3, b3, k3, m3⟩ := lnput_clean (s := s2) (a := 0) cl2 (by omega) fs
  refine line_Put.c w3 lv3 fun h4 w4 st4 => ⟨_, rfl, ?_⟩
  rw [show lnput s2 0 b = (0, s3) from e3] at w4 ⊢
  have nt : ¬ lntook s3 0 b := fun t => by
    have h5 := t.2.2 0 (by omega)
    rw [show 8 * (0 : Int).toNat + 0 = 0 from rfl, m3 0 (by omega), if_neg (fun h => by rw [b2] at h; cases h.2), m2, m1 0 (by show 0 < 8 * 2; omega), if_neg (fun h => by omega)] at h5
    have h5 : (0 : Int) = ((wordAt b 0 : Nat) : Int) := h5
    omega
  refine xsIf_t rfl (line_Took.c w4 (fun t => absurd t nt) fun _ => ⟨_, rfl, xsIf_t rfl (xsIf_t rfl ?_)⟩)
  rw [decide_eq_true (show b = b from rfl)]
  refine hq h4 fun k o hk => ?_
  have hn0 : h k ≠ none := by rw [hk]; simp
  have hF : ¬ F k := fun hf => hn0 (fr k hf)
  have h1k := p1 k o hk
  have t := (st2.trans st3).trans st4
  rw [t.keep k hF (by rw [h1k]; simp)]; exact h1k

theorem gabionlaw04_LineNone.law (at0 : Int) (ha : IntKind.i64.min ≤ at0 ∧ at0 ≤ IntKind.i64.max) (k : Int) (hk : IntKind.i64.min ≤ k ∧ k ≤ IntKind.i64.max) (s : ByteArray) (hs : s.size ≤ 140737488351232) (h : Heap) :
    C Try.prog 7 #[.int .i64 at0, .int .i64 k, .string s] h fun v h' => v = .bool true ∧ Part h h' := by
  apply gabionlaw04_LineNone.ok
  refine pm_New.c (n := 2) (by omega) (by omega) fun d F h1 w1 fr lv1 p1 => ⟨_, _, rfl, line_Get.nil ⟨_, _, rfl, gabionlaw04_wakes.c fun h2 p2 => ⟨_, rfl, xsIf_f rfl (xsIf_f (by decide) (xsIf_f (by decide) (line_Put.nil ⟨_, rfl, xsIf_f (by decide)
    (line_PutWord.nil ⟨_, rfl, xsIf_f (by decide) (gabionlaw04_full.c (by show 0 ≤ _; omega) ⟨_, rfl, line_Took.nil ⟨_, rfl, xsIf_f rfl ?_⟩⟩)⟩)⟩)))⟩⟩⟩
  have w2 : PmD F h2 d (pnew 2) := w1.keep fun k _ hk => part_live p2 hk
  have lv2 := (Step.of_part (F := F) p2).dom lv1
  have P2 : Part h h2 := p1.trans p2
  apply gabionlaw04_LineNone.J5.ok
  have main : ¬ (0 ≤ at0 ∧ at0 < 2) → gabionlaw04_LineNone.J7 at0 k s (some ⟨d, 0, none⟩) h2 fun v h' => v = .bool true ∧ Part h h' := by
    intro hno
    apply gabionlaw04_LineNone.J7.ok
    have lt : lthere (pnew 2) at0 = 3 := by unfold lthere; exact if_neg hno
    have eg : lnget (pnew 2) at0 = (⟨#[]⟩, 3) := by unfold lnget; rw [lt]; rfl
    have nt : ∀ b, ¬ lntook (pnew 2) at0 b := fun b t => by have := t.2.1; rw [lt] at this; cases this
    refine line_Get.c w2 (PmOk.new 2) ⟨_, _, rfl, ?_⟩
    rw [eg]
    have ew : lnputw (pnew 2) at0 k 1 = ((if 0 ≤ k ∧ k < 8 then 3 else 2), pnew 2) := by
      unfold lnputw; rw [lt]; split <;> rfl
    have ep : ∀ b : ByteArray, b.size = 64 → lnput (pnew 2) at0 b = (3, pnew 2) := fun b hb => by unfold lnput; rw [if_pos hb, lt]; rfl
    refine line_PutWord.c w2 lv2 fun h3 w3 st3 => ⟨_, rfl, xsIf_t rfl (gabionlaw04_full.c hs ⟨_, rfl, ?_⟩)⟩
    rw [ew] at w3 ⊢
    have P3 : Part h h3 := st3.part P2 fun k hk hf => hk (fr k hf)
    refine line_Put.c w3 (st3.dom lv2) fun h4 w4 st4 => ⟨_, rfl, ?_⟩
    rw [ep _ (fullB_size s)] at w4 ⊢
    have P4 : Part h h4 := st4.part P3 fun k hk hf => hk (fr k hf)
    have fin : C Try.prog 35 #[.string ⟨#[]⟩] h4 fun (r : Value) (h' : Heap) => ∃ (x : ByteArray), r = .string x ∧ C Try.prog 34 #[.pointer (some ⟨d, 0, none⟩), .int .i64 at0, .string x] h' fun (r : Value) (h' : Heap) => ∃ (x : Bool), r = .bool x ∧ (Value.bool !x) = .bool true ∧ Part h h' :=
      gabionlaw04_full.c (by show 0 ≤ _; omega) ⟨_, rfl, line_Took.c w4 (fun t => absurd t (nt _)) fun _ => ⟨_, rfl, rfl, P4⟩⟩
    refine xsIf_t rfl ?_
    by_cases k0 : 0 ≤ k
    · by_cases k8 : k < 8
      · rw [if_pos ⟨k0, k8⟩]
        refine xsIf_f (decide_eq_false (by omega)) (xsIf_t ?_ (xsIf_t (decide_eq_true k0) (xsIf_t ?_ fin)))
        · rw [decide_eq_false (show ¬ 7 < k by omega)]; rfl
        · rw [decide_eq_true (show k ≤ 7 by omega)]; rfl
      · rw [if_neg (fun h => k8 h.2)]
        refine xsIf_f (decide_eq_false (by omega)) (xsIf_t ?_ (xsIf_t (decide_eq_true k0) (xsIf_t ?_ fin)))
        · rw [decide_eq_true (show 7 < k by omega)]; rfl
        · rw [decide_eq_false (show ¬ k ≤ 7 by omega)]; rfl
    · rw [if_neg (fun h => k0 h.1)]
      exact xsIf_t (decide_eq_true (by omega)) (xsIf_t rfl (xsIf_f (decide_eq_false k0) (xsIf_t rfl fin)))
  by_cases a0 : 0 ≤ at0
  · by_cases a2 : at0 < 2
    · exact xsIf_t (decide_eq_true a0) (xsIf_t (decide_eq_true a2) ⟨rfl, P2⟩)
    · exact xsIf_t (decide_eq_true a0) (xsIf_f (decide_eq_false a2) (main fun h => a2 h.2))
  · exact xsIf_f (decide_eq_false a0) (main fun h => a0 h.1)

/-- What a put costs. -/
theorem lnput_cost {s : PmS} {b : ByteArray} (cl : Cl s) (x : Int) (hb : b.size = 64) (hc : s.count < 10000) : ∃ f s', lnput s x b = (f, s') ∧ Cl s' ∧ s'.nl = s.nl ∧ ((f = 0 ∧ s'.count = s.count + 10) ∨ (f = 3 ∧ s'.count = s.count)) := by
  have c0 := cl.c0
  by_cases ht : lthere s x = 0
  · obtain ⟨n, rfl, hn⟩ := lthere_ok ht
    obtain ⟨s', e, c, n', _, k, _⟩ := lnput_clean cl hn hb
    exact ⟨0, s', e, c.of (by omega) (by omega), n', .inl ⟨rfl, k⟩⟩
  · refine ⟨3, s, ?_, cl, rfl, .inr ⟨rfl, rfl⟩⟩
    unfold lnput; rw [if_pos hb, if_neg ht]
theorem lnputw_cost {s : PmS} (cl : Cl s) (x k v : Int) (hc : s.count < 10000) : ∃ f s', lnputw s x k v = (f, s') ∧ Cl s' ∧ s'.nl = s.nl ∧ ((f = 0 ∧ s'.count = s.count + 3) ∨ ((f = 2 ∨ f = 3) ∧ s'.count = s.count)) := by
  have c0 := cl.c0
  by_cases hk : 0 ≤ k ∧ k < 8
  · by_cases ht : lthere s x = 0
    · obtain ⟨n, rfl, hn⟩ := lthere_ok ht
      obtain ⟨k, rfl⟩ : ∃ j : Nat, k = j := ⟨k.toNat, by omega⟩
      obtain ⟨s', e, c, n', _, k, _⟩ := lnputw_clean (v := v) cl hn (show k < 8 by omega)
      exact ⟨0, s', e, c.of (by omega) (by omega), n', .inl ⟨rfl, k⟩⟩
    · refine ⟨3, s, ?_, cl, rfl, .inr ⟨.inr rfl, rfl⟩⟩
      unfold lnputw; rw [if_pos hk, if_neg ht]
  · refine ⟨2, s, ?_, cl, rfl, .inr ⟨.inl rfl, rfl⟩⟩
    unfold lnputw; rw [if_neg hk]

theorem gabionlaw04_LineCosts.law (at0 : Int) (ha : IntKind.i64.min ≤ at0 ∧ at0 ≤ IntKind.i64.max) (k : Int) (hk : IntKind.i64.min ≤ k ∧ k ≤ IntKind.i64.max) (s : ByteArray) (hs : s.size ≤ 140737488351232) (h : Heap) :
    C Try.prog 9 #[.int .i64 at0, .int .i64 k, .string s] h fun v h' => v = .bool true ∧ Part h h' := by
  apply gabionlaw04_LineCosts.ok
  refine pm_New.c (n := 2) (by omega) (by omega) fun d F h1 w1 fr lv1 p1 => ⟨_, _, rfl, gabionlaw04_wakes.c fun h2 p2 => ⟨_, rfl, xsIf_f rfl (xsIf_f (by decide) (xsIf_f rfl ?_))⟩⟩
  have w2 : PmD F h2 d (pnew 2) := w1.keep fun k _ hk => part_live p2 hk
  have lv2 := (Step.of_part (F := F) p2).dom lv1
  have P2 : Part h h2 := p1.trans p2
  apply gabionlaw04_LineCosts.J4.ok
  intro b hb
  have fb : ¬ F b := fun hf => lv2 b hf hb
  have hfr : ∀ k, h k ≠ none → ¬ F k := fun k hk hf => hk (fr k hf)
  have hcell : ∀ i, i < 2 → ∃ x, (upd h2 b (Obj.cells #[.int .i64 at0, .int .i64 (irem (imax 0 at0) 2)] 3 (0, 0))).cell b (0 + i * 1) = some (.int .i64 x) := fun i hi => by
    rcases (show i = 0 ∨ i = 1 by omega) with rfl | rfl
    · exact ⟨at0, by simp [Heap.cell, upd_same]⟩
    · exact ⟨irem (imax 0 at0) 2, by simp [Heap.cell, upd_same]⟩
  have w3 : PmD F (upd h2 b (Obj.cells #[.int .i64 at0, .int .i64 (irem (imax 0 at0) 2)] 3 (0, 0))) d (pnew 2) := w2.keep fun k hk _ => upd_ne fun e => fb (e ▸ hk)
  have lv3 : Live F (upd h2 b (Obj.cells #[.int .i64 at0, .int .i64 (irem (imax 0 at0) 2)] 3 (0, 0))) := (Step.lost hb _).dom lv2
  have P3 : Part h (upd h2 b (Obj.cells #[.int .i64 at0, .int .i64 (irem (imax 0 at0) 2)] 3 (0, 0))) := fun k o hk => by
    rw [upd_ne (fun e => by have := P2 k o hk; rw [e, hb] at this; cases this)]; exact P2 k o hk
  have nb3 : (upd h2 b (Obj.cells #[.int .i64 at0, .int .i64 (irem (imax 0 at0) 2)] 3 (0, 0))) b ≠ none := by rw [upd_same]; simp
  generalize upd h2 b (Obj.cells #[.int .i64 at0, .int .i64 (irem (imax 0 at0) 2)] 3 (0, 0)) = h3 at hcell w3 lv3 P3 nb3
  have loop : ∀ (j i : Nat) (h' : Heap) (s' : PmS), i + j = 2 → PmD F h' d s' → Live F h' → Part h h' → h' b = h3 b → Cl s' → PmOk s' → s'.count ≤ 13 * i →
      gabionlaw04_LineCosts.L5 k s (some ⟨d, 0, none⟩) (some ⟨b, 0, none⟩) 2 2 2 (i : Int) h' fun v h' => v = .bool true ∧ Part h h' := by
    intro j
    induction j with
    | zero =>
      intro i h' s' hi w lv p eb cl ok hc
      apply gabionlaw04_LineCosts.L5.ok
      exact xsIf_f (decide_eq_false (by omega)) ⟨rfl, p⟩
    | succ j ih =>
      intro i h' s' hi w lv p eb cl ok hc
      apply gabionlaw04_LineCosts.L5.ok
      obtain ⟨x, hx⟩ := hcell i (by omega)
      have hx' : h'.cell b (0 + (i : Int).toNat * 1) = some (.int .i64 x) := by rw [cell_same eb, Int.toNat_natCast]; exact hx
      have c0 := cl.c0
      obtain ⟨f, s1, e1, cl1, n1, k1⟩ := lnput_cost cl x (fullB_size s) (by omega)
      have ok1 : PmOk s1 := by have := ok.put x (fullB s); rw [e1] at this; exact this
      obtain ⟨g, s2, e2, cl2, n2, k2⟩ := lnputw_cost cl1 x k 5 (by omega)
      have ok2 : PmOk s2 := by have := ok1.putw x k (v := 5) ⟨by omega, by omega⟩; rw [e2] at this; exact this
      refine xsIf_t (decide_eq_true (by omega)) ⟨by show 0 ≤ (i : Int) ∧ (i : Int) < 2; omega, b, 0, rfl, x, hx', pm_Device_Count.c w ⟨_, rfl, gabionlaw04_full.c hs ⟨_, rfl, line_Put.c w lv fun h4 w4 st4 => ⟨_, rfl, ?_⟩⟩⟩⟩
      rw [e1] at w4 ⊢
      refine pm_Device_Count.c w4 ⟨_, rfl, line_PutWord.c w4 (st4.dom lv) fun h5 w5 st5 => ⟨_, rfl, ?_⟩⟩
      dsimp only at w4 w5 ⊢
      rw [e2] at w5 ⊢
      have st := st4.trans st5
      refine pm_Device_Count.c w5 ⟨_, rfl, line_Get.c w5 ok2 ⟨_, _, rfl, ?_⟩⟩
      dsimp only
      have e3 : IntKind.i64.wrap (s'.count + 10) = s'.count + 10 := i64_in _ (by omega)
      have e4 : IntKind.i64.wrap (s1.count + 3) = s1.count + 3 := i64_in _ (by omega)
      rw [e3, e4]
      have nx : gabionlaw04_LineCosts.L5 k s (some ⟨d, 0, none⟩) (some ⟨b, 0, none⟩) 2 2 2 (IntKind.i64.wrap ((i : Int) + 1)) h5 fun v h' => v = .bool true ∧ Part h h' := by
        rw [show IntKind.i64.wrap ((i : Int) + 1) = ((i + 1 : Nat) : Int) by rw [i64_in _ (by omega)]; omega]
        exact ih (i + 1) h5 s2 (by omega) w5 (st.dom lv) (st.part p hfr) (by rw [st.keep b fb (by rw [eb]; exact nb3), eb]) cl2 ok2 (by omega)
      have fin : C Try.prog 27 #[.pointer (some ⟨d, 0, none⟩)] h5 fun (r : Value) (h' : Heap) => ∃ (x : Int), r = .int .i64 x ∧ xsIf (decide (x ≠ s2.count)) ((Value.bool false) = .bool true ∧ Part h h') (gabionlaw04_LineCosts.L5 k s (some ⟨d, 0, none⟩) (some ⟨b, 0, none⟩) 2 2 2 (IntKind.i64.wrap ((i : Int) + 1)) h' fun v h' => v = .bool true ∧ Part h h') :=
        pm_Device_Count.c w5 ⟨_, rfl, xsIf_f (decide_eq_false (fun h => h rfl)) nx⟩
      repeat' (first | exact fin | refine xsIf_intro (fun hh => ?_) (fun hh => ?_))
      all_goals
        exfalso
        simp only [decide_eq_true_eq, decide_eq_false_iff_not, ne_eq, Decidable.not_not] at *
        omega
  exact loop 2 0 h3 _ (by omega) w3 lv3 P3 rfl (Cl.new 2) (PmOk.new 2) (by show (0 : Int) ≤ _; omega)
end Go.Gb
namespace Go.Gb
open Go.Proofs IntWalk

/-! ## LineTorn: the pure part -/

/-- A device of one line; each word is the old one or the new one; what is stored is new. -/
structure Tn (s : PmS) (A B : Nat → Int) : Prop where
  nl : s.nl = 1
  bad : s.bad = fun _ => false
  f0 : 0 ≤ s.fuse
  med : ∀ w, w < 8 → s.media w = A w ∨ s.media w = B w
  buf : ∀ w, w < 8 → ∀ x, s.buf w = some x → x.1 = B w

theorem Tn.begin {s : PmS} {A B : Nat → Int} (t : Tn s A B) (ho : s.off = false) {a o : Int} (h0 : 0 ≤ a) (h1 : a < o) :
    Tn (pbegin s a o).2 A B ∧ (((pbegin s a o).1 = 0 ∧ (pbegin s a o).2.off = false) ∨ ((pbegin s a o).1 = 6 ∧ (pbegin s a o).2.off = true)) := by
  have f0 := t.f0
  by_cases hf : s.fuse = 1
  · rw [pbegin_fails ho hf h0 h1]
    exact ⟨⟨t.nl, t.bad, Int.le_refl _, t.med, t.buf⟩, .inr ⟨rfl, rfl⟩⟩
  · rw [pbegin_run ho hf h0 h1]
    refine ⟨⟨t.nl, t.bad, ?_, t.med, t.buf⟩, .inl ⟨rfl, ho⟩⟩
    show 0 ≤ if 0 < s.fuse then s.fuse - 1 else s.fuse
    split <;> omega

theorem Tn.store {s : PmS} {A B : Nat → Int} (t : Tn s A B) (ho : s.off = false) {k : Nat} (hk : k < 8) :
    Tn (pstore s (k : Int) (B k)).2 A B ∧ (((pstore s (k : Int) (B k)).1 = 0 ∧ (pstore s (k : Int) (B k)).2.off = false ∧ (pstore s (k : Int) (B k)).2.buf = fset s.buf k (some (B k, false)) ∧ (pstore s (k : Int) (B k)).2.media = s.media) ∨
      ((pstore s (k : Int) (B k)).1 = 6 ∧ (pstore s (k : Int) (B k)).2.off = true)) := by
  have nl := t.nl
  obtain ⟨t2, r⟩ := t.begin (a := (k : Int)) (o := ((8 * s.nl : Nat) : Int)) ho (by omega) (by omega)
  unfold pstore
  by_cases e : (pbegin s (k : Int) ((8 * s.nl : Nat) : Int)).1 = 0
  · rw [if_pos e, Int.toNat_natCast]
    refine ⟨⟨t2.nl, t2.bad, t2.f0, t2.med, fun w hw x hx => ?_⟩, .inl ⟨rfl, ?_, rfl, pbegin_media _ _ _⟩⟩
    · have hx : fset s.buf k (some (B k, false)) w = some x := hx
      unfold fset at hx
      split at hx
      · rename_i e2; cases hx; rw [e2]
      · exact t.buf w hw x hx
    · rcases r with r | r
      · exact r.2
      · rw [e] at r; cases r.1
  · rw [if_neg e]
    refine ⟨t2, .inr ?_⟩
    rcases r with r | r
    · exact absurd r.1 e
    · exact r

theorem Tn.flush {s : PmS} {A B : Nat → Int} (t : Tn s A B) (ho : s.off = false) :
    Tn (pflush s 0).2 A B ∧ (((pflush s 0).1 = 0 ∧ (pflush s 0).2.off = false ∧ (pflush s 0).2.buf = fbuf s.buf 0 8 ∧ (pflush s 0).2.media = s.media) ∨ ((pflush s 0).1 = 6 ∧ (pflush s 0).2.off = true)) := by
  have nl := t.nl
  obtain ⟨t2, r⟩ := t.begin (a := 0) (o := (s.nl : Int)) ho (by omega) (by omega)
  unfold pflush
  by_cases e : (pbegin s 0 (s.nl : Int)).1 = 0
  · rw [if_pos e]
    refine ⟨⟨t2.nl, t2.bad, t2.f0, t2.med, fun w hw x hx => ?_⟩, .inl ⟨rfl, ?_, rfl, pbegin_media _ _ _⟩⟩
    · have hx : fbuf s.buf 0 8 w = some x := hx
      unfold fbuf at hx
      split at hx
      · cases e2 : s.buf w with
        | none => rw [e2] at hx; cases hx
        | some y => rw [e2] at hx; cases hx; exact t.buf w hw y e2
      · exact t.buf w hw x hx
    · rcases r with r | r
      · exact r.2
      · rw [e] at r; cases r.1
  · rw [if_neg e]
    refine ⟨t2, .inr ?_⟩
    rcases r with r | r
    · exact absurd r.1 e
    · exact r

theorem Tn.plast {s : PmS} {A B : Nat → Int} (t : Tn s A B) {ws : List Nat} (hws : ∀ w ∈ ws, s.buf w ≠ none) : Tn (plast s ws) A B := by
  refine ⟨t.nl, t.bad, t.f0, fun w hw => ?_, fun w hw x hx => ?_⟩
  · show lmedia s ws w = A w ∨ lmedia s ws w = B w
    unfold lmedia
    split
    · rename_i h
      cases e : s.buf w with
      | none => exact absurd e (hws w h.1)
      | some x => exact .inr (t.buf w hw x e)
    · exact t.med w hw
  · have hx : lbuf s ws w = some x := hx
    unfold lbuf at hx
    split at hx
    · cases hx
    · exact t.buf w hw x hx

theorem Tn.fence {s : PmS} {A B : Nat → Int} (t : Tn s A B) (ho : s.off = false) :
    Tn (pfence s).2 A B ∧ (((pfence s).1 = 0 ∧ (pfence s).2.off = false ∧ ((∀ w, w < 8 → s.buf w = some (B w, true) ∨ (s.buf w = none ∧ s.media w = B w)) → ∀ w, w < 8 → (pfence s).2.media w = B w)) ∨ ((pfence s).1 = 6 ∧ (pfence s).2.off = true)) := by
  have nl := t.nl
  obtain ⟨t2, r⟩ := t.begin (a := 0) (o := 1) ho (by omega) (by omega)
  have bf := pbegin_buf s 0 1
  have md := pbegin_media s 0 1
  unfold pfence
  by_cases e : (pbegin s 0 1).1 = 0
  · rw [if_pos e]
    generalize (pbegin s 0 1).2 = s2 at t2 r bf md
    have hfl : ∀ w ∈ flushed s2, s2.buf w ≠ none := fun w hw => by
      rw [flushed_mem] at hw
      obtain ⟨_, v, hv⟩ := hw
      rw [hv]; simp
    refine ⟨t2.plast hfl, .inl ⟨rfl, ?_, fun hc w hw => ?_⟩⟩
    · show s2.off = false
      rcases r with r | r
      · exact r.2
      · rw [e] at r; cases r.1
    · show lmedia s2 (flushed s2) w = B w
      have nl2 := t2.nl
      unfold lmedia
      rcases hc w hw with h1 | ⟨h1, h2⟩
      · rw [if_pos ⟨flushed_mem.2 ⟨by omega, B w, by rw [bf]; exact h1⟩, by rw [t2.bad]⟩, bf, h1]
      · rw [if_neg, md]
        · exact h2
        · rintro ⟨h3, _⟩
          rw [flushed_mem] at h3
          obtain ⟨_, v, hv⟩ := h3
          rw [bf, h1] at hv; cases hv
  · rw [if_neg e]
    refine ⟨t2, .inr ?_⟩
    rcases r with r | r
    · exact absurd r.1 e
    · exact r

/-- The line is done: all words are new, or will be. -/
def Due (s : PmS) (B : Nat → Int) : Prop := ∀ w, w < 8 → (∃ f, s.buf w = some (B w, f)) ∨ (s.buf w = none ∧ s.media w = B w)

theorem Tn.lastT {s : PmS} {A B : Nat → Int} (t : Tn s A B) (ho : s.off = false) (hd : Due s B) :
    Tn (llast s 0).2 A B ∧ (((llast s 0).1 = 0 ∧ (llast s 0).2.off = false ∧ ∀ w, w < 8 → (llast s 0).2.media w = B w) ∨ ((llast s 0).1 = 6 ∧ (llast s 0).2.off = true)) := by
  obtain ⟨t2, r⟩ := t.flush ho
  unfold llast
  by_cases e : (pflush s 0).1 = 0
  · rw [if_pos e]
    rcases r with ⟨-, r1, r2, r3⟩ | r
    · obtain ⟨t3, r'⟩ := t2.fence r1
      refine ⟨t3, r'.imp (fun ⟨h1, h2, h3⟩ => ⟨h1, h2, h3 fun w hw => ?_⟩) id⟩
      rw [r2, r3]
      unfold fbuf
      rw [if_pos (by omega)]
      rcases hd w hw with ⟨f, h4⟩ | ⟨h4, h5⟩
      · left; rw [h4]; rfl
      · right; rw [h4]; exact ⟨rfl, h5⟩
    · rw [e] at r; cases r.1
  · rw [if_neg e]
    rcases r with r | r
    · exact absurd r.1 e
    · exact ⟨t2, .inr r⟩

theorem Tn.storesT {A B : Nat → Int} {f : Nat → Nat} (hB : ∀ k, B k = ((f k : Nat) : Int)) : ∀ (j k : Nat) (s : PmS), k + j = 8 → Tn s A B → s.off = false → (∀ w, w < k → ∃ g, s.buf w = some (B w, g)) →
    Tn (lstores 0 f j k s).2 A B ∧ (((lstores 0 f j k s).1 = 0 ∧ (lstores 0 f j k s).2.off = false ∧ ∀ w, w < 8 → (lstores 0 f j k s).2.media w = B w) ∨ ((lstores 0 f j k s).1 = 6 ∧ (lstores 0 f j k s).2.off = true)) := by
  intro j
  induction j with
  | zero =>
    intro k s hk t ho hb
    exact t.lastT ho fun w hw => .inl (hb w (by omega))
  | succ j ih =>
    intro k s hk t ho hb
    have h := t.store ho (show k < 8 by omega)
    unfold lstores
    have e0 : ((8 * 0 + k : Nat) : Int) = (k : Int) := by omega
    rw [e0, ← hB k]
    obtain ⟨t2, r⟩ := h
    by_cases e : (pstore s (k : Int) (B k)).1 = 0
    · rw [if_pos e]
      rcases r with ⟨-, r1, r2, r3⟩ | r
      · refine ih (k + 1) _ (by omega) t2 r1 fun w hw => ?_
        rw [r2]
        unfold fset
        by_cases e2 : w = k
        · rw [if_pos e2, e2]; exact ⟨false, rfl⟩
        · rw [if_neg e2]; exact hb w (by omega)
      · rw [e] at r; cases r.1
    · rw [if_neg e]
      rcases r with r | r
      · exact absurd r.1 e
      · exact ⟨t2, .inr r⟩

theorem Tn.putT {s : PmS} {A B : Nat → Int} {b : ByteArray} (t : Tn s A B) (ho : s.off = false) (hb : b.size = 64) (hB : ∀ k, B k = ((wordAt b k : Nat) : Int)) :
    Tn (lnput s 0 b).2 A B ∧ (((lnput s 0 b).1 = 0 ∧ (lnput s 0 b).2.off = false ∧ ∀ w, w < 8 → (lnput s 0 b).2.media w = B w) ∨ ((lnput s 0 b).1 = 6 ∧ (lnput s 0 b).2.off = true)) := by
  have nl := t.nl
  have h := Tn.storesT hB 8 0 s (by omega) t ho (fun w hw => by omega)
  unfold lnput
  rw [if_pos hb, if_pos (by unfold lthere; exact if_pos (by omega))]
  exact h

theorem Tn.putwT {s : PmS} {A B : Nat → Int} (t : Tn s A B) (ho : s.off = false) (hn : ∀ w, w < 8 → s.buf w = none) (hm : ∀ w, w < 8 → w ≠ 0 → s.media w = B w) :
    Tn (lnputw s 0 0 (B 0)).2 A B ∧ (((lnputw s 0 0 (B 0)).1 = 0 ∧ (lnputw s 0 0 (B 0)).2.off = false ∧ ∀ w, w < 8 → (lnputw s 0 0 (B 0)).2.media w = B w) ∨ ((lnputw s 0 0 (B 0)).1 = 6 ∧ (lnputw s 0 0 (B 0)).2.off = true)) := by
  have nl := t.nl
  obtain ⟨t2, r⟩ := t.store ho (show 0 < 8 by omega)
  unfold lnputw
  rw [if_pos (by omega), if_pos (by unfold lthere; exact if_pos (by omega)), show (8 * (0 : Int) + 0) = ((0 : Nat) : Int) from rfl]
  by_cases e : (pstore s ((0 : Nat) : Int) (B 0)).1 = 0
  · rw [if_pos e]
    rcases r with ⟨-, r1, r2, r3⟩ | r
    · refine t2.lastT r1 fun w hw => ?_
      rw [r2, r3]
      unfold fset
      by_cases e2 : w = 0
      · rw [if_pos e2, e2]; exact .inl ⟨false, rfl⟩
      · rw [if_neg e2]; exact .inr ⟨hn w hw, hm w hw e2⟩
    · rw [e] at r; cases r.1
  · rw [if_neg e]
    rcases r with r | r
    · exact absurd r.1 e
    · exact ⟨t2, .inr r⟩

theorem Tn.bootT {s : PmS} {A B : Nat → Int} (t : Tn s A B) (ks : List Bool) : Tn (pboot s ks) A B := by
  have h : Tn (Gb.plast s (keptN (pend s) ks (pend s).length)) A B := t.plast fun w hw => by
    obtain ⟨i, h1, h2⟩ := keptN_mem _ _ (Nat.le_refl _) hw
    have : w ∈ pend s := by
      rw [h2, List.getD_eq_getElem?_getD, List.getElem?_eq_getElem h1]
      exact List.getElem_mem h1
    exact (pend_mem.1 this).2
  exact ⟨h.nl, h.bad, Int.le_refl _, h.med, fun _ _ _ h => by cases h⟩

theorem Tn.getT {s : PmS} {A B : Nat → Int} (t : Tn s A B) (ho : s.off = false) (hn : s.buf = fun _ => none) : lnget s 0 = (lnbytes fun k => (s.media k).toNat, 0) := by
  have nl := t.nl
  unfold lnget
  rw [ho, if_neg (by simp), if_pos (by unfold lthere; exact if_pos (by omega))]
  congr 1
  unfold lnbytes
  rw [textN_congr 8]
  intro k hk
  show (pval s (8 * 0 + k)).toNat = _
  unfold pval
  rw [hn, show 8 * 0 + k = k by omega]
end Go.Gb
namespace Go.Gb
open Go.Proofs IntWalk

/-! ## Mixed; LineMixes -/

def mixP (was is0 got : ByteArray) : Prop := was.size = 64 ∧ is0.size = 64 ∧ got.size = 64 ∧ ∀ k, k < 8 → wordAt got k = wordAt was k ∨ wordAt got k = wordAt is0 k

theorem sext_chunk (s : ByteArray) (k : Nat) : sext s ((8 * k : Nat) : Int) ((8 * k + 8 : Nat) : Int) = ⟨(chunk s.data.toList k).toArray⟩ := by
  unfold sext chunk
  apply ByteArray.ext
  rw [Int.toNat_natCast, Int.toNat_natCast, ByteArray.data_extract]
  apply Array.ext'
  rw [Array.toList_extract, List.extract_eq_take_drop, show 8 * k + 8 - 8 * k = 8 by omega]
theorem sext_word {s : ByteArray} {k : Nat} (hs : s.size = 64) (hk : k < 8) : sext s ((8 * k : Nat) : Int) ((8 * k + 8 : Nat) : Int) = ⟨(putL (wordAt s k) 8).toArray⟩ := by
  rw [sext_chunk, put_word s hs k hk]
theorem sext_eq {x y : ByteArray} {k : Nat} (hx : x.size = 64) (hy : y.size = 64) (hk : k < 8) : sext x ((8 * k : Nat) : Int) ((8 * k + 8 : Nat) : Int) = sext y ((8 * k : Nat) : Int) ((8 * k + 8 : Nat) : Int) ↔ wordAt x k = wordAt y k := by
  constructor
  · intro h
    rw [sext_chunk, sext_chunk] at h
    have h2 : (chunk x.data.toList k) = (chunk y.data.toList k) := by
      have := congrArg (fun b : ByteArray => b.data.toList) h
      simpa using this
    unfold wordAt; rw [h2]
  · intro h
    rw [sext_word hx hk, sext_word hy hk, h]

section
variable {h : Heap} {Q : Value → Heap → Prop} {was is0 got : ByteArray}

theorem line_Mixed.c (hy : mixP was is0 got → Q (.bool true) h) (hn : ¬ mixP was is0 got → Q (.bool false) h) : C Try.prog 36 #[.string was, .string is0, .string got] h Q := by
  apply line_Mixed.ok
  refine le_Words.c2 fun fa hfa => ⟨_, _, _, _, _, _, _, _, _, rfl, Nat.le_refl 8, le_Words.c2 fun fb hfb => ⟨_, _, _, _, _, _, _, _, _, rfl, Nat.le_refl 8, le_Words.c2 fun fc hfc => ⟨_, _, _, _, _, _, _, _, _, rfl, ?_⟩⟩⟩
  by_cases h1 : was.size = 64
  · by_cases h2 : is0.size = 64
    · by_cases h3 : got.size = 64
      · rw [if_pos h1, if_pos h2, if_pos h3]
        refine xsIf_f (by decide) (xsIf_f (by decide) (xsIf_f (by decide) ?_))
        have z : ∀ (f : Nat → Int), lput [Value.int .u64 0, .int .u64 0, .int .u64 0, .int .u64 0, .int .u64 0, .int .u64 0, .int .u64 0, .int .u64 0] 0 [Value.int .u64 (f 0), .int .u64 (f 1), .int .u64 (f 2), .int .u64 (f 3), .int .u64 (f 4), .int .u64 (f 5), .int .u64 (f 6), .int .u64 (f 7)] = [Value.int .u64 (f 0), .int .u64 (f 1), .int .u64 (f 2), .int .u64 (f 3), .int .u64 (f 4), .int .u64 (f 5), .int .u64 (f 6), .int .u64 (f 7)] := fun f => rfl
        rw [z fa, z fb, hfa h1, hfb h2, hfc h3]
        apply line_Mixed.J6.ok
        unfold line_Mixed.J6.wp
        have g2 : ∀ (f : Nat → Int) (k : Nat), k < 8 → lget [Value.int .u64 (f 0), .int .u64 (f 1), .int .u64 (f 2), .int .u64 (f 3), .int .u64 (f 4), .int .u64 (f 5), .int .u64 (f 6), .int .u64 (f 7)] (0 + (k : Int).toNat * 1) = some (.int .u64 (f k)) := fun f k hk => by
          rw [Nat.zero_add]; exact row8_get hk
        have loop : ∀ (j k : Nat), k + j = 8 → (∀ i, i < k → wordAt got i = wordAt was i ∨ wordAt got i = wordAt is0 i) →
            line_Mixed.L7 (wordAt got 0 : Nat) (wordAt got 1 : Nat) (wordAt got 2 : Nat) (wordAt got 3 : Nat) (wordAt got 4 : Nat) (wordAt got 5 : Nat) (wordAt got 6 : Nat) (wordAt got 7 : Nat) (k : Int)
              [.int .u64 (wordAt was 0 : Nat), .int .u64 (wordAt was 1 : Nat), .int .u64 (wordAt was 2 : Nat), .int .u64 (wordAt was 3 : Nat), .int .u64 (wordAt was 4 : Nat), .int .u64 (wordAt was 5 : Nat), .int .u64 (wordAt was 6 : Nat), .int .u64 (wordAt was 7 : Nat)]
              [.int .u64 (wordAt is0 0 : Nat), .int .u64 (wordAt is0 1 : Nat), .int .u64 (wordAt is0 2 : Nat), .int .u64 (wordAt is0 3 : Nat), .int .u64 (wordAt is0 4 : Nat), .int .u64 (wordAt is0 5 : Nat), .int .u64 (wordAt is0 6 : Nat), .int .u64 (wordAt is0 7 : Nat)] h Q := by
          intro j
          induction j with
          | zero =>
            intro k hk hm
            apply line_Mixed.L7.ok
            exact xsIf_f (decide_eq_false (by omega)) (hy ⟨h1, h2, h3, fun k hk => hm k (by omega)⟩)
          | succ j ih =>
            intro k hk hm
            apply line_Mixed.L7.ok
            unfold line_Mixed.L7.wp
            have e2 : IntKind.i64.wrap ((k : Int) + 1) = ((k + 1 : Nat) : Int) := by rw [i64_in _ (by omega)]; omega
            rw [e2]
            have hk8 : k < 8 := by omega
            have nx : (wordAt got k = wordAt was k ∨ wordAt got k = wordAt is0 k) → _ := fun hw => ih (k + 1) (by omega) fun i hi => by
              by_cases e : i = k
              · rw [e]; exact hw
              · exact hm i (by omega)
            refine xsIf_t (decide_eq_true (by omega)) ⟨by omega, _, row8_get (f := fun k => ((wordAt got k : Nat) : Int)) hk8, by omega, _, g2 (fun k => ((wordAt was k : Nat) : Int)) k hk8, xsIf_intro (fun e => ?_) fun e => nx (.inl ?_)⟩
            · refine ⟨by omega, _, g2 (fun k => ((wordAt is0 k : Nat) : Int)) k hk8, xsIf_intro (fun e2 => hn fun m => ?_) fun e2 => nx (.inr ?_)⟩
              · have e := of_decide_eq_true e
                have e2 := of_decide_eq_true e2
                rcases m.2.2.2 k hk8 with h | h
                · exact e (by rw [h])
                · exact e2 (by rw [h])
              · have e2 := of_decide_eq_false e2
                have : ((wordAt got k : Nat) : Int) = ((wordAt is0 k : Nat) : Int) := Decidable.not_not.1 e2
                omega
            · have e := of_decide_eq_false e
              have : ((wordAt got k : Nat) : Int) = ((wordAt was k : Nat) : Int) := Decidable.not_not.1 e
              omega
        exact loop 8 0 (by omega) (fun i hi => by omega)
      · rw [if_pos h1, if_pos h2, if_neg h3]
        exact xsIf_f (by decide) (xsIf_f (by decide) (xsIf_t (by decide) (hn fun m => h3 m.2.2.1)))
    · rw [if_pos h1, if_neg h2]
      exact xsIf_f (by decide) (xsIf_t (by decide) (hn fun m => h2 m.2.1))
  · rw [if_neg h1]
    exact xsIf_t (by decide) (hn fun m => h1 m.1)

theorem gabionref04_Mixed.c (hy : mixP was is0 got → Q (.bool true) h) (hn : ¬ mixP was is0 got → Q (.bool false) h) : C Try.prog 37 #[.string was, .string is0, .string got] h Q := by
  apply gabionref04_Mixed.ok
  refine xsIf_intro (fun e => hn fun m => of_decide_eq_true e (by rw [m.1]; rfl)) fun e1 => xsIf_intro (fun e => hn fun m => of_decide_eq_true e (by rw [m.2.1]; rfl)) fun e2 => xsIf_intro (fun e => hn fun m => of_decide_eq_true e (by rw [m.2.2.1]; rfl)) fun e3 => ?_
  have h1 : was.size = 64 := by have := of_decide_eq_false e1; omega
  have h2 : is0.size = 64 := by have := of_decide_eq_false e2; omega
  have h3 : got.size = 64 := by have := of_decide_eq_false e3; omega
  apply gabionref04_Mixed.J3.ok
  have loop : ∀ (j k : Nat), k + j = 8 → (∀ i, i < k → wordAt got i = wordAt was i ∨ wordAt got i = wordAt is0 i) → gabionref04_Mixed.L4 was is0 got ((8 * k : Nat) : Int) h Q := by
    intro j
    induction j with
    | zero =>
      intro k hk hm
      apply gabionref04_Mixed.L4.ok
      exact xsIf_f (decide_eq_false (by omega)) (hy ⟨h1, h2, h3, fun k hk => hm k (by omega)⟩)
    | succ j ih =>
      intro k hk hm
      apply gabionref04_Mixed.L4.ok
      unfold gabionref04_Mixed.L4.wp
      have e2 : IntKind.i64.wrap (((8 * k : Nat) : Int) + 8) = ((8 * k + 8 : Nat) : Int) := by rw [i64_in _ (by omega)]; omega
      rw [e2]
      have hk8 : k < 8 := by omega
      have nx : (wordAt got k = wordAt was k ∨ wordAt got k = wordAt is0 k) → gabionref04_Mixed.L4 was is0 got ((8 * k + 8 : Nat) : Int) h Q := fun hw => by
        have := ih (k + 1) (by omega) fun i hi => by
          by_cases e : i = k
          · rw [e]; exact hw
          · exact hm i (by omega)
        rw [show 8 * (k + 1) = 8 * k + 8 by omega] at this
        exact this
      refine xsIf_t (decide_eq_true (by omega)) ⟨by omega, by omega, by omega, by omega, xsIf_intro (fun e => ⟨by omega, by omega, by omega, by omega, xsIf_intro (fun e3 => hn fun m => ?_) fun e3 => nx (.inr ?_)⟩) fun e => nx (.inl ?_)⟩
      · have e := of_decide_eq_true e
        have e3 := of_decide_eq_true e3
        rcases m.2.2.2 k hk8 with hh | hh
        · exact e ((sext_eq h3 h1 hk8).2 hh)
        · exact e3 ((sext_eq h3 h2 hk8).2 hh)
      · exact (sext_eq h3 h2 hk8).1 (Decidable.not_not.1 (of_decide_eq_false e3))
      · exact (sext_eq h3 h1 hk8).1 (Decidable.not_not.1 (of_decide_eq_false e))
  exact loop 8 0 (by omega) (fun i hi => by omega)
end

theorem gabionlaw04_LineMixes.law (was : ByteArray) (hwas : was.size ≤ 140737488351232) (is0 : ByteArray) (his : is0.size ≤ 140737488351232) (pick : Int) (hp : IntKind.u8.min ≤ pick ∧ pick ≤ IntKind.u8.max) (h : Heap) :
    C Try.prog 8 #[.string was, .string is0, .int .u8 pick] h fun v h' => v = .bool true ∧ Part h h' := by
  apply gabionlaw04_LineMixes.ok
  refine gabionlaw04_full.c hwas ⟨_, rfl, gabionlaw04_full.c his ⟨_, rfl, ?_⟩⟩
  have za := fullB_size was
  have zb := fullB_size is0
  generalize fullB was = a at za
  generalize fullB is0 = b at zb
  have loop : ∀ (j k : Nat) (f : Nat → Nat), k + j = 8 → (∀ i, i < k → f i = wordAt a i ∨ f i = wordAt b i) →
      gabionlaw04_LineMixes.L4 was is0 pick a b ⟨(textN f k).toArray⟩ (k : Int) h fun v h' => v = .bool true ∧ Part h h' := by
    intro j
    induction j with
    | zero =>
      intro k f hk hf
      apply gabionlaw04_LineMixes.L4.ok
      have : k = 8 := by omega
      subst this
      have zg : (⟨(textN f 8).toArray⟩ : ByteArray).size = 64 := by rw [bytes_size, textN_len]
      refine xsIf_f (decide_eq_false (by omega)) ⟨by omega, ?_, gabionlaw04_full.c (by show 0 ≤ _; omega) ⟨_, rfl, fun bk hbk => ?_⟩⟩
      · have : (sext (⟨(textN f 8).toArray⟩ : ByteArray) 0 63).size ≤ 64 := by unfold sext; rw [ByteArray.size_extract]; omega
        omega
      have mg : mixP a b ⟨(textN f 8).toArray⟩ := ⟨za, zb, zg, fun k hk => by
        have hv : f k < 18446744073709551616 := by
          rcases hf k hk with h | h
          · rw [h]; exact wordAt_lt _ _
          · rw [h]; exact wordAt_lt _ _
        rw [show wordAt (⟨(textN f 8).toArray⟩ : ByteArray) k = f k from wordAt_text hk hv]
        exact hf k hk⟩
      generalize (⟨(textN f 8).toArray⟩ : ByteArray) = got at mg zg
      have hcell : ∀ i, i < 7 → ∃ x, (upd h bk (Obj.cells #[.string got, .string a, .string b, .string is0, .string was, .string (sext got 0 63 ++ ⟨#[UInt8.ofNat 1]⟩), .string (fullB ⟨#[]⟩)] 9 (0, 0))).cell bk (0 + i * 1) = some (.string x) := fun i hi => by
        rw [cell_new]
        match i, hi with
        | 0, _ => exact ⟨_, rfl⟩
        | 1, _ => exact ⟨_, rfl⟩
        | 2, _ => exact ⟨_, rfl⟩
        | 3, _ => exact ⟨_, rfl⟩
        | 4, _ => exact ⟨_, rfl⟩
        | 5, _ => exact ⟨_, rfl⟩
        | 6, _ => exact ⟨_, rfl⟩
      have P2 : Part h (upd h bk (Obj.cells #[.string got, .string a, .string b, .string is0, .string was, .string (sext got 0 63 ++ ⟨#[UInt8.ofNat 1]⟩), .string (fullB ⟨#[]⟩)] 9 (0, 0))) := fun k o hk => by
        rw [upd_ne (fun e => by rw [e, hbk] at hk; cases hk)]; exact hk
      generalize upd h bk (Obj.cells #[.string got, .string a, .string b, .string is0, .string was, .string (sext got 0 63 ++ ⟨#[UInt8.ofNat 1]⟩), .string (fullB ⟨#[]⟩)] 9 (0, 0)) = h2 at hcell P2
      have inner : ∀ (j i : Nat), i + j = 7 → gabionlaw04_LineMixes.L11 was a b got (some ⟨bk, 0, none⟩) 7 7 7 (i : Int) h2 fun v h' => v = .bool true ∧ Part h h' := by
        intro j
        induction j with
        | zero =>
          intro i hi
          apply gabionlaw04_LineMixes.L11.ok
          refine xsIf_f (decide_eq_false (by omega)) (gabionlaw04_wakes.c fun h3 p3 => ⟨_, rfl, xsIf_t rfl (line_Mixed.c (fun _ => ⟨_, rfl, rfl, P2.trans p3⟩) fun hn => absurd mg hn)⟩)
        | succ j ih =>
          intro i hi
          apply gabionlaw04_LineMixes.L11.ok
          obtain ⟨x, hx⟩ := hcell i (by omega)
          have hx' : h2.cell bk (0 + (i : Int).toNat * 1) = some (.string x) := by rw [Int.toNat_natCast]; exact hx
          have nx : gabionlaw04_LineMixes.L11 was a b got (some ⟨bk, 0, none⟩) 7 7 7 (IntKind.i64.wrap ((i : Int) + 1)) h2 fun v h' => v = .bool true ∧ Part h h' := by
            rw [show IntKind.i64.wrap ((i : Int) + 1) = ((i + 1 : Nat) : Int) by rw [i64_in _ (by omega)]; omega]
            exact ih (i + 1) (by omega)
          refine xsIf_t (decide_eq_true (by omega)) ⟨by show 0 ≤ (i : Int) ∧ (i : Int) < 7; omega, bk, 0, rfl, x, hx', ?_⟩
          have snd : C Try.prog 36 #[.string was, .string b, .string x] h2 fun (r : Value) (h' : Heap) => ∃ (x_3 : Bool), r = .bool x_3 ∧ C Try.prog 37 #[.string was, .string b, .string x] h' fun (r : Value) (h' : Heap) =>
              ∃ (x : Bool), r = .bool x ∧ xsIf (!x_3 == x) ((Value.bool false) = .bool true ∧ Part h h') (gabionlaw04_LineMixes.L11 was a b got (some ⟨bk, 0, none⟩) 7 7 7 (IntKind.i64.wrap ((i : Int) + 1)) h' fun v h' => v = .bool true ∧ Part h h') :=
            line_Mixed.c (fun m => ⟨_, rfl, gabionref04_Mixed.c (fun _ => ⟨_, rfl, xsIf_f rfl nx⟩) fun m2 => absurd m m2⟩) fun m => ⟨_, rfl, gabionref04_Mixed.c (fun m2 => absurd m2 m) fun _ => ⟨_, rfl, xsIf_f rfl nx⟩⟩
          exact line_Mixed.c (fun m => ⟨_, rfl, gabionref04_Mixed.c (fun _ => ⟨_, rfl, xsIf_f rfl snd⟩) fun m2 => absurd m m2⟩) fun m => ⟨_, rfl, gabionref04_Mixed.c (fun m2 => absurd m2 m) fun _ => ⟨_, rfl, xsIf_f rfl snd⟩⟩
      exact inner 7 0 (by omega)
    | succ j ih =>
      intro k f hk hf
      apply gabionlaw04_LineMixes.L4.ok
      unfold gabionlaw04_LineMixes.L4.wp
      have hk8 : k < 8 := by omega
      have e1 : IntKind.i64.wrap (8 * (k : Int)) = ((8 * k : Nat) : Int) := by rw [i64_in _ (by omega)]; omega
      have e2 : IntKind.i64.wrap (((8 * k : Nat) : Int) + 8) = ((8 * k + 8 : Nat) : Int) := by rw [i64_in _ (by omega)]; omega
      rw [e1, e2, sext_word za hk8, sext_word zb hk8]
      have nx : ∀ v, (v = wordAt a k ∨ v = wordAt b k) → ((((⟨(textN f k).toArray⟩ : ByteArray).size + (⟨(putL v 8).toArray⟩ : ByteArray).size : Nat) : Int) ≤ 9223372036854775807 ∧
          gabionlaw04_LineMixes.J9 was is0 pick a b (⟨(textN f k).toArray⟩ ++ ⟨(putL v 8).toArray⟩) (k : Int) h fun v h' => v = .bool true ∧ Part h h') := by
        intro v hv
        refine ⟨by rw [bytes_size, bytes_size, textN_len, putL_length]; omega, ?_⟩
        apply gabionlaw04_LineMixes.J9.ok
        unfold gabionlaw04_LineMixes.J9.wp
        rw [show IntKind.i64.wrap ((k : Int) + 1) = ((k + 1 : Nat) : Int) by rw [i64_in _ (by omega)]; omega, bytes_append]
        have : textN f k ++ putL v 8 = textN (fset f k v) (k + 1) := by
          show _ = textN (fset f k v) k ++ putL (fset f k v k) 8
          rw [show fset f k v k = v from if_pos rfl, textN_congr (f := fset f k v) (g := f) k fun i hi => if_neg (by omega)]
        rw [this]
        refine ih (k + 1) (fset f k v) (by omega) fun i hi => ?_
        unfold fset
        by_cases e : i = k
        · rw [if_pos e, e]; exact hv
        · rw [if_neg e]; exact hf i (by omega)
      refine xsIf_t (decide_eq_true (by omega)) ⟨by omega, xsIf_intro (fun _ => ⟨by omega, by omega, nx _ (.inr rfl)⟩) fun _ => ⟨by omega, by omega, nx _ (.inl rfl)⟩⟩
  exact loop 8 0 (fun _ => 0) (by omega) (fun i hi => by omega)
end Go.Gb
namespace Go.Gb
open Go.Proofs IntWalk

/-! ## LineTorn -/

theorem Own.bsnoc {P : Program} {h0 h : Heap} {T : TypeId} {n c b : Nat} {a : Option Addr} {l : List Bool} {x : Bool} {K : Option Addr → Nat → Nat → Heap → Prop} (w : Own h0 h T 1 a n c (l.map Value.bool)) (hb : h b = none)
    (hsz : cellSize P T = 1) (hz : (cellZero P T).length = 1) (hcap : (2 * (n + 1) + 192) * cellBytes P T ≤ 2 ^ 48)
    (hk : ∀ a' c' h', Own h0 h' T 1 a' (n + 1) c' ((l ++ [x]).map Value.bool) → K a' (n + 1) c' h') : xsApp P T (upd h b (.cells #[.bool x] T (0, 0))) a n c (some ⟨b, 0, none⟩) 1 K := by
  refine Own.append (w.keep (Part.upd hb _)) hsz (by omega) (new := [Value.bool x]) rfl rfl (readsAt_new T [Value.bool x]) hz hcap fun a' c' h' w' => ?_
  have e : l.map Value.bool ++ [Value.bool x] = (l ++ [x]).map Value.bool := by simp
  rw [e] at w'
  exact hk a' c' h' w'

theorem bools_full {h : Heap} {ka : Option Addr} {ks : List Bool} (hr : readsAt h ka (ks.map Value.bool)) : BoolsAt h ka ks := fun i hi => by
  rcases hr with h1 | ⟨b, o, rfl, hc⟩
  · exfalso
    have : ks.length = 0 := by simpa using congrArg List.length h1
    omega
  · have e := hc i (by simpa using hi)
    have e2 : h.cell b (o + i) = some (.bool (ks.getD i false)) := by rw [e]; simp [hi]
    refine ⟨b, o, rfl, fun hn => ?_, by rw [Nat.mul_one]; exact e2⟩
    unfold Heap.cell at e2; rw [hn] at e2; cases e2

theorem chunk_len {l : List UInt8} (h : l.length = 64) {k : Nat} (hk : k < 8) : (chunk l k).length = 8 := by unfold chunk; simp; omega

/-- The first word of one, the others of the other. -/
theorem torn_text {a b : ByteArray} (za : a.size = 64) (zb : b.size = 64) : sext b 0 8 ++ sext a 8 (a.size : Int) = lnbytes fun w => if w = 0 then wordAt b 0 else wordAt a w := by
  have e1 : sext b 0 8 = ⟨(putL (wordAt b 0) 8).toArray⟩ := sext_word (k := 0) zb (by omega)
  have e2 : sext a 8 (a.size : Int) = ⟨(a.data.toList.drop 8).toArray⟩ := by
    unfold sext
    apply ByteArray.ext
    rw [Int.toNat_natCast, ByteArray.data_extract]
    apply Array.ext'
    rw [Array.toList_extract, List.extract_eq_take_drop]
    show (a.data.toList.drop 8).take (a.size - 8) = _
    rw [List.take_of_length_le]
    have : a.data.toList.length = a.size := by simp
    rw [List.length_drop, this]
    exact Nat.le_refl _
  rw [e1, e2, bytes_append]
  unfold lnbytes
  rw [textN_eight]
  unfold textL
  have hl : a.data.toList.length = 64 := by have : a.data.toList.length = a.size := by simp
                                            omega
  have hd : a.data.toList.drop 8 = chunk a.data.toList 1 ++ chunk a.data.toList 2 ++ chunk a.data.toList 3 ++ chunk a.data.toList 4 ++ chunk a.data.toList 5 ++ chunk a.data.toList 6 ++ chunk a.data.toList 7 := by
    have h1 := chunks _ hl
    have h0 := chunk_len hl (show 0 < 8 by omega)
    generalize chunk a.data.toList 0 = c0 at h1 h0
    generalize chunk a.data.toList 1 = c1 at h1
    generalize chunk a.data.toList 2 = c2 at h1
    generalize chunk a.data.toList 3 = c3 at h1
    generalize chunk a.data.toList 4 = c4 at h1
    generalize chunk a.data.toList 5 = c5 at h1
    generalize chunk a.data.toList 6 = c6 at h1
    generalize chunk a.data.toList 7 = c7 at h1
    rw [h1]
    simp only [List.append_assoc]
    rw [← h0, List.drop_left]
  rw [hd]
  simp only [put_word a za 1 (by omega), put_word a za 2 (by omega), put_word a za 3 (by omega), put_word a za 4 (by omega), put_word a za 5 (by omega), put_word a za 6 (by omega), put_word a za 7 (by omega), List.append_assoc]
  simp [put_word a za 1 (by omega), put_word a za 2 (by omega), put_word a za 3 (by omega), put_word a za 4 (by omega), put_word a za 5 (by omega), put_word a za 6 (by omega), put_word a za 7 (by omega)]

section
variable {h : Heap} {Q : Value → Heap → Prop} {a b : ByteArray} {kp : Option Addr} {kn kc : Nat} {c0 c1 : Int}

theorem gabionlaw04_LineTorn.J30.c {i f : Int} {c got : ByteArray} (hi : i = 0 ∨ i = 1) (h0 : i = 0 → mixP a b got ∧ (f = 0 → got = b)) (h1 : i = 1 → (got = a ∨ got = c) ∧ (f = 0 → got = c))
    (hq : gabionlaw04_LineTorn.L9 a b kp kn kc (IntKind.i64.wrap (i + 1)) c0 c1 h Q) : gabionlaw04_LineTorn.J30 a b kp kn kc i c f got i c0 c1 h Q := by
  apply gabionlaw04_LineTorn.J30.ok
  rcases hi with rfl | rfl
  · obtain ⟨m, e⟩ := h0 rfl
    refine xsIf_t rfl (line_Mixed.c (fun _ => ⟨_, rfl, xsIf_f rfl (xsIf_intro (fun h2 => xsIf_f ?_ (xsIf_f rfl hq)) fun _ => xsIf_f rfl hq)⟩) fun hn => absurd m hn)
    rw [e (of_decide_eq_true h2)]; exact decide_eq_false (fun h => h rfl)
  · obtain ⟨m, e⟩ := h1 rfl
    have fin : xsIf (decide (f = 0)) (xsIf (decide (got ≠ c)) (Q (.bool false) h) (gabionlaw04_LineTorn.L9 a b kp kn kc (IntKind.i64.wrap (1 + 1)) c0 c1 h Q)) (gabionlaw04_LineTorn.L9 a b kp kn kc (IntKind.i64.wrap (1 + 1)) c0 c1 h Q) :=
      xsIf_intro (fun h2 => xsIf_f (by rw [e (of_decide_eq_true h2)]; exact decide_eq_false (fun h => h rfl)) hq) fun _ => hq
    refine xsIf_f rfl (xsIf_t rfl (xsIf_intro (fun h2 => xsIf_intro (fun h3 => ?_) fun _ => fin) fun _ => fin))
    rcases m with m | m
    · exact absurd m (of_decide_eq_true h2)
    · exact absurd m (of_decide_eq_true h3)

theorem gabionlaw04_LineTorn.L9.c {hk : Heap} {ks : List Bool} (hr : readsAt hk kp (ks.map Value.bool)) (za : a.size = 64) (zb : b.size = 64) (hc : 0 ≤ c0 ∧ c0 ≤ 255) (hq : ∀ h', Part hk h' → Q (.bool true) h') : ∀ (j i : Nat) (h : Heap), i + j = 2 → Part hk h →
    gabionlaw04_LineTorn.L9 a b kp ks.length kc (i : Int) c0 c1 h Q := by
  intro j
  induction j with
  | zero =>
    intro i h hi p
    apply gabionlaw04_LineTorn.L9.ok
    exact xsIf_f (decide_eq_false (by omega)) (hq h p)
  | succ j ih =>
    intro i h hi p
    apply gabionlaw04_LineTorn.L9.ok
    refine xsIf_t (decide_eq_true (by omega)) (pm_New.c (n := 1) (by omega) (by omega) fun d F h1 w1 fr lv1 p1 => ⟨_, _, rfl, gabionlaw04_wakes.c fun h2 p2 => ⟨_, rfl, xsIf_f rfl (xsIf_f (by decide) ?_)⟩⟩)
    have w2 : PmD F h2 d (pnew 1) := w1.keep fun k _ hk => part_live p2 hk
    have lv2 := (Step.of_part (F := F) p2).dom lv1
    have P2 : Part hk h2 := (p.trans p1).trans p2
    have hfr : ∀ k, hk k ≠ none → ¬ F k := fun k hk' hf => by
      have := fr k hf
      cases e : hk k with
      | none => exact hk' e
      | some o => rw [p k o e] at this; cases this
    obtain ⟨s1, e1, cl1, n1, b1, k1, m1⟩ := lnput_clean (s := pnew 1) (a := 0) (Cl.new 1) (by show 0 < 1; omega) za
    have ok1 : PmOk s1 := by have := (PmOk.new 1).put (0 : Nat) a; rw [e1] at this; exact this
    refine line_Put.c w2 lv2 fun h3 w3 st3 => ⟨_, rfl, ?_⟩
    rw [show lnput (pnew 1) 0 a = (0, s1) from e1] at w3 ⊢
    refine xsIf_f rfl ?_
    apply gabionlaw04_LineTorn.J14.ok
    unfold gabionlaw04_LineTorn.J14.wp
    have ef : IntKind.i64.wrap (1 + IntKind.i64.wrap (irem c0 11)) = 1 + c0 % 11 := by
      rw [irem_pos hc.1, i64_in (c0 % 11) (by omega), i64_in _ (by omega)]
    rw [ef]
    refine pm_Device_Fuse.c w3 (by omega) fun h4 w4 st4 => ⟨by omega, by omega, ?_, ?_⟩
    · have e8 : (sext b 0 8).size ≤ 64 := by unfold sext; rw [ByteArray.size_extract]; omega
      have e9 : (sext a 8 (a.size : Int)).size ≤ 64 := by unfold sext; rw [ByteArray.size_extract]; omega
      omega
    rw [torn_text za zb]
    have lv4 := st4.dom (st3.dom lv2)
    have P4 : Part hk h4 := st4.part (st3.part P2 hfr) hfr
    obtain ⟨s2, hs2⟩ : ∃ s2 : PmS, s2 = { s1 with fuse := imax (1 + c0 % 11) 0 } := ⟨_, rfl⟩
    have w4 : PmD F h4 d s2 := by rw [hs2]; exact w4
    have n1' : s1.nl = 1 := n1
    have o2 : s2.off = false := by rw [hs2]; exact cl1.off
    have bf2 : ∀ w, w < 8 → s2.buf w = none := fun w hw => by rw [hs2]; exact cl1.buf w (by show w < 8 * s1.nl; omega)
    have md2 : ∀ w, w < 8 → s2.media w = ((wordAt a w : Nat) : Int) := fun w hw => by
      rw [hs2]
      show s1.media w = _
      rw [m1 w (by show w < 8 * 1; omega), if_pos ⟨by omega, rfl⟩, show w % 8 = w by omega]
    have ok2 : PmOk s2 := by rw [hs2]; exact ok1.of rfl rfl
    have tn : ∀ B : Nat → Int, Tn s2 (fun w => ((wordAt a w : Nat) : Int)) B := fun B => by
      refine ⟨by rw [hs2]; exact n1', by rw [hs2]; exact b1, by rw [hs2]; show 0 ≤ imax _ _; rw [imax_eq]; omega, fun w hw => .inl (md2 w hw), fun w hw x hx => ?_⟩
      rw [bf2 w hw] at hx; cases hx
    have next : ∀ h', Part hk h' → gabionlaw04_LineTorn.L9 a b kp ks.length kc (IntKind.i64.wrap ((i : Int) + 1)) c0 c1 h' Q := fun h' p' => by
      rw [show IntKind.i64.wrap ((i : Int) + 1) = ((i + 1 : Nat) : Int) by rw [i64_in _ (by omega)]; omega]
      exact ih (i + 1) h' (by omega) p'
    /- behind the put -/
    have rest : ∀ (B : Nat → Nat) (h5 : Heap) (s5 : PmS) (f : Int), (∀ w, B w < 18446744073709551616) → PmD F h5 d s5 → Live F h5 → Part hk h5 → PmOk s5 → Tn s5 (fun w => ((wordAt a w : Nat) : Int)) (fun w => ((B w : Nat) : Int)) →
        ((f = 0 ∧ s5.off = false ∧ ∀ w, w < 8 → s5.media w = ((B w : Nat) : Int)) ∨ (f = 6 ∧ s5.off = true)) →
        (∀ got h', Part hk h' → got.size = 64 → (∀ k, k < 8 → wordAt got k = wordAt a k ∨ wordAt got k = B k) → (f = 0 → ∀ k, k < 8 → wordAt got k = B k) → gabionlaw04_LineTorn.J30 a b kp ks.length kc (i : Int) (lnbytes fun w => if w = 0 then wordAt b 0 else wordAt a w) f got (i : Int) c0 c1 h' Q) →
        gabionlaw04_LineTorn.J25 a b kp ks.length kc (i : Int) (some ⟨d, 0, none⟩) (lnbytes fun w => if w = 0 then wordAt b 0 else wordAt a w) f (i : Int) c0 c1 h5 Q := by
      intro B h5 s5 f hB w5 lv5 P5 ok5 t5 hf hK
      apply gabionlaw04_LineTorn.J25.ok
      refine pm_Device_Off.c w5 ⟨_, rfl, pm_Device_Boot.c w5 lv5 (bools_full (readsAt_part hr P5)) fun h6 w6 st6 => ?_⟩
      have ok6 := ok5.boot ks
      have t6 := t5.bootT ks
      refine line_Get.c w6 ok6 ⟨_, _, rfl, ?_⟩
      rw [t6.getT rfl rfl]
      have P6 := st6.part P5 hfr
      have hv : ∀ w, ((pboot s5 ks).media w).toNat < 18446744073709551616 ∧ 0 ≤ (pboot s5 ks).media w := fun w => by
        have := ok6.media w; unfold R64 at this; omega
      have j30 : gabionlaw04_LineTorn.J30 a b kp ks.length kc (i : Int) (lnbytes fun w => if w = 0 then wordAt b 0 else wordAt a w) f (lnbytes fun k => ((pboot s5 ks).media k).toNat) (i : Int) c0 c1 h6 Q := by
        refine hK _ h6 P6 (lnbytes_size _) (fun k hk => ?_) fun f0 k hk => ?_
        · rw [wordAt_text hk (hv k).1]
          have h7 := (hv k).2
          rcases t6.med k hk with h8 | h8
          · left; rw [h8]; omega
          · right; rw [h8]; omega
        · rw [wordAt_text hk (hv k).1]
          have t7 : Tn s5 (fun w => ((B w : Nat) : Int)) (fun w => ((B w : Nat) : Int)) := by
            rcases hf with hf | hf
            · exact ⟨t5.nl, t5.bad, t5.f0, fun w hw => .inl (hf.2.2 w hw), t5.buf⟩
            · rw [f0] at hf; cases hf.1
          rcases (t7.bootT ks).med k hk with h8 | h8
          · rw [h8]; omega
          · rw [h8]; omega
      rcases hf with ⟨rfl, ho, -⟩ | ⟨rfl, ho⟩
      · rw [ho]
        exact xsIf_f rfl (xsIf_f rfl (xsIf_t rfl (xsIf_f rfl j30)))
      · rw [ho]
        exact xsIf_f rfl (xsIf_f rfl (xsIf_f rfl j30))
    rcases (show i = 0 ∨ i = 1 by omega) with rfl | rfl
    · refine xsIf_t rfl (line_Put.c w4 lv4 fun h5 w5 st5 => ⟨_, rfl, ?_⟩)
      obtain ⟨t5, r5⟩ := (tn fun w => ((wordAt b w : Nat) : Int)).putT o2 zb (fun _ => rfl)
      refine rest (wordAt b) h5 _ _ (fun w => wordAt_lt b w) w5 (st5.dom lv4) (st5.part P4 hfr) (ok2.put 0 b) t5 r5 fun got h' p' zg hg hf => ?_
      refine gabionlaw04_LineTorn.J30.c (.inl rfl) (fun _ => ⟨⟨za, zb, zg, hg⟩, fun f0 => ?_⟩) (fun h => by cases h) (next h' p')
      exact bytes_word_eq zg zb fun k hk => hf f0 k hk
    · refine xsIf_f rfl ?_
      have l21 : ∀ (j : Nat) (v : Nat), j ≤ 8 → v = getL ((b.data.toList.take 8).drop j) → gabionlaw04_LineTorn.L21 a b kp ks.length kc ((1 : Nat) : Int) (some ⟨d, 0, none⟩) (lnbytes fun w => if w = 0 then wordAt b 0 else wordAt a w) (v : Int) ((j : Int) - 1) ((1 : Nat) : Int) c0 c1 h4 Q := by
        intro j
        induction j with
        | zero =>
          intro v _ hv
          apply gabionlaw04_LineTorn.L21.ok
          refine xsIf_f (by simp) ?_
          have hv0 : v = wordAt b 0 := by rw [hv]; rfl
          rw [hv0]
          have hB : ∀ w, (if w = 0 then wordAt b 0 else wordAt a w) < 18446744073709551616 := fun w => by split <;> exact wordAt_lt _ _
          obtain ⟨t5, r5⟩ := (tn fun w => (((if w = 0 then wordAt b 0 else wordAt a w : Nat)) : Int)).putwT o2 bf2 (fun w hw hne => by rw [md2 w hw, if_neg hne])
          refine line_PutWord.c w4 lv4 fun h5 w5 st5 => ⟨_, rfl, ?_⟩
          refine rest (fun w => if w = 0 then wordAt b 0 else wordAt a w) h5 _ _ hB w5 (st5.dom lv4) (st5.part P4 hfr) (ok2.putw 0 0 ⟨by omega, by have := wordAt_lt b 0; omega⟩) t5 r5 fun got h' p' zg hg hf => ?_
          have zc := lnbytes_size fun w => if w = 0 then wordAt b 0 else wordAt a w
          have wc : ∀ k, k < 8 → wordAt (lnbytes fun w => if w = 0 then wordAt b 0 else wordAt a w) k = if k = 0 then wordAt b 0 else wordAt a k := fun k hk => wordAt_text hk (hB k)
          refine gabionlaw04_LineTorn.J30.c (.inr rfl) (fun h => by cases h) (fun _ => ⟨?_, fun f0 => ?_⟩) (next h' p')
          · rcases hg 0 (by omega) with h0 | h0
            · left
              refine bytes_word_eq zg za fun k hk => ?_
              by_cases e : k = 0
              · rw [e]; exact h0
              · rcases hg k hk with h1 | h1
                · exact h1
                · rw [h1]; exact if_neg e
            · right
              refine bytes_word_eq zg zc fun k hk => ?_
              rw [wc k hk]
              by_cases e : k = 0
              · rw [e]; exact h0
              · rw [if_neg e]
                rcases hg k hk with h1 | h1
                · exact h1
                · rw [h1]; exact if_neg e
          · refine bytes_word_eq zg zc fun k hk => ?_
            rw [wc k hk]; exact hf f0 k hk
        | succ j ih =>
          intro v h8 hn
          apply gabionlaw04_LineTorn.L21.ok
          refine xsIf_t (by simp) ?_
          have hjs : j < b.size := by omega
          have hl : b.data.toList.length = b.size := by simp
          have hj : ((↑(j + 1) : Int) - 1).toNat = j := by omega
          refine ⟨_, by omega, by rw [hj]; exact bget_get hjs, ?_⟩
          have hlt := getL_lt ((b.data.toList.take 8).drop (j + 1))
          rw [← hn] at hlt
          have hlen : ((b.data.toList.take 8).drop (j + 1)).length ≤ 7 - j := by simp; omega
          have hn2 : v < 256 ^ (7 - j) := Nat.lt_of_lt_of_le hlt (Nat.pow_le_pow_right (by omega) hlen)
          have hn3 : v < 72057594037927936 := Nat.lt_of_lt_of_le hn2 (Nat.pow_le_pow_right (by omega) (show 7 - j ≤ 7 by omega))
          generalize hb : b.data.toList[j]'(by omega) = x
          have hbl := x.toNat_lt
          rw [show (8 : Int) = ((8 : Nat) : Int) from rfl, ishl_u64 (by omega), u64_nat' (by omega), Nat.mod_eq_of_lt (by omega), ior_u64 (by omega) (by omega), i64_in _ (by omega)]
          rw [show (↑(j + 1) : Int) - 1 - 1 = (j : Int) - 1 by omega]
          refine ih _ (by omega) ?_
          have hdr : (b.data.toList.take 8).drop j = x :: (b.data.toList.take 8).drop (j + 1) := by
            rw [List.drop_eq_getElem_cons (by simp; omega)]
            congr 1
            simp [← hb]
          rw [hdr]
          simp only [getL]
          rw [← hn, Nat.mul_comm v, ← Nat.two_pow_add_eq_or_of_lt (by omega : x.toNat < 2 ^ 8)]
          omega
      have := l21 8 0 (by omega) (by rw [List.drop_of_length_le (by rw [List.length_take]; omega)]; rfl)
      exact this
end

theorem gabionlaw04_LineTorn.law (was : ByteArray) (hwas : was.size ≤ 140737488351232) (is0 : ByteArray) (his : is0.size ≤ 140737488351232) (ns : List Int) (hl : ns.length = 2) (hx : ∀ x ∈ ns, IntKind.u8.min ≤ x ∧ x ≤ IntKind.u8.max) (h : Heap) :
    C Try.prog 11 #[.string was, .string is0, .agg (ns.map (Value.int .u8)).toArray] h fun v h' => v = .bool true ∧ Part h h' := by
  match ns, hl with
  | [c0, c1], _ =>
  have hc : 0 ≤ c0 ∧ c0 ≤ 255 := hx c0 (by simp)
  apply gabionlaw04_LineTorn.ok
  refine gabionlaw04_full.c hwas ⟨_, rfl, gabionlaw04_full.c his ⟨_, rfl, ?_⟩⟩
  have za := fullB_size was
  have zb := fullB_size is0
  generalize fullB was = a at za
  generalize fullB is0 = b at zb
  have loop : ∀ (j k : Nat) (h' : Heap) (l : List Bool) (kp : Option Addr) (kc : Nat), k + j = 8 → l.length = k → Own h h' 4 1 kp l.length kc (l.map Value.bool) →
      gabionlaw04_LineTorn.L4 a b kp l.length kc (k : Int) c0 c1 h' fun v h' => v = .bool true ∧ Part h h' := by
    intro j
    induction j with
    | zero =>
      intro k h' l kp kc hk hlk o
      apply gabionlaw04_LineTorn.L4.ok
      refine xsIf_f (decide_eq_false (by omega)) (gabionlaw04_LineTorn.L9.c o.reads za zb hc (fun h'' p => ⟨rfl, o.part.trans p⟩) 2 0 h' (by omega) (Part.refl h'))
    | succ j ih =>
      intro k h' l kp kc hk hlk o
      apply gabionlaw04_LineTorn.L4.ok
      refine xsIf_t (decide_eq_true (by omega)) ⟨by omega, fun bk hbk => ?_⟩
      refine o.bsnoc hbk (by kernel_rfl) (by kernel_rfl) ?_ fun a' c' h2 o' => ?_
      · rw [show cellBytes Try.prog 4 = 1 by kernel_rfl]; omega
      · rw [show IntKind.i64.wrap ((k : Int) + 1) = ((k + 1 : Nat) : Int) by rw [i64_in _ (by omega)]; omega]
        have := ih (k + 1) h2 (l ++ [decide (iand .u8 (ishr .u8 c1 (k : Int)) 1 = 1)]) a' c' (by omega) (by simp [hlk]) (by rw [List.length_append]; exact o')
        rw [List.length_append] at this
        exact this
  exact loop 8 0 h [] none 0 (by omega) rfl (Own.nil (Part.refl h))
end Go.Gb
