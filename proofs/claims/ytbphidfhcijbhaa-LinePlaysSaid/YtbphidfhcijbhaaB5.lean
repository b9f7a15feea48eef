/- Own texts for the seat: Ln3 Ln4 Ln6. -/
import Derived.Test.YtbphidfhcijbhaaB4
import Derived.Test.YtbphidfhcijbhaaB3
set_option linter.unusedVariables false
set_option linter.unusedSimpArgs false
set_option linter.unnecessarySimpa false
set_option linter.deprecated false
namespace Go.Gb
open Go.Proofs IntWalk

/-! ## gabionlaw04: full; puts on a device that works -/

def zero64 : ByteArray := ⟨(Lib.repeatL [UInt8.ofNat 0] 64).toArray⟩
def fullB (s : ByteArray) : ByteArray := sext (s ++ zero64) 0 64

theorem zero64_size : zero64.size = 64 := by
  show (Lib.repeatL [UInt8.ofNat 0] 64).toArray.size = 64
  rw [List.size_toArray, Lib.repeatL_length]; rfl
theorem fullB_size (s : ByteArray) : (fullB s).size = 64 := by
  unfold fullB sext
  rw [ByteArray.size_extract, ByteArray.size_append, zero64_size]
  show min 64 _ - 0 = 64
  omega

theorem gabionlaw04_full.c {s : ByteArray} {h : Heap} {Q : Value → Heap → Prop} (hs : s.size ≤ 140737488351232) (hq : Q (.string (fullB s)) h) : C Try.prog 35 #[.string s] h Q := by
  apply gabionlaw04_full.ok
  refine strings_Repeat.c (c := 64) (by omega) (by show 1 ≤ 1000000; omega) ⟨_, rfl, ?_, ?_, hq⟩
  · show ((s.size + zero64.size : Nat) : Int) ≤ _
    rw [zero64_size]; omega
  · show (0 : Int) ≤ 64 ∧ (64 : Int) ≤ ((s ++ zero64).size : Int)
    rw [ByteArray.size_append, zero64_size]; omega

/-- A device that works, with nothing pending. -/
structure Cl (s : PmS) : Prop where
  off : s.off = false
  fuse : s.fuse = 0
  buf : ∀ w, w < 8 * s.nl → s.buf w = none
  c0 : 0 ≤ s.count
  c1 : s.count < 1000000000

theorem pflush_nf {s : PmS} {a : Nat} (h0 : s.off = false) (h1 : s.fuse = 0) (ha : a < s.nl) : pflush s (a : Int) = (0, { ptick s with buf := fbuf s.buf a 8 }) := by
  have := pflush_run (s := s) (k := (a : Int)) h0 (by rw [h1]; decide) (by omega) (by omega)
  rw [Int.toNat_natCast] at this; exact this
theorem pstore_nf {s : PmS} {k : Nat} {v : Int} (h0 : s.off = false) (h1 : s.fuse = 0) (hk : k < 8 * s.nl) : pstore s (k : Int) v = (0, { ptick s with buf := fset s.buf k (some (v, false)) }) := by
  have := pstore_run (s := s) (k := (k : Int)) (v := v) h0 (by rw [h1]; decide) (by omega) (by omega)
  rw [Int.toNat_natCast] at this; exact this
theorem ptick_fuse {s : PmS} (h : s.fuse = 0) : (ptick s).fuse = 0 := by show (if 0 < s.fuse then s.fuse - 1 else s.fuse) = 0; rw [h]; rfl
theorem ptick_count {s : PmS} (h : 0 ≤ s.count) (h1 : s.count < 2000000000) : (ptick s).count = s.count + 1 := by show IntKind.wrap .i64 (s.count + 1) = _; rw [i64_in _ (by omega)]

/-- What is stored lasts. -/
theorem llast_clean {s : PmS} {a : Nat} {p : Nat → Bool} {f : Nat → Int} (h0 : s.off = false) (h1 : s.fuse = 0) (ha : a < s.nl) (c0 : 0 ≤ s.count) (c1 : s.count < 1000001000)
    (hb : ∀ w, w < 8 * s.nl → s.buf w = if w / 8 = a ∧ p (w % 8) = true then some (f (w % 8), false) else none) :
    ∃ s', llast s (a : Int) = (0, s') ∧ s'.nl = s.nl ∧ s'.off = false ∧ s'.fuse = 0 ∧ s'.bad = s.bad ∧ s'.count = s.count + 2 ∧ (∀ w, w < 8 * s.nl → s'.buf w = none) ∧
      ∀ w, w < 8 * s.nl → s'.media w = if w / 8 = a ∧ p (w % 8) = true ∧ s.bad a = false then f (w % 8) else s.media w := by
  unfold llast
  rw [pflush_nf h0 h1 ha, if_pos rfl]
  generalize hs2 : ({ ptick s with buf := fbuf s.buf a 8 } : PmS) = s2
  have o2 : s2.off = false := by rw [← hs2]; exact h0
  have f2 : s2.fuse = 0 := by rw [← hs2]; exact ptick_fuse h1
  have nl2 : s2.nl = s.nl := by rw [← hs2]; rfl
  have b2 : s2.buf = fbuf s.buf a 8 := by rw [← hs2]
  have cc : s2.count = s.count + 1 := by rw [← hs2]; exact ptick_count c0 (by omega)
  have m2 : s2.media = s.media := by rw [← hs2]; rfl
  have bd2 : s2.bad = s.bad := by rw [← hs2]; rfl
  rw [pfence_run o2 (by rw [f2]; decide)]
  have hb2 : ∀ w, w < 8 * s.nl → s2.buf w = if w / 8 = a ∧ p (w % 8) = true then some (f (w % 8), true) else none := by
    intro w hw
    rw [b2]
    unfold fbuf
    rw [hb w hw]
    by_cases e : w / 8 = a ∧ p (w % 8) = true
    · rw [if_pos e, if_pos e, if_pos (by omega)]; rfl
    · rw [if_neg e, if_neg e]; split <;> rfl
  have hf : ∀ w, w < 8 * s.nl → (w ∈ flushed s2 ↔ w / 8 = a ∧ p (w % 8) = true) := by
    intro w hw
    rw [flushed_mem, nl2, hb2 w hw]
    by_cases e : w / 8 = a ∧ p (w % 8) = true
    · rw [if_pos e]; exact ⟨fun _ => e, fun _ => ⟨hw, _, rfl⟩⟩
    · rw [if_neg e]; exact ⟨fun h => (by obtain ⟨_, v, h⟩ := h; cases h), fun h => absurd h e⟩
  refine ⟨_, rfl, nl2, o2, ptick_fuse f2, bd2, ?_, fun w hw => ?_, fun w hw => ?_⟩
  · show (ptick s2).count = _
    rw [ptick_count (by omega) (by omega), cc]; omega
  · show lbuf (ptick s2) (flushed s2) w = none
    unfold lbuf
    by_cases e : w ∈ flushed s2
    · rw [if_pos e]
    · rw [if_neg e]
      show s2.buf w = none
      rw [hb2 w hw, if_neg (fun h => e ((hf w hw).2 h))]
  · show lmedia (ptick s2) (flushed s2) w = _
    unfold lmedia
    show (if w ∈ flushed s2 ∧ s2.bad (w / 8) = false then (match s2.buf w with | some x => x.1 | none => 0) else s2.media w) = _
    rw [m2, bd2]
    by_cases e : w / 8 = a ∧ p (w % 8) = true
    · by_cases eb : s.bad a = false
      · rw [if_pos ⟨(hf w hw).2 e, by rw [e.1]; exact eb⟩, if_pos ⟨e.1, e.2, eb⟩, hb2 w hw, if_pos e]
      · rw [if_neg (fun h => eb (by rw [← e.1]; exact h.2)), if_neg (fun h => eb h.2.2)]
    · rw [if_neg (fun h => e ((hf w hw).1 h.1)), if_neg (fun h => e ⟨h.1, h.2.1⟩)]

theorem lstores_clean {a : Nat} {f : Nat → Nat} : ∀ (j k : Nat) (s : PmS), k + j = 8 → s.off = false → s.fuse = 0 → a < s.nl → 0 ≤ s.count → s.count + j < 1000000500 →
    (∀ w, w < 8 * s.nl → s.buf w = if w / 8 = a ∧ w % 8 < k then some (((f (w % 8) : Nat) : Int), false) else none) →
    ∃ s', lstores a f j k s = (0, s') ∧ s'.nl = s.nl ∧ s'.off = false ∧ s'.fuse = 0 ∧ s'.bad = s.bad ∧ s'.count = s.count + j + 2 ∧ (∀ w, w < 8 * s.nl → s'.buf w = none) ∧
      ∀ w, w < 8 * s.nl → s'.media w = if w / 8 = a ∧ s.bad a = false then ((f (w % 8) : Nat) : Int) else s.media w := by
  intro j
  induction j with
  | zero =>
    intro k s hk h0 h1 ha c0 c1 hb
    obtain ⟨s', g1, g2, g3, g4, g5, g6, g7, g8⟩ := llast_clean (p := fun _ => true) (f := fun i => ((f i : Nat) : Int)) h0 h1 ha c0 (by omega) (fun w hw => by
      rw [hb w hw]
      by_cases e : w / 8 = a
      · rw [if_pos ⟨e, by omega⟩, if_pos ⟨e, rfl⟩]
      · rw [if_neg (fun h => e h.1), if_neg (fun h => e h.1)])
    refine ⟨s', g1, g2, g3, g4, g5, by omega, g7, fun w hw => ?_⟩
    rw [g8 w hw]
    by_cases e : w / 8 = a ∧ s.bad a = false
    · rw [if_pos ⟨e.1, rfl, e.2⟩, if_pos e]
    · rw [if_neg (fun h => e ⟨h.1, h.2.2⟩), if_neg e]
  | succ j ih =>
    intro k s hk h0 h1 ha c0 c1 hb
    unfold lstores
    rw [pstore_nf h0 h1 (by omega), if_pos rfl]
    obtain ⟨s', g1, g2, g3, g4, g5, g6, g7, g8⟩ := ih (k + 1) { ptick s with buf := fset s.buf (8 * a + k) (some (((f k : Nat) : Int), false)) } (by omega) h0 (ptick_fuse h1) ha (by show 0 ≤ (ptick s).count; rw [ptick_count c0 (by omega)]; omega) (by show (ptick s).count + j < _; rw [ptick_count c0 (by omega)]; omega) (fun w hw => by
      have hw : w < 8 * s.nl := hw
      show fset s.buf (8 * a + k) (some (((f k : Nat) : Int), false)) w = _
      unfold fset
      by_cases e : w = 8 * a + k
      · rw [if_pos e, if_pos (by omega), show w % 8 = k by omega]
      · rw [if_neg e, hb w hw]
        by_cases e2 : w / 8 = a ∧ w % 8 < k
        · rw [if_pos e2, if_pos (by omega)]
        · rw [if_neg e2, if_neg (by omega)])
    refine ⟨s', g1, g2, g3, g4, g5, ?_, g7, g8⟩
    rw [g6]
    show (ptick s).count + j + 2 = _
    rw [ptick_count c0 (by omega)]; omega

theorem lnput_clean {s : PmS} {a : Nat} {b : ByteArray} (cl : Cl s) (ha : a < s.nl) (hb : b.size = 64) : ∃ s', lnput s (a : Int) b = (0, s') ∧ Cl { s' with count := 0 } ∧ s'.nl = s.nl ∧ s'.bad = s.bad ∧ s'.count = s.count + 10 ∧
      ∀ w, w < 8 * s.nl → s'.media w = if w / 8 = a ∧ s.bad a = false then ((wordAt b (w % 8) : Nat) : Int) else s.media w := by
  have c0 := cl.c0
  have c1 := cl.c1
  obtain ⟨s', g1, g2, g3, g4, g5, g6, g7, g8⟩ := lstores_clean (a := a) (f := wordAt b) 8 0 s (by omega) cl.off cl.fuse ha cl.c0 (by omega) (fun w hw => by rw [cl.buf w hw, if_neg (by omega)])
  unfold lnput
  rw [if_pos hb, if_pos (by unfold lthere; rw [if_pos (by omega)]), Int.toNat_natCast]
  exact ⟨s', g1, ⟨g3, g4, by show ∀ w, w < 8 * s'.nl → s'.buf w = none; rw [g2]; exact g7, Int.le_refl _, by show (0 : Int) < _; omega⟩, g2, g5, by omega, g8⟩

theorem lnputw_clean {s : PmS} {a k : Nat} {v : Int} (cl : Cl s) (ha : a < s.nl) (hk : k < 8) : ∃ s', lnputw s (a : Int) (k : Int) v = (0, s') ∧ Cl { s' with count := 0 } ∧ s'.nl = s.nl ∧ s'.bad = s.bad ∧ s'.count = s.count + 3 ∧
      ∀ w, w < 8 * s.nl → s'.media w = if w = 8 * a + k ∧ s.bad a = false then v else s.media w := by
  have c0 := cl.c0
  have c1 := cl.c1
  unfold lnputw
  have e : (8 * (a : Int) + (k : Int)) = ((8 * a + k : Nat) : Int) := by omega
  rw [if_pos (by omega), if_pos (by unfold lthere; rw [if_pos (by omega)]), e, pstore_nf cl.off cl.fuse (by omega), if_pos rfl]
  have cc : (ptick s).count = s.count + 1 := ptick_count c0 (by omega)
  obtain ⟨s', g1, g2, g3, g4, g5, g6, g7, g8⟩ := llast_clean (s := { ptick s with buf := fset s.buf (8 * a + k) (some (v, false)) }) (a := a) (p := fun i => decide (i = k)) (f := fun _ => v) cl.off (ptick_fuse cl.fuse) ha (by show 0 ≤ (ptick s).count; omega) (by show (ptick s).count < _; omega) (fun w hw => by
    have hw : w < 8 * s.nl := hw
    show fset s.buf (8 * a + k) (some (v, false)) w = _
    unfold fset
    by_cases e : w = 8 * a + k
    · rw [if_pos e, if_pos ⟨by omega, decide_eq_true (by omega)⟩]
    · rw [if_neg e, cl.buf w hw, if_neg]
      rintro ⟨h1, h2⟩
      have := of_decide_eq_true h2
      omega)
  refine ⟨s', g1, ⟨g3, g4, by show ∀ w, w < 8 * s'.nl → s'.buf w = none; rw [g2]; exact g7, Int.le_refl _, by show (0 : Int) < _; omega⟩, g2, g5, ?_, fun w hw => ?_⟩
  · rw [g6]; show (ptick s).count + 2 = _; omega
  · rw [g8 w hw]
    by_cases e : w = 8 * a + k ∧ s.bad a = false
    · rw [if_pos e, if_pos ⟨by omega, decide_eq_true (by omega), e.2⟩]
    · rw [if_neg e, if_neg]
      · rfl
      · rintro ⟨h1, h2, h3⟩
        have := of_decide_eq_true h2
        exact e ⟨by omega, h3⟩
end Go.Gb
namespace Go.Gb
open Go.Proofs IntWalk

/-! ## gabionlaw04: wakes, LineNone, LineCosts -/

section
variable {h : Heap} {Q : Value → Heap → Prop} {a : Int}

theorem pm_Device_Off.nil (hq : Q (.bool false) h) : C Try.prog 28 #[.pointer none] h Q := by
  apply pm_Device_Off.ok
  exact xsIf_f rfl hq

theorem line_there.nil (hq : Q (.int .i64 1) h) : C Try.prog 61 #[.pointer none, .int .i64 a] h Q := by
  apply line_there.ok
  exact xsIf_t rfl hq
theorem line_Get.nil (hq : Q (.tuple #[.string ⟨#[]⟩, .int .i64 1]) h) : C Try.prog 30 #[.pointer none, .int .i64 a] h Q := by
  apply line_Get.ok
  exact line_there.nil ⟨_, rfl, xsIf_t (by decide) (pm_Device_Off.nil ⟨_, rfl, xsIf_t rfl hq⟩)⟩
theorem line_Put.nil {b : ByteArray} (hq : Q (.int .i64 1) h) : C Try.prog 32 #[.pointer none, .int .i64 a, .string b] h Q := by
  apply line_Put.ok
  exact le_Words.c2 fun f _ => ⟨_, _, _, _, _, _, _, _, _, rfl, line_there.nil ⟨_, rfl, xsIf_t (by decide) hq⟩⟩
theorem line_PutWord.nil {k v : Int} (hq : Q (.int .i64 1) h) : C Try.prog 33 #[.pointer none, .int .i64 a, .int .i64 k, .int .u64 v] h Q := by
  apply line_PutWord.ok
  exact line_there.nil ⟨_, rfl, xsIf_t (by decide) hq⟩
theorem line_Took.nil {b : ByteArray} (hq : Q (.bool false) h) : C Try.prog 34 #[.pointer none, .int .i64 a, .string b] h Q := by
  apply line_Took.ok
  refine le_Words.c2 fun f _ => ⟨_, _, _, _, _, _, _, _, _, rfl, xsIf_intro (fun _ => hq) fun _ => line_there.nil ⟨_, rfl, xsIf_t (by decide) hq⟩⟩
end

theorem Cl.of {s : PmS} (c : Cl { s with count := 0 }) (h0 : 0 ≤ s.count) (h1 : s.count < 1000000000) : Cl s := ⟨c.off, c.fuse, c.buf, h0, h1⟩
theorem Cl.new (n : Nat) : Cl (pnew n) := ⟨rfl, rfl, fun _ _ => rfl, Int.le_refl _, by show (0 : Int) < _; omega⟩

theorem bytes_word_eq {b c : ByteArray} (hb : b.size = 64) (hc : c.size = 64) (h : ∀ k, k < 8 → wordAt b k = wordAt c k) : b = c := by
  rw [← lnbytes_words b hb, ← lnbytes_words c hc]
  unfold lnbytes
  rw [textN_congr 8 h]

theorem lnget_clean {s : PmS} {a : Nat} {b : ByteArray} (cl : Cl s) (ok : PmOk s) (ha : a < s.nl) (hb : b.size = 64) (hm : ∀ k, k < 8 → s.media (8 * a + k) = ((wordAt b k : Nat) : Int)) : lnget s (a : Int) = (b, 0) := by
  unfold lnget
  rw [cl.off, if_neg (by simp), if_pos (by unfold lthere; rw [if_pos (by omega)]), Int.toNat_natCast]
  congr 1
  refine Eq.trans ?_ (lnbytes_words b hb)
  unfold lnbytes
  rw [textN_congr 8]
  intro k hk
  show (pval s (8 * a + k)).toNat = _
  unfold pval
  rw [cl.buf _ (by omega)]
  show (s.media (8 * a + k)).toNat = _
  rw [hm k hk]; omega

set_option maxRecDepth 100000 in
theorem abc_word : wordAt (fullB ⟨#[UInt8.ofNat 97, UInt8.ofNat 98, UInt8.ofNat 99]⟩) 0 ≠ 0 := by
  have : wordAt (fullB ⟨#[UInt8.ofNat 97, UInt8.ofNat 98, UInt8.ofNat 99]⟩) 0 = 6513249 := by kernel_rfl
  rw [this]; decide

theorem gabionlaw04_wakes.c {h : Heap} {Q : Value → Heap → Prop} (hq : ∀ h', Part h h' → Q (.bool true) h') : C Try.prog 31 #[] h Q := by
  apply gabionlaw04_wakes.ok
  refine pm_New.c (n := 2) (by omega) (by omega) fun d F h1 w1 fr lv1 p1 => ⟨_, _, rfl, gabionlaw04_full.c (by show 3 ≤ _; omega) ⟨_, rfl, xsIf_f (by decide) (xsIf_f rfl ?_)⟩⟩
  have fs := fullB_size ⟨#[UInt8.ofNat 97, UInt8.ofNat 98, UInt8.ofNat 99]⟩
  have w0 := abc_word
  generalize fullB ⟨#[UInt8.ofNat 97, UInt8.ofNat 98, UInt8.ofNat 99]⟩ = b at fs w0
  obtain ⟨s1, e1, c1, n1, b1, k1, m1⟩ := lnput_clean (s := pnew 2) (a := 1) (Cl.new 2) (by show 1 < 2; omega) fs
  have cl1 : Cl s1 := c1.of (by rw [k1]; show (0 : Int) ≤ 0 + 10; omega) (by rw [k1]; show (0 : Int) + 10 < _; omega)
  have ok1 : PmOk s1 := by have := (PmOk.new 2).put (1 : Nat) b; rw [e1] at this; exact this
  refine line_Put.c w1 lv1 fun h2 w2 st2 => ⟨_, rfl, ?_⟩
  rw [show lnput (pnew 2) 1 b = (0, s1) from e1] at w2 ⊢
  have tk : lntook s1 1 b := ⟨fs, by unfold lthere; rw [n1]; rfl, fun k hk => by
    rw [m1 _ (by show 8 * 1 + k < 8 * 2; omega), if_pos ⟨by show (8 * 1 + k) / 8 = 1; omega, rfl⟩, show (8 * (1 : Int).toNat + k) % 8 = k by show (8 * 1 + k) % 8 = k; omega]⟩
  refine xsIf_f rfl (line_Took.c w2 (fun _ => ⟨_, rfl, xsIf_f rfl ?_⟩) fun h => absurd tk h)
  apply gabionlaw04_wakes.J5.ok
  refine pm_Device_Break.c w2 fun h3 w3 st3 => ?_
  have n1' : s1.nl = 2 := n1
  rw [if_pos (show (0 : Int) ≤ 0 ∧ (0 : Int) < (s1.nl : Int) by omega)] at w3
  have lv3 := st3.dom (st2.dom lv1)
  obtain ⟨s2, hs2⟩ : ∃ s2 : PmS, s2 = { s1 with bad := fset s1.bad (Int.toNat 0) true } := ⟨_, rfl⟩
  rw [← hs2] at w3
  have cl2 : Cl s2 := by rw [hs2]; exact ⟨cl1.off, cl1.fuse, cl1.buf, cl1.c0, cl1.c1⟩
  have ok2 : PmOk s2 := by rw [hs2]; exact ⟨ok1.media, ok1.buf⟩
  have n2 : s2.nl = 2 := by rw [hs2]; exact n1'
  have b2 : s2.bad 0 = true := by rw [hs2]; rfl
  have m2 : s2.media = s1.media := by rw [hs2]
  have g2 : lnget s2 ((1 : Nat) : Int) = (b, 0) := lnget_clean cl2 ok2 (by omega) fs fun k hk => by rw [m2]; exact tk.2.2 k hk
  refine line_Get.c w3 ok2 ⟨_, _, rfl, ?_⟩
  rw [show lnget s2 1 = (b, 0) from g2]
  have kk : s2.count = 10 := by rw [hs2]; exact k1
  obtain ⟨s3, e3, c3, n3, b3, k3, m3⟩ := lnput_clean (s := s2) (a := 0) cl2 (by omega) fs
  refine line_Put.c w3 lv3 fun h4 w4 st4 => ⟨_, rfl, ?_⟩
  rw [show lnput s2 0 b = (0, s3) from e3] at w4 ⊢
  have nt : ¬ lntook s3 0 b := fun t => by
    have h5 := t.2.2 0 (by omega)
    rw [show 8 * (0 : Int).toNat + 0 = 0 from rfl, m3 0 (by omega), if_neg (fun h => by rw [b2] at h; cases h.2), m2, m1 0 (by show 0 < 8 * 2; omega), if_neg (fun h => by omega)] at h5
    have h5 : (0 : Int) = ((wordAt b 0 : Nat) : Int) := h5
    omega
  refine xsIf_t rfl (line_Took.c w4 (fun t => absurd t nt) fun _ => ⟨_, rfl, xsIf_t rfl (xsIf_t rfl ?_)⟩)
  rw [decide_eq_true (show b = b from rfl)]
  refine hq h4 fun k o hk => ?_
  have hn0 : h k ≠ none := by rw [hk]; simp
  have hF : ¬ F k := fun hf => hn0 (fr k hf)
  have h1k := p1 k o hk
  have t := (st2.trans st3).trans st4
  rw [t.keep k hF (by rw [h1k]; simp)]; exact h1k

theorem gabionlaw04_LineNone.law (at0 : Int) (ha : IntKind.i64.min ≤ at0 ∧ at0 ≤ IntKind.i64.max) (k : Int) (hk : IntKind.i64.min ≤ k ∧ k ≤ IntKind.i64.max) (s : ByteArray) (hs : s.size ≤ 140737488351232) (h : Heap) :
    C Try.prog 7 #[.int .i64 at0, .int .i64 k, .string s] h fun v h' => v = .bool true ∧ Part h h' := by
  apply gabionlaw04_LineNone.ok
  refine pm_New.c (n := 2) (by omega) (by omega) fun d F h1 w1 fr lv1 p1 => ⟨_, _, rfl, line_Get.nil ⟨_, _, rfl, gabionlaw04_wakes.c fun h2 p2 => ⟨_, rfl, xsIf_f rfl (xsIf_f (by decide) (xsIf_f (by decide) (line_Put.nil ⟨_, rfl, xsIf_f (by decide)
    (line_PutWord.nil ⟨_, rfl, xsIf_f (by decide) (gabionlaw04_full.c (by show 0 ≤ _; omega) ⟨_, rfl, line_Took.nil ⟨_, rfl, xsIf_f rfl ?_⟩⟩)⟩)⟩)))⟩⟩⟩
  have w2 : PmD F h2 d (pnew 2) := w1.keep fun k _ hk => part_live p2 hk
  have lv2 := (Step.of_part (F := F) p2).dom lv1
  have P2 : Part h h2 := p1.trans p2
  apply gabionlaw04_LineNone.J5.ok
  have main : ¬ (0 ≤ at0 ∧ at0 < 2) → gabionlaw04_LineNone.J7 at0 k s (some ⟨d, 0, none⟩) h2 fun v h' => v = .bool true ∧ Part h h' := by
    intro hno
    apply gabionlaw04_LineNone.J7.ok
    have lt : lthere (pnew 2) at0 = 3 := by unfold lthere; exact if_neg hno
    have eg : lnget (pnew 2) at0 = (⟨#[]⟩, 3) := by unfold lnget; rw [lt]; rfl
    have nt : ∀ b, ¬ lntook (pnew 2) at0 b := fun b t => by have := t.2.1; rw [lt] at this; cases this
    refine line_Get.c w2 (PmOk.new 2) ⟨_, _, rfl, ?_⟩
    rw [eg]
    have ew : lnputw (pnew 2) at0 k 1 = ((if 0 ≤ k ∧ k < 8 then 3 else 2), pnew 2) := by
      unfold lnputw; rw [lt]; split <;> rfl
    have ep : ∀ b : ByteArray, b.size = 64 → lnput (pnew 2) at0 b = (3, pnew 2) := fun b hb => by unfold lnput; rw [if_pos hb, lt]; rfl
    refine line_PutWord.c w2 lv2 fun h3 w3 st3 => ⟨_, rfl, xsIf_t rfl (gabionlaw04_full.c hs ⟨_, rfl, ?_⟩)⟩
    rw [ew] at w3 ⊢
    have P3 : Part h h3 := st3.part P2 fun k hk hf => hk (fr k hf)
    refine line_Put.c w3 (st3.dom lv2) fun h4 w4 st4 => ⟨_, rfl, ?_⟩
    rw [ep _ (fullB_size s)] at w4 ⊢
    have P4 : Part h h4 := st4.part P3 fun k hk hf => hk (fr k hf)
    have fin : C Try.prog 35 #[.string ⟨#[]⟩] h4 fun (r : Value) (h' : Heap) => ∃ (x : ByteArray), r = .string x ∧ C Try.prog 34 #[.pointer (some ⟨d, 0, none⟩), .int .i64 at0, .string x] h' fun (r : Value) (h' : Heap) => ∃ (x : Bool), r = .bool x ∧ (Value.bool !x) = .bool true ∧ Part h h' :=
      gabionlaw04_full.c (by show 0 ≤ _; omega) ⟨_, rfl, line_Took.c w4 (fun t => absurd t (nt _)) fun _ => ⟨_, rfl, rfl, P4⟩⟩
    refine xsIf_t rfl ?_
    by_cases k0 : 0 ≤ k
    · by_cases k8 : k < 8
      · rw [if_pos ⟨k0, k8⟩]
        refine xsIf_f (decide_eq_false (by omega)) (xsIf_t ?_ (xsIf_t (decide_eq_true k0) (xsIf_t ?_ fin)))
        · rw [decide_eq_false (show ¬ 7 < k by omega)]; rfl
        · rw [decide_eq_true (show k ≤ 7 by omega)]; rfl
      · rw [if_neg (fun h => k8 h.2)]
        refine xsIf_f (decide_eq_false (by omega)) (xsIf_t ?_ (xsIf_t (decide_eq_true k0) (xsIf_t ?_ fin)))
        · rw [decide_eq_true (show 7 < k by omega)]; rfl
        · rw [decide_eq_false (show ¬ k ≤ 7 by omega)]; rfl
    · rw [if_neg (fun h => k0 h.1)]
      exact xsIf_t (decide_eq_true (by omega)) (xsIf_t rfl (xsIf_f (decide_eq_false k0) (xsIf_t rfl fin)))
  by_cases a0 : 0 ≤ at0
  · by_cases a2 : at0 < 2
    · exact xsIf_t (decide_eq_true a0) (xsIf_t (decide_eq_true a2) ⟨rfl, P2⟩)
    · exact xsIf_t (decide_eq_true a0) (xsIf_f (decide_eq_false a2) (main fun h => a2 h.2))
  · exact xsIf_f (decide_eq_false a0) (main fun h => a0 h.1)

/-- What a put costs. -/
theorem lnput_cost {s : PmS} {b : ByteArray} (cl : Cl s) (x : Int) (hb : b.size = 64) (hc : s.count < 10000) : ∃ f s', lnput s x b = (f, s') ∧ Cl s' ∧ s'.nl = s.nl ∧ ((f = 0 ∧ s'.count = s.count + 10) ∨ (f = 3 ∧ s'.count = s.count)) := by
  have c0 := cl.c0
  by_cases ht : lthere s x = 0
  · obtain ⟨n, rfl, hn⟩ := lthere_ok ht
    obtain ⟨s', e, c, n', _, k, _⟩ := lnput_clean cl hn hb
    exact ⟨0, s', e, c.of (by omega) (by omega), n', .inl ⟨rfl, k⟩⟩
  · refine ⟨3, s, ?_, cl, rfl, .inr ⟨rfl, rfl⟩⟩
    unfold lnput; rw [if_pos hb, if_neg ht]
theorem lnputw_cost {s : PmS} (cl : Cl s) (x k v : Int) (hc : s.count < 10000) : ∃ f s', lnputw s x k v = (f, s') ∧ Cl s' ∧ s'.nl = s.nl ∧ ((f = 0 ∧ s'.count = s.count + 3) ∨ ((f = 2 ∨ f = 3) ∧ s'.count = s.count)) := by
  have c0 := cl.c0
  by_cases hk : 0 ≤ k ∧ k < 8
  · by_cases ht : lthere s x = 0
    · obtain ⟨n, rfl, hn⟩ := lthere_ok ht
      obtain ⟨k, rfl⟩ : ∃ j : Nat, k = j := ⟨k.toNat, by omega⟩
      obtain ⟨s', e, c, n', _, k, _⟩ := lnputw_clean (v := v) cl hn (show k < 8 by omega)
      exact ⟨0, s', e, c.of (by omega) (by omega), n', .inl ⟨rfl, k⟩⟩
    · refine ⟨3, s, ?_, cl, rfl, .inr ⟨.inr rfl, rfl⟩⟩
      unfold lnputw; rw [if_pos hk, if_neg ht]
  · refine ⟨2, s, ?_, cl, rfl, .inr ⟨.inl rfl, rfl⟩⟩
    unfold lnputw; rw [if_neg hk]

theorem gabionlaw04_LineCosts.law (at0 : Int) (ha : IntKind.i64.min ≤ at0 ∧ at0 ≤ IntKind.i64.max) (k : Int) (hk : IntKind.i64.min ≤ k ∧ k ≤ IntKind.i64.max) (s : ByteArray) (hs : s.size ≤ 140737488351232) (h : Heap) :
    C Try.prog 9 #[.int .i64 at0, .int .i64 k, .string s] h fun v h' => v = .bool true ∧ Part h h' := by
  apply gabionlaw04_LineCosts.ok
  refine pm_New.c (n := 2) (by omega) (by omega) fun d F h1 w1 fr lv1 p1 => ⟨_, _, rfl, gabionlaw04_wakes.c fun h2 p2 => ⟨_, rfl, xsIf_f rfl (xsIf_f (by decide) (xsIf_f rfl ?_))⟩⟩
  have w2 : PmD F h2 d (pnew 2) := w1.keep fun k _ hk => part_live p2 hk
  have lv2 := (Step.of_part (F := F) p2).dom lv1
  have P2 : Part h h2 := p1.trans p2
  apply gabionlaw04_LineCosts.J4.ok
  intro b hb
  have fb : ¬ F b := fun hf => lv2 b hf hb
  have hfr : ∀ k, h k ≠ none → ¬ F k := fun k hk hf => hk (fr k hf)
  have hcell : ∀ i, i < 2 → ∃ x, (upd h2 b (Obj.cells #[.int .i64 at0, .int .i64 (irem (imax 0 at0) 2)] 3 (0, 0))).cell b (0 + i * 1) = some (.int .i64 x) := fun i hi => by
    rcases (show i = 0 ∨ i = 1 by omega) with rfl | rfl
    · exact ⟨at0, by simp [Heap.cell, upd_same]⟩
    · exact ⟨irem (imax 0 at0) 2, by simp [Heap.cell, upd_same]⟩
  have w3 : PmD F (upd h2 b (Obj.cells #[.int .i64 at0, .int .i64 (irem (imax 0 at0) 2)] 3 (0, 0))) d (pnew 2) := w2.keep fun k hk _ => upd_ne fun e => fb (e ▸ hk)
  have lv3 : Live F (upd h2 b (Obj.cells #[.int .i64 at0, .int .i64 (irem (imax 0 at0) 2)] 3 (0, 0))) := (Step.lost hb _).dom lv2
  have P3 : Part h (upd h2 b (Obj.cells #[.int .i64 at0, .int .i64 (irem (imax 0 at0) 2)] 3 (0, 0))) := fun k o hk => by
    rw [upd_ne (fun e => by have := P2 k o hk; rw [e, hb] at this; cases this)]; exact P2 k o hk
  have nb3 : (upd h2 b (Obj.cells #[.int .i64 at0, .int .i64 (irem (imax 0 at0) 2)] 3 (0, 0))) b ≠ none := by rw [upd_same]; simp
  generalize upd h2 b (Obj.cells #[.int .i64 at0, .int .i64 (irem (imax 0 at0) 2)] 3 (0, 0)) = h3 at hcell w3 lv3 P3 nb3
  have loop : ∀ (j i : Nat) (h' : Heap) (s' : PmS), i + j = 2 → PmD F h' d s' → Live F h' → Part h h' → h' b = h3 b → Cl s' → PmOk s' → s'.count ≤ 13 * i →
      gabionlaw04_LineCosts.L5 k s (some ⟨d, 0, none⟩) (some ⟨b, 0, none⟩) 2 2 2 (i : Int) h' fun v h' => v = .bool true ∧ Part h h' := by
    intro j
    induction j with
    | zero =>
      intro i h' s' hi w lv p eb cl ok hc
      apply gabionlaw04_LineCosts.L5.ok
      exact xsIf_f (decide_eq_false (by omega)) ⟨rfl, p⟩
    | succ j ih =>
      intro i h' s' hi w lv p eb cl ok hc
      apply gabionlaw04_LineCosts.L5.ok
      obtain ⟨x, hx⟩ := hcell i (by omega)
      have hx' : h'.cell b (0 + (i : Int).toNat * 1) = some (.int .i64 x) := by rw [cell_same eb, Int.toNat_natCast]; exact hx
      have c0 := cl.c0
      obtain ⟨f, s1, e1, cl1, n1, k1⟩ := lnput_cost cl x (fullB_size s) (by omega)
      have ok1 : PmOk s1 := by have := ok.put x (fullB s); rw [e1] at this; exact this
      obtain ⟨g, s2, e2, cl2, n2, k2⟩ := lnputw_cost cl1 x k 5 (by omega)
      have ok2 : PmOk s2 := by have := ok1.putw x k (v := 5) ⟨by omega, by omega⟩; rw [e2] at this; exact this
      refine xsIf_t (decide_eq_true (by omega)) ⟨by show 0 ≤ (i : Int) ∧ (i : Int) < 2; omega, b, 0, rfl, x, hx', pm_Device_Count.c w ⟨_, rfl, gabionlaw04_full.c hs ⟨_, rfl, line_Put.c w lv fun h4 w4 st4 => ⟨_, rfl, ?_⟩⟩⟩⟩
      rw [e1] at w4 ⊢
      refine pm_Device_Count.c w4 ⟨_, rfl, line_PutWord.c w4 (st4.dom lv) fun h5 w5 st5 => ⟨_, rfl, ?_⟩⟩
      dsimp only at w4 w5 ⊢
      rw [e2] at w5 ⊢
      have st := st4.trans st5
      refine pm_Device_Count.c w5 ⟨_, rfl, line_Get.c w5 ok2 ⟨_, _, rfl, ?_⟩⟩
      dsimp only
      have e3 : IntKind.i64.wrap (s'.count + 10) = s'.count + 10 := i64_in _ (by omega)
      have e4 : IntKind.i64.wrap (s1.count + 3) = s1.count + 3 := i64_in _ (by omega)
      rw [e3, e4]
      have nx : gabionlaw04_LineCosts.L5 k s (some ⟨d, 0, none⟩) (some ⟨b, 0, none⟩) 2 2 2 (IntKind.i64.wrap ((i : Int) + 1)) h5 fun v h' => v = .bool true ∧ Part h h' := by
        rw [show IntKind.i64.wrap ((i : Int) + 1) = ((i + 1 : Nat) : Int) by rw [i64_in _ (by omega)]; omega]
        exact ih (i + 1) h5 s2 (by omega) w5 (st.dom lv) (st.part p hfr) (by rw [st.keep b fb (by rw [eb]; exact nb3), eb]) cl2 ok2 (by omega)
      have fin : C Try.prog 27 #[.pointer (some ⟨d, 0, none⟩)] h5 fun (r : Value) (h' : Heap) => ∃ (x : Int), r = .int .i64 x ∧ xsIf (decide (x ≠ s2.count)) ((Value.bool false) = .bool true ∧ Part h h') (gabionlaw04_LineCosts.L5 k s (some ⟨d, 0, none⟩) (some ⟨b, 0, none⟩) 2 2 2 (IntKind.i64.wrap ((i : Int) + 1)) h' fun v h' => v = .bool true ∧ Part h h') :=
        pm_Device_Count.c w5 ⟨_, rfl, xsIf_f (decide_eq_false (fun h => h rfl)) nx⟩
      repeat' (first | exact fin | refine xsIf_intro (fun hh => ?_) (fun hh => ?_))
      all_goals
        exfalso
        simp only [decide_eq_true_eq, decide_eq_false_iff_not, ne_eq, Decidable.not_not] at *
        omega
  exact loop 2 0 h3 _ (by omega) w3 lv3 P3 rfl (Cl.new 2) (PmOk.new 2) (by show (0 : Int) ≤ _; omega)
end Go.Gb
namespace Go.Gb
open Go.Proofs IntWalk

/-! ## LinePlays -/

theorem sext_le (s : ByteArray) (r : Int) : (sext s 0 r).size ≤ r.toNat := by
  unfold sext; rw [ByteArray.size_extract]; omega

theorem PmOk.brk {s : PmS} (o : PmOk s) (f : Nat → Bool) : PmOk { s with bad := f } := o.of rfl rfl

/-- Both devices, of three lines. -/
structure Tri (h0 h : Heap) (F G : Nat → Prop) (d m : Nat) (s : PmS) : Prop where
  t : Two h0 h F G d m s
  nl : s.nl = 3
  ok : PmOk s

structure Act6 where
  a0 : Int
  a1 : Int
  a2 : Int
  a3 : Int
  s : ByteArray
  ka : Option Addr
  kc : Nat
  ks : List Bool
def Act6.row (x : Act6) : List Value := [.int .i64 x.a0, .int .i64 x.a1, .int .i64 x.a2, .int .u64 x.a3, .string x.s, .slice x.ka x.ks.length x.kc]
theorem Act6.row_length (x : Act6) : x.row.length = 6 := rfl

section
variable {h0 h : Heap} {F G : Nat → Prop} {d m : Nat} {s : PmS} {Q : Value → Heap → Prop} {a : Option Addr} {n cp : Nat} {N t : Int} {b : ByteArray}

theorem gabionlaw04_LinePlays.L35.c (i0 : Tri h0 h F G d m s) (hb : b.size ≤ 80) (hq : gabionlaw04_LinePlays.L6 (some ⟨d, 0, none⟩) (some ⟨m, 0, none⟩) a n cp N (IntKind.i64.wrap (t + 1)) h Q) :
    ∀ (j i : Nat), i + j = 3 → gabionlaw04_LinePlays.L35 (some ⟨d, 0, none⟩) (some ⟨m, 0, none⟩) b a n cp N t (i : Int) h Q := by
  have nl := i0.nl
  intro j
  induction j with
  | zero =>
    intro i hi
    apply gabionlaw04_LinePlays.L35.ok
    exact xsIf_f (decide_eq_false (by omega)) hq
  | succ j ih =>
    intro i hi
    apply gabionlaw04_LinePlays.L35.ok
    have hn : i < s.nl := by omega
    have hv : ∀ k, (s.media (8 * i + k)).toNat < 18446744073709551616 ∧ s.media (8 * i + k) = (((s.media (8 * i + k)).toNat : Nat) : Int) := fun k => by
      have := i0.ok.media (8 * i + k); unfold R64 at this; omega
    have lt : lthere s (i : Int) = 0 := by unfold lthere; exact if_pos (by omega)
    have wx : ∀ k, k < 8 → wordAt (lnbytes fun k => (s.media (8 * i + k)).toNat) k = (s.media (8 * i + k)).toNat := fun k hk => wordAt_text hk (hv k).1
    have t1 : lntook s (i : Int) (lnbytes fun k => (s.media (8 * i + k)).toNat) := ⟨lnbytes_size _, lt, fun k hk => by rw [Int.toNat_natCast, wx k hk]; exact (hv k).2⟩
    have fb := fullB_size b
    have nx : gabionlaw04_LinePlays.L35 (some ⟨d, 0, none⟩) (some ⟨m, 0, none⟩) b a n cp N t (IntKind.i64.wrap ((i : Int) + 1)) h Q := by
      rw [show IntKind.i64.wrap ((i : Int) + 1) = ((i + 1 : Nat) : Int) by rw [i64_in _ (by omega)]; omega]
      exact ih (i + 1) (by omega)
    refine xsIf_t (decide_eq_true (by omega)) (gabionref04_Media.c i0.t.m i0.ok hn ⟨_, rfl, line_Took.c i0.t.d (fun _ => ⟨_, rfl, xsIf_f rfl (gabionlaw04_full.c (by omega) ⟨_, rfl, line_Took.c i0.t.d (fun t2 => ⟨_, rfl, gabionlaw04_full.c (by omega) ⟨_, rfl, xsIf_f ?_ nx⟩⟩) fun t2 => ⟨_, rfl, gabionlaw04_full.c (by omega) ⟨_, rfl, xsIf_f ?_ nx⟩⟩⟩)⟩) fun hn => absurd t1 hn⟩)
    · have : lnbytes (fun k => (s.media (8 * i + k)).toNat) = fullB b := bytes_word_eq (lnbytes_size _) fb fun k hk => by
        rw [wx k hk]
        have h1 := t2.2.2 k hk
        rw [Int.toNat_natCast] at h1
        have h2 := (hv k).2
        omega
      rw [decide_eq_true this]; rfl
    · have : ¬ lnbytes (fun k => (s.media (8 * i + k)).toNat) = fullB b := fun e => t2 (by rw [← e]; exact t1)
      rw [decide_eq_false this]; rfl

theorem gabionlaw04_LinePlays.J32.c (i0 : Tri h0 h F G d m s) (hb : b.size ≤ 80) (hq : gabionlaw04_LinePlays.L6 (some ⟨d, 0, none⟩) (some ⟨m, 0, none⟩) a n cp N (IntKind.i64.wrap (t + 1)) h Q) :
    gabionlaw04_LinePlays.J32 (some ⟨d, 0, none⟩) (some ⟨m, 0, none⟩) b true a n cp N t h Q := by
  apply gabionlaw04_LinePlays.J32.ok
  have j34 : gabionlaw04_LinePlays.J34 (some ⟨d, 0, none⟩) (some ⟨m, 0, none⟩) b a n cp N t h Q := by
    apply gabionlaw04_LinePlays.J34.ok
    exact gabionlaw04_LinePlays.L35.c i0 hb hq 3 0 (by omega)
  obtain ⟨wb, rb, bb, q, w⟩ := i0.t.m
  have ne : ∀ {x : Int}, decide (x ≠ x) = false := decide_eq_false (fun h => h rfl)
  exact xsIf_f rfl ⟨m, 0, rfl, pm_Device_Count.c i0.t.d ⟨_, rfl, _, w.c5, xsIf_f ne j34⟩, _, w.c5, pm_Device_Count.c i0.t.d ⟨_, rfl, xsIf_f ne j34⟩⟩

theorem plays6 {x : Act6} {t : Int} (i0 : Tri h0 h F G d m s) (h1 : x.a2 < 9223372036854775808) (h3 : R64 x.a3) (hr : readsAt h0 x.ka (x.ks.map Value.bool)) (hkc : x.ks.length ≤ x.kc) (ht : 0 ≤ t ∧ t < N) (hn : t < n)
    (hc : ∀ K, (∀ b o, h.cell b (o + t.toNat * 6) = some (.int .i64 x.a0) → h.cell b (o + t.toNat * 6 + 1) = some (.int .i64 x.a1) → h.cell b (o + t.toNat * 6 + 1 + 1) = some (.int .i64 x.a2) → h.cell b (o + t.toNat * 6 + 1 + 1 + 1) = some (.int .u64 x.a3) →
      h.cell b (o + t.toNat * 6 + 1 + 1 + 1 + 1) = some (.string x.s) → h.cell b (o + t.toNat * 6 + 1 + 1 + 1 + 1 + 1) = some (.slice x.ka x.ks.length x.kc) → K b o) → atBase a K)
    (hq : ∀ h' s', Tri h0 h' F G d m s' → gabionlaw04_LinePlays.L6 (some ⟨d, 0, none⟩) (some ⟨m, 0, none⟩) a n cp N (IntKind.i64.wrap (t + 1)) h' Q) :
    gabionlaw04_LinePlays.L6 (some ⟨d, 0, none⟩) (some ⟨m, 0, none⟩) a n cp N t h Q := by
  apply gabionlaw04_LinePlays.L6.ok
  refine xsIf_t (decide_eq_true ht.2) ⟨⟨ht.1, hn⟩, hc _ fun b o k0 k1 k2 k3 k4 k5 => ⟨_, k0, _, k1, _, k2, _, k3, _, k4, _, _, _, k5, by rw [imin_eq]; omega, ?_⟩⟩
  have hb : (sext x.s 0 (imin (x.s.size : Int) 80)).size ≤ 80 := by
    have := sext_le x.s (imin (x.s.size : Int) 80)
    rw [imin_eq] at this ⊢
    omega
  generalize sext x.s 0 (imin (x.s.size : Int) 80) = S at hb
  have nx : ∀ h' s', Tri h0 h' F G d m s' → gabionlaw04_LinePlays.J32 (some ⟨d, 0, none⟩) (some ⟨m, 0, none⟩) S true a n cp N t h' Q := fun h' s' i' => gabionlaw04_LinePlays.J32.c i' hb (hq h' s' i')
  have same1 : ∀ {x : Int}, decide (x = x) = true := decide_eq_true rfl
  have i1 := i0.t
  have put : ∀ {B : ByteArray} {K : Int → Int → Heap → Prop}, (∀ f h' s', Tri h0 h' F G d m s' → K f f h') → C Try.prog 32 #[.pointer (some ⟨d, 0, none⟩), .int .i64 x.a1, .string B] h fun r h' => ∃ y : Int, r = .int .i64 y ∧ C Try.prog 38 #[.pointer (some ⟨m, 0, none⟩), .int .i64 x.a1, .string B] h' fun r h' => ∃ z : Int, r = .int .i64 z ∧ K y z h' :=
    fun {B K} hK => line_Put.c i1.d i1.lf fun h1 w1 st1 => ⟨_, rfl, gabionref04_Put.c (i1.m.keep (st1.same i1.ap)) (st1.alive i1.lg) fun h2 w2 st2 => ⟨_, rfl, hK _ h2 _ ⟨i1.next w1 st1 w2 st2, by rw [lnput_nl]; exact i0.nl, i0.ok.put _ _⟩⟩⟩
  refine xsIf_intro (fun _ => ?_) fun _ => xsIf_intro (fun _ => ?_) fun _ => xsIf_intro (fun _ => ?_) fun _ => xsIf_intro (fun _ => ?_) fun _ => xsIf_intro (fun _ => ?_) fun _ => xsIf_intro (fun _ => ?_) fun _ => xsIf_intro (fun _ => ?_) fun _ => nx h s i0
  · refine gabionlaw04_full.c (by omega) ⟨_, rfl, line_Put.c i1.d i1.lf fun h1 w1 st1 => ⟨_, rfl, gabionlaw04_full.c (by omega) ⟨_, rfl, gabionref04_Put.c (i1.m.keep (st1.same i1.ap)) (st1.alive i1.lg) fun h2 w2 st2 => ⟨_, rfl, ?_⟩⟩⟩⟩
    rw [same1]
    exact nx h2 _ ⟨i1.next w1 st1 w2 st2, by rw [lnput_nl]; exact i0.nl, i0.ok.put _ _⟩
  · exact put fun f h' s' i' => by rw [same1]; exact nx h' s' i'
  · refine line_PutWord.c i1.d i1.lf fun h1 w1 st1 => ⟨_, rfl, gabionref04_PutWord.c (i1.m.keep (st1.same i1.ap)) (st1.alive i1.lg) fun h2 w2 st2 => ⟨_, rfl, ?_⟩⟩
    rw [same1]
    exact nx h2 _ ⟨i1.next w1 st1 w2 st2, by rw [lnputw_nl]; exact i0.nl, i0.ok.putw _ _ h3⟩
  · refine line_Get.c i1.d i0.ok ⟨_, _, rfl, gabionref04_Get.c i1.m i0.ok ⟨_, _, rfl, xsIf_t (decide_eq_true rfl) ?_⟩⟩
    rw [same1]
    exact nx h s i0
  · refine pm_Device_Break.c i1.d fun h1 w1 st1 => ?_
    have wm := i1.m.keep (st1.same i1.ap)
    by_cases g0 : 0 ≤ x.a1
    · refine xsIf_t (decide_eq_true g0) ?_
      obtain ⟨wb, rb, bb, q, w⟩ := wm
      have nl := i0.nl
      by_cases g1 : x.a1 < 3
      · have g2 : x.a1 < (s.nl : Int) := by omega
        refine xsIf_t (decide_eq_true g1) ⟨m, 0, rfl, _, _, _, w.c2, ⟨g0, g2⟩, bb, 0, rfl, w.hb.can (by simp; omega), ?_⟩
        rw [if_pos ⟨g0, g2⟩] at w1
        refine nx _ _ ⟨i1.next w1 st1 (h2 := h1.put bb (0 + x.a1.toNat * 1) [.bool true]) ?_ (Step.put w.fb _ _), nl, i0.ok.brk _⟩
        have hk : ∀ k, k ≠ bb → h1.put bb (0 + x.a1.toNat * 1) [.bool true] k = h1 k := fun k hk => put_other h1 _ _ hk
        have ne := w.ne
        refine ⟨wb, rb, bb, q, w.lo, w.hi, w.fm, w.fw, w.fr, w.fb, ne, w.hm.keep (hk _ ne.2.2.1), w.hw.keep (hk _ ne.2.2.2.2.1), w.hr.keep (hk _ ne.2.2.2.2.2), ?_, w.rel, w.f0, w.f1⟩
        exact w.hb.bset
      · refine xsIf_f (decide_eq_false g1) ?_
        rw [if_neg (fun h => by omega)] at w1
        exact nx _ _ ⟨i1.next w1 st1 ⟨wb, rb, bb, q, w⟩ (Step.refl _ _), nl, i0.ok⟩
    · refine xsIf_f (decide_eq_false g0) ?_
      rw [if_neg (fun h => g0 h.1)] at w1
      exact nx _ _ ⟨i1.next w1 st1 wm (Step.refl _ _), i0.nl, i0.ok⟩
  · refine pm_Device_Fuse.c i1.d h1 fun h1 w1 st1 => ?_
    obtain ⟨wb, rb, bb, q, w⟩ := i1.m.keep (st1.same i1.ap)
    have b1 := w.hm.put (0 + 3) [.int .i64 (imax x.a2 0)]
    refine ⟨m, 0, rfl, w.hm.can (by simp), ?_⟩
    have w2 := w.own (f := imax x.a2 0) (o := s.off) (n := s.count) b1 (fun k hk => put_other _ _ _ hk) (by rw [imax_eq]; omega) (by rw [imax_eq]; omega)
    exact nx _ _ ⟨i1.next w1 st1 ⟨wb, rb, bb, q, w2⟩ (Step.put w.fm _ _), i0.nl, i0.ok.of rfl rfl⟩
  · have hm : imin (x.ks.length : Int) 30 = ((min x.ks.length 30 : Nat) : Int) := by rw [imin_eq]; omega
    rw [hm, slBase0, show (((min x.ks.length 30 : Nat) : Int) - 0).toNat = (x.ks.take 30).length by rw [List.length_take]; omega]
    exact ⟨by omega, pm_Device_Boot.c i1.d i1.lf (bools_at (readsAt_part hr i1.p)) fun h1 w1 st1 => gabionref03_Boot.c (i1.m.keep (st1.same i1.ap)) (st1.alive i1.lg) (bools_at (readsAt_part hr (st1.part i1.p i1.ff))) fun h2 w2 st2 => nx h2 _ ⟨i1.next w1 st1 w2 st2, i0.nl, i0.ok.boot _⟩⟩
end

set_option maxRecDepth 100000 in
theorem gabionlaw04_LinePlays.law (v : Value) (h : Heap) (hv : Okc Try.prog h 8 69 [v]) :
    C Try.prog 10 #[v] h fun v h' => v = .bool true ∧ Part h h' := by
  obtain ⟨a, n, c, dss, rfl, hnc, hcm, hl, hb, hr⟩ := okc_slice (e := 71) (sz := 6) (by kernel_rfl) (by kernel_rfl) (by omega) hv
  obtain ⟨acts, rfl, hacts⟩ := typed (f := Act6.row) (p := fun x => x.a2 < 9223372036854775808 ∧ R64 x.a3 ∧ readsAt h x.ka (x.ks.map Value.bool) ∧ x.ks.length ≤ x.kc) dss (fun ds hds => by
    obtain ⟨h1, h2⟩ := hb ds hds
    obtain ⟨e1, e2⟩ := okc_each (d := 2) 5 71 [3, 3, 3, 22, 9, 25] ds (by kernel_rfl) h2 (by rw [h1]; rfl)
    match ds, h1 with
    | [p, q, r, s, u, v], _ =>
      obtain ⟨x0, rfl, -⟩ := okc_int (k := .i64) (by kernel_rfl) (e2 0 _ _ rfl rfl)
      obtain ⟨x1, rfl, -⟩ := okc_int (k := .i64) (by kernel_rfl) (e2 1 _ _ rfl rfl)
      obtain ⟨x2, rfl, h3⟩ := okc_int (k := .i64) (by kernel_rfl) (e2 2 _ _ rfl rfl)
      obtain ⟨x3, rfl, h7⟩ := okc_int (k := .u64) (by kernel_rfl) (e2 3 _ _ rfl rfl)
      obtain ⟨x4, rfl, -⟩ := okc_str (by kernel_rfl) (e2 4 _ _ rfl rfl)
      obtain ⟨ka, kn, kc, ks, rfl, h4, h5, rfl, h6⟩ := okc_bools (d := 0) (e := 4) (by kernel_rfl) (by kernel_rfl) (by kernel_rfl) (e2 5 _ _ rfl rfl)
      have h3 : x2 ≤ 9223372036854775807 := h3.2
      have h70 : 0 ≤ x3 := h7.1
      have h71 : x3 ≤ 18446744073709551615 := h7.2
      exact ⟨⟨x0, x1, x2, x3, x4, ka, kc, ks⟩, rfl, by show x2 < 9223372036854775808; omega, ⟨h70, by show x3 < _; omega⟩, h6, h4⟩)
  rw [List.length_map] at hl
  rw [← List.flatMap_def] at hr
  apply gabionlaw04_LinePlays.ok
  refine pm_New.c (n := 3) (by omega) (by omega) fun d F h1 w1 fr1 lv1 p1 => ⟨_, _, rfl, gabionref03_New.c (n := 3) (by omega) (by omega) fun m G h2 w2 fr2 lv2 p2 => ⟨_, rfl, gabionlaw04_wakes.c fun h3 p3 => ⟨_, rfl, xsIf_f rfl (xsIf_f (by decide) (xsIf_f rfl ?_))⟩⟩⟩
  have i3 : Tri h h3 F G d m (pnew 3) := ⟨(Two.start w1 fr1 lv1 p1 w2 fr2 lv2 p2).part p3, rfl, PmOk.new 3⟩
  apply gabionlaw04_LinePlays.J5.ok
  unfold gabionlaw04_LinePlays.J5.wp
  have hmn : imin (n : Int) 40 = ((min n 40 : Nat) : Int) := by rw [imin_eq]; omega
  rw [hmn, slBase0]
  refine ⟨by omega, ?_⟩
  have e1 : (((min n 40 : Nat) : Int) - 0).toNat = min n 40 := by omega
  rw [e1]
  have loop : ∀ (jj j : Nat) (h' : Heap) (s : PmS), j + jj = min n 40 → Tri h h' F G d m s →
      gabionlaw04_LinePlays.L6 (some ⟨d, 0, none⟩) (some ⟨m, 0, none⟩) a (min n 40) ((c : Int) - 0).toNat ((min n 40 : Nat) : Int) j h' fun v h' => v = .bool true ∧ Part h h' := by
    intro jj
    induction jj with
    | zero =>
      intro j h' s hj i
      apply gabionlaw04_LinePlays.L6.ok
      exact xsIf_f (decide_eq_false (by omega)) ⟨rfl, i.t.p⟩
    | succ jj ih =>
      intro j h' s hj i
      have hjl : j < acts.length := by omega
      have hg : acts[j]? = some acts[j] := List.getElem?_eq_getElem hjl
      obtain ⟨ha1, ha2, ha3, ha4⟩ := hacts _ (List.getElem_mem hjl)
      refine plays6 (x := acts[j]) i ha1 ha2 ha3 ha4 (by omega) (by omega) (fun K hK => ?_) fun h2 s2 i2 => ?_
      · refine reads_base (readsAt_part hr i.t.p) (by rw [flat_length Act6.row_length]; omega) fun b o hcell => ?_
        have key : ∀ q, q < 6 → h'.cell b (o + (j * 6 + q)) = (acts[j].row)[q]? := fun q hq => by
          have := hcell (j * 6 + q) (by rw [flat_length Act6.row_length]; omega)
          rw [Nat.mul_one, flat_get Act6.row_length acts j q _ hg hq] at this
          exact this
        refine hK b o ?_ ?_ ?_ ?_ ?_ ?_
        · rw [Int.toNat_natCast]; exact key 0 (by omega)
        · rw [Int.toNat_natCast]; exact key 1 (by omega)
        · rw [Int.toNat_natCast]; exact key 2 (by omega)
        · rw [Int.toNat_natCast]; exact key 3 (by omega)
        · rw [Int.toNat_natCast]; exact key 4 (by omega)
        · rw [Int.toNat_natCast]; exact key 5 (by omega)
      · rw [show IntKind.i64.wrap ((j : Int) + 1) = ((j + 1 : Nat) : Int) by rw [i64_in _ (by omega)]; omega]
        exact ih (j + 1) h2 s2 (by omega) i2
  exact loop (min n 40) 0 h3 _ (by omega) i3
end Go.Gb
