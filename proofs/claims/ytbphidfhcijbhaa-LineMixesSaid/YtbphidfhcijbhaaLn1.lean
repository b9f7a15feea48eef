/- Own text for the seat: Ln1. -/
import Derived.Test.YtbphidfhcijbhaaLn0
set_option linter.unusedVariables false
set_option linter.unusedSimpArgs false
set_option linter.unnecessarySimpa false
set_option linter.deprecated false
namespace Go.Gb
open Go.Proofs IntWalk

/-! ## line: there, last, Put, PutWord, Get, Took -/

theorem row8_get {f : Nat → Int} {k : Nat} (hk : k < 8) : lget [.int .u64 (f 0), .int .u64 (f 1), .int .u64 (f 2), .int .u64 (f 3), .int .u64 (f 4), .int .u64 (f 5), .int .u64 (f 6), .int .u64 (f 7)] ((k : Int).toNat * 1) = some (.int .u64 (f k)) := by
  rw [show (k : Int).toNat * 1 = k by omega]
  match k, hk with
  | 0, _ => rfl
  | 1, _ => rfl
  | 2, _ => rfl
  | 3, _ => rfl
  | 4, _ => rfl
  | 5, _ => rfl
  | 6, _ => rfl
  | 7, _ => rfl

theorem le_Words.c2 {s : ByteArray} {h : Heap} {Q : Value → Heap → Prop} (hq : ∀ f : Nat → Int, (s.size = 64 → f = fun k => ((wordAt s k : Nat) : Int)) →
    Q (.tuple #[.agg #[.int .u64 (f 0), .int .u64 (f 1), .int .u64 (f 2), .int .u64 (f 3), .int .u64 (f 4), .int .u64 (f 5), .int .u64 (f 6), .int .u64 (f 7)], .int .i64 (if s.size = 64 then 0 else 2)]) h) : C Try.prog 63 #[.string s] h Q := by
  refine le_Words.c (fun h1 => ?_) (fun h1 => ?_)
  · have := hq (fun k => ((wordAt s k : Nat) : Int)) (fun _ => rfl)
    rw [if_pos h1] at this; exact this
  · have := hq (fun _ => 0) (fun h => absurd h h1)
    rw [if_neg h1] at this; exact this

section
variable {F : Nat → Prop} {h : Heap} {d : Nat} {s : PmS} {Q : Value → Heap → Prop}

theorem line_there.c {a : Int} (w : PmD F h d s) (hq : Q (.int .i64 (lthere s a)) h) : C Try.prog 61 #[.pointer (some ⟨d, 0, none⟩), .int .i64 a] h Q := by
  apply line_there.ok
  unfold lthere at hq
  refine xsIf_f rfl (xsIf_intro (fun h1 => ?_) fun h1 => pm_Device_Lines.c w ⟨_, rfl, xsIf_intro (fun h2 => ?_) fun h2 => ?_⟩)
  · have h1 := of_decide_eq_true h1
    rw [if_neg (by omega)] at hq; exact hq
  · have h2 := of_decide_eq_true h2
    rw [if_neg (by omega)] at hq; exact hq
  · have h1 := of_decide_eq_false h1
    have h2 := of_decide_eq_false h2
    rw [if_pos (by omega)] at hq; exact hq

theorem line_last.c {a : Int} (w : PmD F h d s) (lv : Live F h) (hq : ∀ h', PmD F h' d (llast s a).2 → Step F h F h' → Q (.int .i64 (llast s a).1) h') : C Try.prog 64 #[.pointer (some ⟨d, 0, none⟩), .int .i64 a] h Q := by
  apply line_last.ok
  unfold llast at hq
  refine pm_Device_Flush.c w fun h1 w1 st1 => ⟨_, rfl, xsIf_intro (fun e => ?_) fun e => ?_⟩
  · have e := of_decide_eq_true e
    rw [if_neg e] at hq
    exact hq h1 w1 st1
  · have e : (pflush s a).1 = 0 := by simpa using e
    rw [if_pos e] at hq
    exact pm_Device_Fence.c w1 (st1.dom lv) fun h2 w2 st2 => ⟨_, rfl, hq h2 w2 (st1.trans st2)⟩

theorem PmD.bnd (w : PmD F h d s) : s.nl ≤ 8192 := by obtain ⟨_, _, _, _, _, _, w⟩ := w; exact w.hi

theorem line_Put.L10.c {a : Nat} {f : Nat → Nat} : ∀ (j k : Nat) (h : Heap) (s : PmS), k + j = 8 → a < s.nl → PmD F h d s → Live F h →
    (∀ h', PmD F h' d (lstores a f j k s).2 → Step F h F h' → Q (.int .i64 (lstores a f j k s).1) h') →
    line_Put.L10 (some ⟨d, 0, none⟩) (a : Int) (f 0 : Nat) (f 1 : Nat) (f 2 : Nat) (f 3 : Nat) (f 4 : Nat) (f 5 : Nat) (f 6 : Nat) (f 7 : Nat) (k : Int) h Q := by
  intro j
  induction j with
  | zero =>
    intro k h s hk ha w lv hq
    apply line_Put.L10.ok
    refine xsIf_f (decide_eq_false (by omega)) (line_last.c w lv fun h' w' st => ⟨_, rfl, hq h' w' st⟩)
  | succ j ih =>
    intro k h s hk ha w lv hq
    apply line_Put.L10.ok
    unfold line_Put.L10.wp
    have hi := w.bnd
    have e1 : IntKind.i64.wrap (IntKind.i64.wrap ((a : Int) * 8) + k) = ((8 * a + k : Nat) : Int) := by rw [i64_in ((a : Int) * 8) (by omega), i64_in _ (by omega)]; omega
    have e2 : IntKind.i64.wrap ((k : Int) + 1) = ((k + 1 : Nat) : Int) := by rw [i64_in _ (by omega)]; omega
    rw [e1, e2]
    refine xsIf_t (decide_eq_true (by omega)) ⟨by omega, ((f k : Nat) : Int), row8_get (f := fun k => ((f k : Nat) : Int)) (by omega), pm_Device_Store.c w fun h1 w1 st1 => ⟨_, rfl, ?_⟩⟩
    unfold lstores at hq
    refine xsIf_intro (fun e => ?_) fun e => ?_
    · have e := of_decide_eq_true e
      rw [if_neg e] at hq
      exact hq h1 w1 st1
    · have e : (pstore s ((8 * a + k : Nat) : Int) (f k : Nat)).1 = 0 := by simpa using e
      rw [if_pos e] at hq
      exact ih (k + 1) h1 _ (by omega) (by rw [pstore_nl]; exact ha) w1 (st1.dom lv) fun h' w' st => hq h' w' (st1.trans st)

theorem lthere_ok {a : Int} (h : lthere s a = 0) : ∃ n : Nat, a = n ∧ n < s.nl := by
  unfold lthere at h
  split at h
  · rename_i h1; exact ⟨a.toNat, by omega, by omega⟩
  · cases h
theorem lthere_no {a : Int} (h : lthere s a ≠ 0) : lthere s a = 3 := by
  unfold lthere at h ⊢
  split at h
  · exact absurd rfl h
  · rename_i h1; rw [if_neg h1]

theorem line_Put.c {a : Int} {b : ByteArray} (w : PmD F h d s) (lv : Live F h) (hq : ∀ h', PmD F h' d (lnput s a b).2 → Step F h F h' → Q (.int .i64 (lnput s a b).1) h') :
    C Try.prog 32 #[.pointer (some ⟨d, 0, none⟩), .int .i64 a, .string b] h Q := by
  apply line_Put.ok
  refine le_Words.c2 fun f hf => ⟨_, _, _, _, _, _, _, _, _, rfl, line_there.c w ⟨_, rfl, ?_⟩⟩
  unfold lnput at hq
  by_cases hb : b.size = 64
  · rw [if_pos hb] at hq ⊢
    obtain rfl := hf hb
    by_cases ht : lthere s a = 0
    · rw [if_pos ht] at hq
      rw [ht]
      obtain ⟨n, rfl, hn⟩ := lthere_ok ht
      exact xsIf_f (by decide) (xsIf_f (by decide) (xsIf_f (by decide) (line_Put.L10.c (f := wordAt b) 8 0 h s (by omega) hn w lv hq)))
    · rw [if_neg ht] at hq
      rw [lthere_no ht]
      exact xsIf_f (by decide) (xsIf_f (by decide) (xsIf_t (by decide) (hq h w (Step.refl _ _))))
  · rw [if_neg hb] at hq ⊢
    by_cases ht : lthere s a = 0
    · rw [ht]
      exact xsIf_f (by decide) (xsIf_t (by decide) (hq h w (Step.refl _ _)))
    · rw [lthere_no ht]
      exact xsIf_f (by decide) (xsIf_t (by decide) (hq h w (Step.refl _ _)))

theorem line_PutWord.c {a k v : Int} (w : PmD F h d s) (lv : Live F h) (hq : ∀ h', PmD F h' d (lnputw s a k v).2 → Step F h F h' → Q (.int .i64 (lnputw s a k v).1) h') :
    C Try.prog 33 #[.pointer (some ⟨d, 0, none⟩), .int .i64 a, .int .i64 k, .int .u64 v] h Q := by
  apply line_PutWord.ok
  have hi := w.bnd
  refine line_there.c w ⟨_, rfl, ?_⟩
  unfold lnputw at hq
  have n1 : decide (lthere s a = 1) = false := by
    by_cases ht : lthere s a = 0
    · rw [ht]; rfl
    · rw [lthere_no ht]; rfl
  refine xsIf_f n1 (xsIf_intro (fun h1 => ?_) fun h1 => xsIf_intro (fun h2 => ?_) fun h2 => xsIf_intro (fun h3 => ?_) fun h3 => ?_)
  · have h1 := of_decide_eq_true h1
    rw [if_neg (by omega)] at hq; exact hq h w (Step.refl _ _)
  · have h2 := of_decide_eq_true h2
    rw [if_neg (by omega)] at hq; exact hq h w (Step.refl _ _)
  · have h1 := of_decide_eq_false h1
    have h2 := of_decide_eq_false h2
    have h3 : ¬ lthere s a = 0 := by simpa using h3
    rw [if_pos (by omega), if_neg h3] at hq
    rw [lthere_no h3]; exact hq h w (Step.refl _ _)
  · have h1 := of_decide_eq_false h1
    have h2 := of_decide_eq_false h2
    have h3 : lthere s a = 0 := by simpa using h3
    rw [if_pos (by omega), if_pos h3] at hq
    obtain ⟨n, rfl, hn⟩ := lthere_ok h3
    have e1 : IntKind.i64.wrap (IntKind.i64.wrap ((n : Int) * 8) + k) = 8 * (n : Int) + k := by rw [i64_in ((n : Int) * 8) (by omega), i64_in _ (by omega)]; omega
    rw [e1]
    refine pm_Device_Store.c w fun h1 w1 st1 => ⟨_, rfl, xsIf_intro (fun e => ?_) fun e => ?_⟩
    · have e := of_decide_eq_true e
      rw [if_neg e] at hq
      exact hq h1 w1 st1
    · have e : (pstore s (8 * (n : Int) + k) v).1 = 0 := by simpa using e
      rw [if_pos e] at hq
      exact line_last.c w1 (st1.dom lv) fun h' w' st => ⟨_, rfl, hq h' w' (st1.trans st)⟩

theorem pload_off {k : Int} (h : s.off = true) : pload s k = (0, 6) := by
  unfold pload pready; rw [h]; rfl
theorem pload_on {k : Nat} (h : s.off = false) (hk : k < 8 * s.nl) : pload s (k : Int) = (pval s k, 0) := by
  have e : pready s (k : Int) ((8 * s.nl : Nat) : Int) = 0 := by unfold pready; rw [h, if_neg (by simp)]; exact if_pos (by omega)
  unfold pload pval; rw [if_pos e, Int.toNat_natCast]; cases s.buf k <;> rfl

theorem line_Get.L6.c {a : Nat} (w : PmD F h d s) (ok : PmOk s) (ho : s.off = false) (ha : a < s.nl) (hq : Q (.tuple #[.string (lnbytes fun k => (pval s (8 * a + k)).toNat), .int .i64 0]) h) : ∀ (j k : Nat), k + j = 8 →
    line_Get.L6 (some ⟨d, 0, none⟩) (a : Int) (k : Int) (rowU 8 fun i => if i < k then pval s (8 * a + i) else 0) h Q := by
  have hi := w.bnd
  intro j
  induction j with
  | zero =>
    intro k hk
    apply line_Get.L6.ok
    have : k = 8 := by omega
    subst this
    have g : ∀ i, i < 8 → lget (rowU 8 fun i => if i < 8 then pval s (8 * a + i) else 0) i = some (.int .u64 ((pval s (8 * a + i)).toNat : Nat)) := fun i hi => by
      have hv := (ok.val (8 * a + i)).1
      have e : (((pval s (8 * a + i)).toNat : Nat) : Int) = pval s (8 * a + i) := by omega
      rw [e]
      have := row_get (n := 8) (fun i => Value.int .u64 (if i < 8 then pval s (8 * a + i) else 0)) hi
      rw [if_pos hi] at this; exact this
    have lt : ∀ i, (pval s (8 * a + i)).toNat < 18446744073709551616 := fun i => by have := ok.val (8 * a + i); unfold R64 at this; omega
    refine xsIf_f (decide_eq_false (by omega)) ⟨by simp, _, g 0 (by omega), _, g 1 (by omega), _, g 2 (by omega), _, g 3 (by omega), _, g 4 (by omega), _, g 5 (by omega), _, g 6 (by omega), _, g 7 (by omega), ?_⟩
    refine le_Text.c (lt 0) (lt 1) (lt 2) (lt 3) (lt 4) (lt 5) (lt 6) (lt 7) ⟨_, rfl, ?_⟩
    unfold lnbytes at hq
    rw [textN_eight] at hq
    exact hq
  | succ j ih =>
    intro k hk
    apply line_Get.L6.ok
    unfold line_Get.L6.wp
    have e1 : IntKind.i64.wrap (IntKind.i64.wrap ((a : Int) * 8) + k) = ((8 * a + k : Nat) : Int) := by rw [i64_in ((a : Int) * 8) (by omega), i64_in _ (by omega)]; omega
    have e2 : IntKind.i64.wrap ((k : Int) + 1) = ((k + 1 : Nat) : Int) := by rw [i64_in _ (by omega)]; omega
    rw [e1, e2]
    refine xsIf_t (decide_eq_true (by omega)) (pm_Device_Load.c w ⟨_, _, rfl, ?_⟩)
    rw [pload_on ho (by omega)]
    refine xsIf_f rfl ⟨by omega, by simp; omega, ?_⟩
    have et : 0 + (k : Int).toNat * 1 = k := by omega
    have : lput (rowU 8 fun i => if i < k then pval s (8 * a + i) else 0) k [.int .u64 (pval s (8 * a + k))] = rowU 8 fun i => if i < k + 1 then pval s (8 * a + i) else 0 := by
      show (rowU 8 _).set k _ = _
      rw [row_set (fun x : Int => Value.int .u64 x)]
      apply List.map_congr_left
      intro i _
      congr 1
      unfold fset
      dsimp only
      by_cases e : i = k
      · rw [if_pos e, if_pos (by omega), e]
      · rw [if_neg e]
        by_cases e2 : i < k
        · rw [if_pos e2, if_pos (by omega)]
        · rw [if_neg e2, if_neg (by omega)]
    rw [et, this]
    exact ih (k + 1) (by omega)

theorem line_Get.c {a : Int} (w : PmD F h d s) (ok : PmOk s) (hq : Q (.tuple #[.string (lnget s a).1, .int .i64 (lnget s a).2]) h) : C Try.prog 30 #[.pointer (some ⟨d, 0, none⟩), .int .i64 a] h Q := by
  apply line_Get.ok
  unfold lnget at hq
  refine line_there.c w ⟨_, rfl, ?_⟩
  by_cases ho : s.off = true
  · rw [if_pos ho] at hq
    have go : line_Get.J4 (some ⟨d, 0, none⟩) a h Q := by
      apply line_Get.J4.ok
      apply line_Get.L6.ok
      refine xsIf_t rfl (pm_Device_Load.c w ⟨_, _, rfl, ?_⟩)
      rw [pload_off ho]
      exact xsIf_t rfl hq
    refine xsIf_intro (fun _ => pm_Device_Off.c w ⟨_, rfl, xsIf_f (by rw [ho]; rfl) go⟩) fun _ => go
  · have ho : s.off = false := by simpa using ho
    rw [ho, if_neg (by simp)] at hq
    by_cases ht : lthere s a = 0
    · rw [if_pos ht] at hq
      rw [ht]
      obtain ⟨n, rfl, hn⟩ := lthere_ok ht
      refine xsIf_f (by decide) ?_
      apply line_Get.J4.ok
      exact line_Get.L6.c w ok ho hn hq 8 0 (by omega)
    · rw [if_neg ht] at hq
      rw [lthere_no ht]
      exact xsIf_t (by decide) (pm_Device_Off.c w ⟨_, rfl, xsIf_t (by rw [ho]; rfl) hq⟩)

theorem line_Took.c {a : Int} {b : ByteArray} (w : PmD F h d s) (hy : lntook s a b → Q (.bool true) h) (hn : ¬ lntook s a b → Q (.bool false) h) : C Try.prog 34 #[.pointer (some ⟨d, 0, none⟩), .int .i64 a, .string b] h Q := by
  apply line_Took.ok
  have hi := w.bnd
  refine le_Words.c2 fun f hf => ⟨_, _, _, _, _, _, _, _, _, rfl, ?_⟩
  by_cases hb : b.size = 64
  · rw [if_pos hb]
    obtain rfl := hf hb
    refine xsIf_f (by decide) (line_there.c w ⟨_, rfl, ?_⟩)
    by_cases ht : lthere s a = 0
    · rw [ht]
      obtain ⟨n, rfl, hnl⟩ := lthere_ok ht
      refine xsIf_f (by decide) ?_
      apply line_Took.J4.ok
      have loop : ∀ (j k : Nat), k + j = 8 → (∀ i, i < k → s.media (8 * n + i) = ((wordAt b i : Nat) : Int)) → line_Took.L5 (some ⟨d, 0, none⟩) (n : Int) (wordAt b 0 : Nat) (wordAt b 1 : Nat) (wordAt b 2 : Nat) (wordAt b 3 : Nat) (wordAt b 4 : Nat) (wordAt b 5 : Nat) (wordAt b 6 : Nat) (wordAt b 7 : Nat) (k : Int) h Q := by
        intro j
        induction j with
        | zero =>
          intro k hk hm
          apply line_Took.L5.ok
          exact xsIf_f (decide_eq_false (by omega)) (hy ⟨hb, ht, fun k hk => hm k (by omega)⟩)
        | succ j ih =>
          intro k hk hm
          apply line_Took.L5.ok
          unfold line_Took.L5.wp
          have e1 : IntKind.i64.wrap (IntKind.i64.wrap ((n : Int) * 8) + k) = ((8 * n + k : Nat) : Int) := by rw [i64_in ((n : Int) * 8) (by omega), i64_in _ (by omega)]; omega
          have e2 : IntKind.i64.wrap ((k : Int) + 1) = ((k + 1 : Nat) : Int) := by rw [i64_in _ (by omega)]; omega
          rw [e1, e2]
          refine xsIf_t (decide_eq_true (by omega)) ⟨by omega, ((wordAt b k : Nat) : Int), row8_get (f := fun k => ((wordAt b k : Nat) : Int)) (by omega), pm_Device_Media.c w ⟨_, rfl, ?_⟩⟩
          rw [if_pos (by omega), Int.toNat_natCast]
          refine xsIf_intro (fun e => hn fun t => ?_) fun e => ih (k + 1) (by omega) fun i hi => ?_
          · have := t.2.2 k (by omega)
            rw [Int.toNat_natCast] at this
            exact of_decide_eq_true e this
          · have e : s.media (8 * n + k) = ((wordAt b k : Nat) : Int) := by simpa using e
            by_cases e3 : i = k
            · rw [e3]; exact e
            · exact hm i (by omega)
      exact loop 8 0 (by omega) (fun i hi => by omega)
    · rw [lthere_no ht]
      exact xsIf_t (by decide) (hn fun t => ht t.2.1)
  · rw [if_neg hb]
    exact xsIf_t (by decide) (hn fun t => hb t.1)
end
end Go.Gb
