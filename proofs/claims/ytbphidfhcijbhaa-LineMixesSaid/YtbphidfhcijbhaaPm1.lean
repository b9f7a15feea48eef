/- Own text for the seat: Pm1. -/
import Derived.Test.YtbphidfhcijbhaaW
import Derived.Test.YtbphidfhcijbhaaGbOwn
import Derived.Test.YtbphidfhcijbhaaGbSrt
import Derived.Test.YtbphidfhcijbhaaGbClose
set_option linter.unusedVariables false
set_option linter.unusedSimpArgs false
set_option linter.unnecessarySimpa false
set_option linter.deprecated false
namespace Go.Gb
open Go.Proofs IntWalk

/-! ## pm: devices -/

/-- A device: so many lines; what lasts, the buffer, the wear, which lines are bad, the fuse, off, the count. -/
structure PmS where
  nl : Nat
  media : Nat → Int
  buf : Nat → Option (Int × Bool)
  wear : Nat → Int
  bad : Nat → Bool
  fuse : Int
  off : Bool
  count : Int

abbrev rowU (n : Nat) (f : Nat → Int) : List Value := (List.range n).map fun k => .int .u64 (f k)
abbrev rowI (n : Nat) (f : Nat → Int) : List Value := (List.range n).map fun k => .int .i64 (f k)
abbrev rowB (n : Nat) (f : Nat → Bool) : List Value := (List.range n).map fun k => .bool (f k)
abbrev cellV (x : Int × Bool) : Value := .agg #[.int .u64 x.1, .bool x.2]

theorem row_get {α : Type} {n k : Nat} (f : Nat → α) (h : k < n) : ((List.range n).map f)[k]? = some (f k) := by simp [h]
def fset {α : Type} (f : Nat → α) (k : Nat) (v : α) : Nat → α := fun j => if j = k then v else f j
theorem row_set {α β : Type} {n k : Nat} (g : α → β) (f : Nat → α) (v : α) : ((List.range n).map fun j => g (f j)).set k (g v) = (List.range n).map fun j => g (fset f k v j) := by
  apply List.ext_getElem?
  intro j
  rw [List.getElem?_set]
  by_cases e : k = j
  · subst e
    by_cases h : k < n
    · simp [h, fset]
    · simp [h, fset]
  · rw [if_neg e]
    by_cases h : j < n
    · simp [h, fset, Ne.symm e]
    · simp [h]

/-- The buffer's map. -/
structure BufM (n : Nat) (buf : Nat → Option (Int × Bool)) (l : List (Int × Value × Nat)) (c : Nat) : Prop where
  im : IMap l c
  ent : ∀ e ∈ l, ∃ w x, w < n ∧ e.1 = (w : Int) ∧ buf w = some x ∧ e.2.1 = cellV x
  has : ∀ w x, buf w = some x → ∃ b, ((w : Int), cellV x, b) ∈ l

/-- A device's own cells. -/
abbrev devV (mb r wb bb nl : Nat) (f : Int) (o : Bool) (n : Int) : List Value := [.slice (some ⟨mb, 0, none⟩) (8 * nl) (8 * nl), .map (some r), .slice (some ⟨wb, 0, none⟩) nl nl, .slice (some ⟨bb, 0, none⟩) nl nl, .int .i64 f, .bool o, .int .i64 n]

structure PmC (F : Nat → Prop) (h : Heap) (d mb r wb bb : Nat) (l : List (Int × Value × Nat)) (c : Nat) (s : PmS) : Prop where
  lo : 1 ≤ s.nl
  hi : s.nl ≤ 8192
  fd : F d
  fm : F mb
  fr : F r
  fw : F wb
  fb : F bb
  ne : d ≠ mb ∧ d ≠ r ∧ d ≠ wb ∧ d ≠ bb ∧ mb ≠ r ∧ mb ≠ wb ∧ mb ≠ bb ∧ r ≠ wb ∧ r ≠ bb ∧ wb ≠ bb
  hd : Blk h d (devV mb r wb bb s.nl s.fuse s.off s.count)
  hm : Blk h mb (rowU (8 * s.nl) s.media)
  hr : h r = some (mapO (Value.int .i64) l c)
  hw : Blk h wb (rowI s.nl s.wear)
  hb : Blk h bb (rowB s.nl s.bad)
  bm : BufM (8 * s.nl) s.buf l c
  f0 : 0 ≤ s.fuse
  f1 : s.fuse < 9223372036854775808

def PmD (F : Nat → Prop) (h : Heap) (d : Nat) (s : PmS) : Prop := ∃ mb r wb bb l c, PmC F h d mb r wb bb l c s

theorem PmC.keep {F : Nat → Prop} {h h' : Heap} {d mb r wb bb : Nat} {l : List (Int × Value × Nat)} {c : Nat} {s : PmS} (w : PmC F h d mb r wb bb l c s) (e : ∀ k, F k → h k ≠ none → h' k = h k) : PmC F h' d mb r wb bb l c s :=
  ⟨w.lo, w.hi, w.fd, w.fm, w.fr, w.fw, w.fb, w.ne, w.hd.keep (e _ w.fd w.hd.ne), w.hm.keep (e _ w.fm w.hm.ne), by rw [e _ w.fr (by rw [w.hr]; simp), w.hr], w.hw.keep (e _ w.fw w.hw.ne), w.hb.keep (e _ w.fb w.hb.ne), w.bm, w.f0, w.f1⟩
theorem PmD.keep {F : Nat → Prop} {h h' : Heap} {d : Nat} {s : PmS} (w : PmD F h d s) (e : ∀ k, F k → h k ≠ none → h' k = h k) : PmD F h' d s := by
  obtain ⟨mb, r, wb, bb, l, c, w⟩ := w
  exact ⟨mb, r, wb, bb, l, c, w.keep e⟩

section
variable {F : Nat → Prop} {h : Heap} {d : Nat} {s : PmS} {Q : Value → Heap → Prop}

theorem pm_Device_Lines.c (w : PmD F h d s) (hq : Q (.int .i64 s.nl) h) : C Try.prog 43 #[.pointer (some ⟨d, 0, none⟩)] h Q := by
  obtain ⟨mb, r, wb, bb, l, c, w⟩ := w
  apply pm_Device_Lines.ok
  exact xsIf_f rfl ⟨d, 0, rfl, _, _, _, w.hd.cell _, hq⟩

theorem pm_Device_words.c (w : PmD F h d s) (hq : Q (.int .i64 ((8 * s.nl : Nat) : Int)) h) : C Try.prog 45 #[.pointer (some ⟨d, 0, none⟩)] h Q := by
  apply pm_Device_words.ok
  refine pm_Device_Lines.c w ⟨_, rfl, ?_⟩
  obtain ⟨mb, r, wb, bb, l, c, w⟩ := w
  have := w.hi
  rw [i64_in _ (by omega)]
  have e : (s.nl : Int) * 8 = ((8 * s.nl : Nat) : Int) := by omega
  rw [e]; exact hq

/-- May something be asked of a place? -/
def pready (s : PmS) (at0 of0 : Int) : Int := if s.off then 6 else if 0 ≤ at0 ∧ at0 < of0 then 0 else 3

theorem pm_Device_ready.c {at0 of0 : Int} (w : PmD F h d s) (hq : Q (.int .i64 (pready s at0 of0)) h) : C Try.prog 54 #[.pointer (some ⟨d, 0, none⟩), .int .i64 at0, .int .i64 of0] h Q := by
  obtain ⟨mb, r, wb, bb, l, c, w⟩ := w
  apply pm_Device_ready.ok
  unfold pready at hq
  refine xsIf_f rfl ⟨d, 0, rfl, _, w.hd.cell _, xsIf_intro (fun h1 => ?_) (fun h1 => xsIf_intro (fun h2 => ?_) (fun h2 => xsIf_intro (fun h3 => ?_) (fun h3 => ?_)))⟩
  · rw [h1] at hq; exact hq
  · simp at h2; rw [h1, if_neg (by simp), if_neg (by omega)] at hq; exact hq
  · simp at h2 h3; rw [h1, if_neg (by simp), if_neg (by omega)] at hq; exact hq
  · simp at h2 h3; rw [h1, if_neg (by simp), if_pos (by omega)] at hq; exact hq

/-- A thing is to be done. -/
def pburn (s : PmS) : Int × PmS :=
  if s.fuse = 1 then (6, { s with fuse := 0, off := true }) else if 0 < s.fuse then (0, { s with fuse := s.fuse - 1, count := IntKind.wrap .i64 (s.count + 1) }) else (0, { s with count := IntKind.wrap .i64 (s.count + 1) })

theorem pburn_keep {mb r wb bb c : Nat} {l : List (Int × Value × Nat)} {h' : Heap} (w : PmC F h d mb r wb bb l c s) {f : Int} {o : Bool} {n : Int} (f0 : 0 ≤ f) (f1 : f < 9223372036854775808)
    (hd : Blk h' d (devV mb r wb bb s.nl f o n)) (hk : ∀ k, k ≠ d → h' k = h k) :
    PmC F h' d mb r wb bb l c { s with fuse := f, off := o, count := n } :=
  have ne := w.ne
  ⟨w.lo, w.hi, w.fd, w.fm, w.fr, w.fw, w.fb, w.ne, hd, w.hm.keep (hk _ (Ne.symm ne.1)), by rw [hk _ (Ne.symm ne.2.1), w.hr], w.hw.keep (hk _ (Ne.symm ne.2.2.1)), w.hb.keep (hk _ (Ne.symm ne.2.2.2.1)), w.bm, f0, f1⟩

theorem pm_Device_burn.c {mb r wb bb c : Nat} {l : List (Int × Value × Nat)} (w : PmC F h d mb r wb bb l c s)
    (hq : ∀ h', PmC F h' d mb r wb bb l c (pburn s).2 → Step F h F h' → (∀ k, k ≠ d → h' k = h k) → Q (.int .i64 (pburn s).1) h') : C Try.prog 70 #[.pointer (some ⟨d, 0, none⟩)] h Q := by
  apply pm_Device_burn.ok
  have f0 := w.f0
  have f1 := w.f1
  refine ⟨d, 0, rfl, _, w.hd.cell _, xsIf_intro (fun h1 => ?_) (fun h1 => ?_)⟩
  · have h1 := of_decide_eq_true h1
    refine ⟨d, 0, rfl, _, w.hd.cell _, d, 0, rfl, w.hd.can (by simp), d, 0, rfl, _, (w.hd.put _ _).cell _, ?_⟩
    rw [i64_in _ (by omega)]
    have w1 : Blk (h.put d (0 + 4) [.int .i64 (s.fuse - 1)]) d (devV mb r wb bb s.nl (s.fuse - 1) s.off s.count) := w.hd.put 4 [.int .i64 (s.fuse - 1)]
    refine xsIf_intro (fun h2 => ?_) (fun h2 => ?_)
    · have h2 := of_decide_eq_true h2
      refine ⟨d, 0, rfl, w1.can (by simp), ?_⟩
      have e : pburn s = (6, { s with fuse := 0, off := true }) := by unfold pburn; rw [if_pos (by omega)]
      rw [e] at hq
      refine hq _ (pburn_keep w (by omega) (by omega) ?_ ?_) ((Step.put w.fd _ _).trans (Step.put w.fd _ _)) ?_
      · have h3 : Blk ((h.put d (0 + 4) [.int .i64 (s.fuse - 1)]).put d (0 + 5) [.bool true]) d (devV mb r wb bb s.nl (s.fuse - 1) true s.count) := w1.put 5 [.bool true]
        have h4 := h3
        rw [show devV mb r wb bb s.nl (s.fuse - 1) true s.count = devV mb r wb bb s.nl 0 true s.count by rw [h2]] at h4
        exact h4
      all_goals (intro k hk; rw [put_other _ _ _ hk, put_other _ _ _ hk])
    · have h2 := of_decide_eq_false h2
      refine ⟨d, 0, rfl, _, w1.cell _, d, 0, rfl, w1.can (by simp), ?_⟩
      have e : pburn s = (0, { s with fuse := s.fuse - 1, count := IntKind.wrap .i64 (s.count + 1) }) := by unfold pburn; rw [if_neg (by omega), if_pos h1]
      rw [e] at hq
      refine hq _ (pburn_keep w (by omega) (by omega) (w1.put 6 _) ?_) ((Step.put w.fd _ _).trans (Step.put w.fd _ _)) ?_
      all_goals (intro k hk; rw [put_other _ _ _ hk, put_other _ _ _ hk])
  · have h1 := of_decide_eq_false h1
    refine ⟨d, 0, rfl, _, w.hd.cell _, d, 0, rfl, w.hd.can (by simp), ?_⟩
    have e : pburn s = (0, { s with count := IntKind.wrap .i64 (s.count + 1) }) := by unfold pburn; rw [if_neg (by omega), if_neg h1]
    rw [e] at hq
    refine hq _ (pburn_keep w f0 f1 (w.hd.put 6 _) ?_) (Step.put w.fd _ _) ?_
    all_goals (intro k hk; rw [put_other _ _ _ hk])

/-- A thing at a place, of so many: what is begun. -/
def pbegin (s : PmS) (at0 of0 : Int) : Int × PmS := if pready s at0 of0 = 0 then pburn s else (pready s at0 of0, s)

theorem pm_Device_do.c {mb r wb bb c : Nat} {l : List (Int × Value × Nat)} {at0 of0 : Int} {f : Nat} {fa fc : Array Value} (hg : goOk Try.prog f = true) (w : PmC F h d mb r wb bb l c s)
    (hno : (pbegin s at0 of0).1 ≠ 0 → ∀ h', PmC F h' d mb r wb bb l c (pbegin s at0 of0).2 → Step F h F h' → (∀ k, k ≠ d → h' k = h k) → Q (.int .i64 (pbegin s at0 of0).1) h')
    (hyes : (pbegin s at0 of0).1 = 0 → ∀ h', PmC F h' d mb r wb bb l c (pbegin s at0 of0).2 → Step F h F h' → (∀ k, k ≠ d → h' k = h k) → C Try.prog f { toList := fa.toList ++ [] ++ fc.toList } h' fun _ h'' => Q (.int .i64 0) h'') :
    C Try.prog 44 #[.pointer (some ⟨d, 0, none⟩), .int .i64 at0, .int .i64 of0, .func (.func f) fa fc] h Q := by
  apply pm_Device_do.ok
  refine pm_Device_ready.c ⟨_, _, _, _, _, _, w⟩ ⟨_, rfl, ?_⟩
  unfold pbegin at hno hyes
  refine xsIf_intro (fun h1 => ?_) (fun h1 => ?_)
  · have h1 := of_decide_eq_true h1
    rw [if_neg h1] at hno
    exact hno h1 h w (Step.refl _ _) (fun _ _ => rfl)
  · have h1 : pready s at0 of0 = 0 := Classical.byContradiction (of_decide_eq_false h1)
    rw [if_pos h1] at hno hyes
    refine pm_Device_burn.c w fun h' w' st hk => ⟨_, rfl, ?_⟩
    refine xsIf_intro (fun h2 => ?_) (fun h2 => ?_)
    · have h2 := of_decide_eq_true h2
      exact hno h2 h' w' st hk
    · have h2 : (pburn s).1 = 0 := Classical.byContradiction (of_decide_eq_false h2)
      exact xsIf_t hg (hyes h2 h' w' st hk)

end
end Go.Gb
