/- Own text for the seat: PmE1. -/
import Derived.Test.YtbphidfhcijbhaaPmB
set_option linter.unusedVariables false
set_option linter.unusedSimpArgs false
set_option linter.unnecessarySimpa false
set_option linter.deprecated false
namespace Go.Gb
open Go.Proofs IntWalk

/-! ## PmWears -/

/-- What is known of a word: nothing stored, stored, flushed. -/
def bst : Option (Int × Bool) → Nat
  | none => 0
  | some (_, false) => 1
  | some (_, true) => 2

abbrev row8 (g : Nat → Nat) : List Value := (List.range 24).map fun k => .int .u8 ((g k : Nat) : Int)

structure Wi (s : PmS) (t : Nat) (f : Nat → Int) (g : Nat → Nat) : Prop where
  nl : s.nl = 3
  off : s.off = false
  fuse : s.fuse = 0
  wear : ∀ i, i < 3 → s.wear i = f i
  f0 : ∀ i, i < 3 → 0 ≤ f i ∧ f i ≤ t
  g : ∀ w, w < 24 → g w = bst (s.buf w)

def fl (g : Nat → Nat) (L k : Nat) : Nat → Nat := fun q => if 8 * L ≤ q ∧ q < 8 * L + k then min (g q * 2) 2 else g q
def zr (g : Nat → Nat) (k : Nat) : Nat → Nat := fun q => if q < k ∧ g q = 2 then 0 else g q
open Classical in
noncomputable def fW (f : Nat → Int) (g : Nat → Nat) (n : Nat) : Nat → Int := fun i => if i < n ∧ ∃ w, w < 24 ∧ w / 8 = i ∧ g w = 2 then f i + 1 else f i

theorem bst_le (x : Option (Int × Bool)) : bst x ≤ 2 := by
  match x with
  | none => simp [bst]
  | some (_, false) => simp [bst]
  | some (_, true) => simp [bst]
theorem bst_two {x : Option (Int × Bool)} : bst x = 2 ↔ ∃ v, x = some (v, true) := by
  match x with
  | none => simp [bst]
  | some (_, false) => simp [bst]
  | some (v, true) => simp [bst]
theorem bst_flush (x : Option (Int × Bool)) : bst (x.map fun x => (x.1, true)) = min (bst x * 2) 2 := by
  match x with
  | none => simp [bst]
  | some (_, false) => simp [bst]
  | some (v, true) => simp [bst]

theorem Wi.store {s : PmS} {t : Nat} {f : Nat → Int} {g : Nat → Nat} (w : Wi s t f g) (k : Nat) (v : Int) : Wi { ptick s with buf := fset s.buf k (some (v, false)) } (t + 1) f (fset g k 1) := by
  refine ⟨w.nl, w.off, ?_, w.wear, fun i hi => ?_, fun q hq => ?_⟩
  · show (if 0 < s.fuse then s.fuse - 1 else s.fuse) = 0
    rw [w.fuse]; rfl
  · have := w.f0 i hi; omega
  · show fset g k 1 q = bst (fset s.buf k (some (v, false)) q)
    unfold fset
    by_cases e : q = k
    · rw [if_pos e, if_pos e]; rfl
    · rw [if_neg e, if_neg e]; exact w.g q hq

theorem Wi.flush {s : PmS} {t : Nat} {f : Nat → Int} {g : Nat → Nat} (w : Wi s t f g) (k : Nat) : Wi { ptick s with buf := fbuf s.buf k 8 } (t + 1) f (fl g k 8) := by
  refine ⟨w.nl, w.off, ?_, w.wear, fun i hi => ?_, fun q hq => ?_⟩
  · show (if 0 < s.fuse then s.fuse - 1 else s.fuse) = 0
    rw [w.fuse]; rfl
  · have := w.f0 i hi; omega
  · show fl g k 8 q = bst (fbuf s.buf k 8 q)
    unfold fl fbuf
    by_cases e : 8 * k ≤ q ∧ q < 8 * k + 8
    · rw [if_pos e, if_pos e, bst_flush, w.g q hq]
    · rw [if_neg e, if_neg e]; exact w.g q hq

theorem Wi.fence {s : PmS} {t : Nat} {f : Nat → Int} {g : Nat → Nat} (w : Wi s t f g) (ht : t < 1000) : Wi (plast (ptick s) (flushed s)) (t + 1) (fW f g 3) (zr g 24) := by
  have hm : ∀ q, q < 24 → (q ∈ flushed s ↔ g q = 2) := fun q hq => by
    rw [flushed_mem, w.nl, w.g q hq, bst_two]
    exact ⟨fun h => h.2, fun h => ⟨hq, h⟩⟩
  have hlt : ∀ q, q ∈ flushed s → q < 24 := fun q hq => by
    rw [flushed_mem, w.nl] at hq; omega
  have hex : ∀ i, (∃ q ∈ flushed s, q / 8 = i) ↔ ∃ q, q < 24 ∧ q / 8 = i ∧ g q = 2 := fun i =>
    ⟨fun ⟨q, h1, h2⟩ => ⟨q, hlt q h1, h2, (hm q (hlt q h1)).1 h1⟩, fun ⟨q, h1, h2, h3⟩ => ⟨q, (hm q h1).2 h3, h2⟩⟩
  refine ⟨w.nl, w.off, ?_, fun i hi => ?_, fun i hi => ?_, fun q hq => ?_⟩
  · show (if 0 < s.fuse then s.fuse - 1 else s.fuse) = 0
    rw [w.fuse]; rfl
  · show lwear (ptick s) (flushed s) i = fW f g 3 i
    have h0 := w.f0 i hi
    have h1 := w.wear i hi
    unfold lwear fW
    by_cases e : ∃ q ∈ flushed s, q / 8 = i
    · rw [if_pos e, if_pos ⟨hi, (hex i).1 e⟩]
      show IntKind.wrap .i64 (s.wear i + 1) = _
      rw [h1, i64_in _ (by omega)]
    · rw [if_neg e, if_neg (fun h => e ((hex i).2 h.2))]
      exact h1
  · have h0 := w.f0 i hi
    unfold fW
    split <;> omega
  · show zr g 24 q = bst (lbuf (ptick s) (flushed s) q)
    unfold zr lbuf
    by_cases e : g q = 2
    · rw [if_pos ⟨hq, e⟩, if_pos ((hm q hq).2 e)]; rfl
    · rw [if_neg (fun h => e h.2), if_neg (fun h => e ((hm q hq).1 h))]
      exact w.g q hq

section
variable {d : Nat} {a : Option Addr} {n cp : Nat} {Q : Value → Heap → Prop}

theorem gabionlaw03_PmWears.L33.c {L w : Nat} {f : List Value} {m t : Int} {h : Heap} {g : Nat → Nat} (hL : L < 3) (hw : w / 8 = L) (hg : ∀ q, q < 24 → g q ≤ 2) (hn : gabionlaw03_PmWears.J37 (some ⟨d, 0, none⟩) a n cp m t f (row8 (fl g L 8)) h Q) :
    ∀ (j k : Nat), k + j = 8 → gabionlaw03_PmWears.L33 (some ⟨d, 0, none⟩) (w : Int) ((8 * L + k : Nat) : Int) a n cp m t f (row8 (fl g L k)) h Q := by
  have e1 : IntKind.i64.wrap (IntKind.i64.wrap (iquo .i64 (w : Int) 8 * 8) + 8) = ((8 * L + 8 : Nat) : Int) := by
    have : iquo .i64 (w : Int) 8 = ((L : Nat) : Int) := by rw [iquo_i64 (by omega) (by omega) (by omega)]; omega
    rw [this, i64_in ((L : Int) * 8) (by omega), i64_in _ (by omega)]; omega
  intro j
  induction j with
  | zero =>
    intro k hk
    apply gabionlaw03_PmWears.L33.ok
    unfold gabionlaw03_PmWears.L33.wp
    rw [e1]
    have : k = 8 := by omega
    subst this
    exact xsIf_f (decide_eq_false (by omega)) hn
  | succ j ih =>
    intro k hk
    apply gabionlaw03_PmWears.L33.ok
    unfold gabionlaw03_PmWears.L33.wp
    rw [e1]
    have hq : 8 * L + k < 24 := by omega
    have e2 : IntKind.i64.wrap (((8 * L + k : Nat) : Int) + 1) = ((8 * L + (k + 1) : Nat) : Int) := by rw [i64_in _ (by omega)]; omega
    have et : (0 + ((8 * L + k : Nat) : Int).toNat * 1) = 8 * L + k := by omega
    have g2 := hg _ hq
    have ef : fl g L k (8 * L + k) = g (8 * L + k) := by unfold fl; rw [if_neg (by omega)]
    refine xsIf_t (decide_eq_true (by omega)) ⟨by omega, ((g (8 * L + k) : Nat) : Int), ?_, by omega, ?_, by omega, ((g (8 * L + k) * 2 : Nat) : Int), ?_, by omega, ?_, ?_⟩
    · rw [et]; show (row8 (fl g L k))[8 * L + k]? = _; rw [row_get _ hq, ef]
    · rw [et]; simp; omega
    · rw [et]
      have : IntKind.u8.wrap (((g (8 * L + k) : Nat) : Int) * 2) = ((g (8 * L + k) * 2 : Nat) : Int) := by
        rw [show ((g (8 * L + k) : Nat) : Int) * 2 = ((g (8 * L + k) * 2 : Nat) : Int) by omega, u8_nat' (by omega)]
      rw [this]
      show ((row8 (fl g L k)).set (8 * L + k) _)[8 * L + k]? = _
      rw [List.getElem?_set]; simp; omega
    · rw [et]; show _ ≤ ((row8 (fl g L k)).set (8 * L + k) _).length; simp; omega
    · rw [et, e2]
      have : lput (lput (row8 (fl g L k)) (8 * L + k) [Value.int IntKind.u8 (IntKind.u8.wrap (((g (8 * L + k) : Nat) : Int) * 2))]) (8 * L + k) [Value.int IntKind.u8 (imin ((g (8 * L + k) * 2 : Nat) : Int) 2)] = row8 (fl g L (k + 1)) := by
        show ((row8 (fl g L k)).set (8 * L + k) _).set (8 * L + k) _ = _
        rw [List.set_set, show imin ((g (8 * L + k) * 2 : Nat) : Int) 2 = ((min (g (8 * L + k) * 2) 2 : Nat) : Int) by rw [imin_eq]; omega]
        have := row_set (n := 24) (k := 8 * L + k) (fun x : Nat => Value.int .u8 (x : Int)) (fl g L k) (min (g (8 * L + k) * 2) 2)
        rw [this]
        apply List.map_congr_left
        intro q _
        congr 2
        unfold fset fl
        by_cases e : q = 8 * L + k
        · subst e; rw [if_pos rfl, if_pos (by omega)]
        · rw [if_neg e]
          by_cases e2 : 8 * L ≤ q ∧ q < 8 * L + k
          · rw [if_pos e2, if_pos (by omega)]
          · rw [if_neg e2, if_neg (by omega)]
      rw [this]
      exact ih (k + 1) (by omega)

theorem fW_step {f : Nat → Int} {g : Nat → Nat} {i : Nat} (h : ∃ w, w < 24 ∧ w / 8 = i ∧ g w = 2) : fset (fW f g i) i (f i + 1) = fW f g (i + 1) := by
  funext q
  unfold fset fW
  by_cases e : q = i
  · subst e; rw [if_pos rfl, if_pos ⟨by omega, h⟩]
  · rw [if_neg e]
    by_cases e2 : q < i
    · by_cases e3 : ∃ w, w < 24 ∧ w / 8 = q ∧ g w = 2
      · rw [if_pos ⟨e2, e3⟩, if_pos ⟨by omega, e3⟩]
      · rw [if_neg (fun h => e3 h.2), if_neg (fun h => e3 h.2)]
    · rw [if_neg (fun h => e2 h.1), if_neg (fun h => by omega)]
theorem fW_none {f : Nat → Int} {g : Nat → Nat} {i : Nat} (h : ¬ ∃ w, w < 24 ∧ w / 8 = i ∧ g w = 2) : fW f g i = fW f g (i + 1) := by
  funext q
  unfold fW
  by_cases e : q = i
  · subst e; rw [if_neg (fun h' => h h'.2), if_neg (fun h' => h h'.2)]
  · by_cases e3 : ∃ w, w < 24 ∧ w / 8 = q ∧ g w = 2
    · by_cases e2 : q < i
      · rw [if_pos ⟨e2, e3⟩, if_pos ⟨by omega, e3⟩]
      · rw [if_neg (fun h => e2 h.1), if_neg (fun h => by omega)]
    · rw [if_neg (fun h => e3 h.2), if_neg (fun h => e3 h.2)]
theorem zr_two {g : Nat → Nat} {k : Nat} (h : g k = 2) : fset (zr g k) k 0 = zr g (k + 1) := by
  funext q
  unfold fset zr
  by_cases e : q = k
  · subst e; rw [if_pos rfl, if_pos ⟨by omega, h⟩]
  · rw [if_neg e]
    by_cases e2 : q < k ∧ g q = 2
    · rw [if_pos e2, if_pos ⟨by omega, e2.2⟩]
    · rw [if_neg e2, if_neg (fun h => e2 ⟨by omega, h.2⟩)]
theorem zr_not {g : Nat → Nat} {k : Nat} (h : ¬ g k = 2) : zr g k = zr g (k + 1) := by
  funext q
  unfold zr
  by_cases e2 : q < k ∧ g q = 2
  · rw [if_pos e2, if_pos ⟨by omega, e2.2⟩]
  · rw [if_neg e2, if_neg (fun h' => e2 ⟨by have : q ≠ k := fun e => h (e ▸ h'.2); omega, h'.2⟩)]

theorem gabionlaw03_PmWears.L17.c {i : Nat} {f : Nat → Int} {m t : Int} {h : Heap} {g : Nat → Nat} (hi : i < 3) (hf : 0 ≤ f i ∧ f i ≤ 1000) (hn : gabionlaw03_PmWears.J23 (some ⟨d, 0, none⟩) a n cp m t i (rowI 3 (fW f g (i + 1))) (row8 (zr g (8 * i + 8))) h Q) :
    ∀ (j k : Nat) (b : Bool), k + j = 8 → (b = true ↔ ∃ w, 8 * i ≤ w ∧ w < 8 * i + k ∧ g w = 2) → gabionlaw03_PmWears.L17 (some ⟨d, 0, none⟩) (i : Int) b ((8 * i + k : Nat) : Int) a n cp m t i (rowI 3 (fW f g i)) (row8 (zr g (8 * i + k))) h Q := by
  have e1 : IntKind.i64.wrap (IntKind.i64.wrap (8 * (i : Int)) + 8) = ((8 * i + 8 : Nat) : Int) := by
    rw [i64_in (8 * (i : Int)) (by omega), i64_in _ (by omega)]; omega
  have ei : fW f g i i = f i := by unfold fW; rw [if_neg (fun h => by omega)]
  intro j
  induction j with
  | zero =>
    intro k b hk hb
    apply gabionlaw03_PmWears.L17.ok
    unfold gabionlaw03_PmWears.L17.wp
    rw [e1]
    have : k = 8 := by omega
    subst this
    have hb' : b = true ↔ ∃ w, w < 24 ∧ w / 8 = i ∧ g w = 2 := by
      rw [hb]; exact ⟨fun ⟨w, h1, h2, h3⟩ => ⟨w, by omega, by omega, h3⟩, fun ⟨w, h1, h2, h3⟩ => ⟨w, by omega, by omega, h3⟩⟩
    refine xsIf_f (decide_eq_false (by omega)) ?_
    have et : (0 + (i : Int).toNat * 1) = i := by omega
    cases hbb : b with
    | true =>
      have hx := hb'.1 hbb
      refine xsIf_t rfl ⟨by omega, f i, ?_, by omega, ?_, ?_⟩
      · rw [et]; show (rowI 3 (fW f g i))[i]? = _; rw [row_get _ hi, ei]
      · rw [et]; simp; omega
      · rw [et, i64_in _ (by omega)]
        have : lput (rowI 3 (fW f g i)) i [Value.int .i64 (f i + 1)] = rowI 3 (fW f g (i + 1)) := by
          show (rowI 3 (fW f g i)).set i _ = _
          rw [row_set (fun x : Int => Value.int .i64 x) (fW f g i) (f i + 1), fW_step hx]
        rw [this]
        exact hn
    | false =>
      have hx : ¬ ∃ w, w < 24 ∧ w / 8 = i ∧ g w = 2 := fun h => by have := hb'.2 h; rw [hbb] at this; cases this
      refine xsIf_f rfl ?_
      rw [fW_none hx]
      exact hn
  | succ j ih =>
    intro k b hk hb
    apply gabionlaw03_PmWears.L17.ok
    unfold gabionlaw03_PmWears.L17.wp
    rw [e1]
    have hq : 8 * i + k < 24 := by omega
    have e2 : IntKind.i64.wrap (((8 * i + k : Nat) : Int) + 1) = ((8 * i + (k + 1) : Nat) : Int) := by rw [i64_in _ (by omega)]; omega
    have et : (0 + ((8 * i + k : Nat) : Int).toNat * 1) = 8 * i + k := by omega
    have ez : zr g (8 * i + k) (8 * i + k) = g (8 * i + k) := by unfold zr; rw [if_neg (fun h => by omega)]
    refine xsIf_t (decide_eq_true (by omega)) ⟨by omega, ((g (8 * i + k) : Nat) : Int), ?_, ?_⟩
    · rw [et]; show (row8 (zr g (8 * i + k)))[8 * i + k]? = _; rw [row_get _ hq, ez]
    · by_cases e : g (8 * i + k) = 2
      · refine xsIf_t (decide_eq_true (by omega)) ⟨by omega, by rw [et]; simp; omega, ?_⟩
        apply gabionlaw03_PmWears.J18.ok
        unfold gabionlaw03_PmWears.J18.wp
        rw [et, e2]
        have : lput (row8 (zr g (8 * i + k))) (8 * i + k) [Value.int .u8 0] = row8 (zr g (8 * i + (k + 1))) := by
          show (row8 (zr g (8 * i + k))).set (8 * i + k) _ = _
          have := row_set (n := 24) (k := 8 * i + k) (fun x : Nat => Value.int .u8 (x : Int)) (zr g (8 * i + k)) 0
          rw [zr_two e] at this
          exact this
        rw [this]
        exact ih (k + 1) true (by omega) ⟨fun _ => ⟨8 * i + k, by omega, by omega, e⟩, fun _ => rfl⟩
      · refine xsIf_f (decide_eq_false (by omega)) ?_
        apply gabionlaw03_PmWears.J18.ok
        unfold gabionlaw03_PmWears.J18.wp
        rw [e2, zr_not e]
        refine ih (k + 1) b (by omega) ?_
        rw [hb]
        exact ⟨fun ⟨w, h1, h2, h3⟩ => ⟨w, h1, by omega, h3⟩, fun ⟨w, h1, h2, h3⟩ => ⟨w, h1, by have : w ≠ 8 * i + k := fun e' => e (e' ▸ h3); omega, h3⟩⟩

theorem gabionlaw03_PmWears.L13.c {f : Nat → Int} {m t : Int} {h : Heap} {g : Nat → Nat} (hf : ∀ i, i < 3 → 0 ≤ f i ∧ f i ≤ 1000) (hn : gabionlaw03_PmWears.J37 (some ⟨d, 0, none⟩) a n cp m t (rowI 3 (fW f g 3)) (row8 (zr g 24)) h Q) :
    ∀ (j i : Nat), i + j = 3 → gabionlaw03_PmWears.L13 (some ⟨d, 0, none⟩) a n cp m t (i : Int) (rowI 3 (fW f g i)) (row8 (zr g (8 * i))) h Q := by
  intro j
  induction j with
  | zero =>
    intro i hi
    apply gabionlaw03_PmWears.L13.ok
    have : i = 3 := by omega
    subst this
    exact xsIf_f (decide_eq_false (by omega)) hn
  | succ j ih =>
    intro i hi
    apply gabionlaw03_PmWears.L13.ok
    unfold gabionlaw03_PmWears.L13.wp
    refine xsIf_t (decide_eq_true (by omega)) ?_
    have e1 : IntKind.i64.wrap (8 * (i : Int)) = ((8 * i + 0 : Nat) : Int) := by rw [i64_in _ (by omega)]; omega
    rw [e1]
    refine gabionlaw03_PmWears.L17.c (by omega) (hf i (by omega)) ?_ 8 0 false (by omega) ⟨fun h => (by cases h), fun ⟨w, h1, h2, _⟩ => by omega⟩
    apply gabionlaw03_PmWears.J23.ok
    unfold gabionlaw03_PmWears.J23.wp
    have e2 : IntKind.i64.wrap ((i : Int) + 1) = ((i + 1 : Nat) : Int) := by rw [i64_in _ (by omega)]; omega
    rw [e2, show 8 * i + 8 = 8 * (i + 1) by omega]
    exact ih (i + 1) (by omega)
end
end Go.Gb
