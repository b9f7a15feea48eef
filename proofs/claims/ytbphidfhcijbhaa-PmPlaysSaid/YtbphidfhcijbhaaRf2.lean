/- Own text for the seat: Rf2. -/
import Derived.Test.YtbphidfhcijbhaaRf1
set_option linter.unusedVariables false
set_option linter.unusedSimpArgs false
set_option linter.unnecessarySimpa false
set_option linter.deprecated false
namespace Go.Gb
open Go.Proofs IntWalk

/-! ## gabionref03: last -/

def lastN (c : Nat → Bool) (k : Nat) : List Nat := (List.range k).filter c

theorem lastN_mem {c : Nat → Bool} {k w : Nat} : w ∈ lastN c k ↔ w < k ∧ c w = true := by unfold lastN; simp
theorem lastN_no {c : Nat → Bool} {k : Nat} (h : c k = false) : lastN c (k + 1) = lastN c k := by
  unfold lastN; rw [List.range_succ, List.filter_append]; simp [h]

section
variable {F : Nat → Prop} {m wb rb bb : Nat} {s : PmS} {Q : Value → Heap → Prop} {ch : Nat → Bool} {cb : Nat}

/-- So far: words up to k, wear of the lines below i. -/
def pl (s : PmS) (ch : Nat → Bool) (i k : Nat) : PmS := { s with media := lmedia s (lastN ch k), buf := lbuf s (lastN ch k), wear := lwear s (lastN ch (8 * i)) }

theorem lwear_none {i : Nat} : lwear s (lastN ch (8 * i)) i = s.wear i := by
  unfold lwear
  rw [if_neg]
  rintro ⟨w, h1, h2⟩
  rw [lastN_mem] at h1; omega
theorem lwear_some {i : Nat} (h : ∃ w, 8 * i ≤ w ∧ w < 8 * i + 8 ∧ ch w = true) : fset (lwear s (lastN ch (8 * i))) i (IntKind.wrap .i64 (s.wear i + 1)) = lwear s (lastN ch (8 * (i + 1))) := by
  obtain ⟨w, h1, h2, h3⟩ := h
  funext j
  unfold fset
  by_cases e : j = i
  · rw [if_pos e, e]
    unfold lwear
    rw [if_pos ⟨w, lastN_mem.2 ⟨by omega, h3⟩, by omega⟩]
  · rw [if_neg e]
    unfold lwear
    by_cases e2 : ∃ w ∈ lastN ch (8 * i), w / 8 = j
    · obtain ⟨w2, h4, h5⟩ := e2
      rw [lastN_mem] at h4
      rw [if_pos ⟨w2, lastN_mem.2 h4, h5⟩, if_pos ⟨w2, lastN_mem.2 ⟨by omega, h4.2⟩, h5⟩]
    · rw [if_neg e2, if_neg]
      rintro ⟨w2, h4, h5⟩
      rw [lastN_mem] at h4
      exact e2 ⟨w2, lastN_mem.2 ⟨by omega, h4.2⟩, h5⟩
theorem lwear_same {i : Nat} (h : ¬ ∃ w, 8 * i ≤ w ∧ w < 8 * i + 8 ∧ ch w = true) : lwear s (lastN ch (8 * i)) = lwear s (lastN ch (8 * (i + 1))) := by
  have : lastN ch (8 * i) = lastN ch (8 * (i + 1)) := by
    have k : ∀ j, j ≤ 8 → lastN ch (8 * i + j) = lastN ch (8 * i) := by
      intro j
      induction j with
      | zero => intro _; rfl
      | succ j ih =>
        intro hj
        have : ch (8 * i + j) = false := by
          cases e : ch (8 * i + j) with
          | false => rfl
          | true => exact absurd ⟨8 * i + j, by omega, by omega, e⟩ h
        rw [show 8 * i + (j + 1) = 8 * i + j + 1 by omega, lastN_no this, ih (by omega)]
    exact (k 8 (by omega)).symm
  rw [this]

theorem RfC.setWear {h : Heap} {q : Nat → Wd} (w : RfC F h m wb rb bb q s) (i : Nat) (x : Int) : RfC F (h.put rb (0 + i * 1) [.int .i64 x]) m wb rb bb q { s with wear := fset s.wear i x } := by
  have hk : ∀ k, k ≠ rb → h.put rb (0 + i * 1) [.int .i64 x] k = h k := fun k hk => put_other h _ _ hk
  have ne := w.ne
  refine ⟨w.lo, w.hi, w.fm, w.fw, w.fr, w.fb, ne, w.hm.keep (hk _ ne.2.1), w.hw.keep (hk _ ne.2.2.2.1), ?_, w.hb.keep (hk _ (Ne.symm ne.2.2.2.2.2)), w.rel, w.f0, w.f1⟩
  have := w.hr.put (0 + i * 1) [.int .i64 x]
  rw [setL_one, show 0 + i * 1 = i by omega, row_set (fun x : Int => Value.int .i64 x)] at this
  rw [show 0 + i * 1 = i by omega]
  exact this

theorem gabionref03_last.L5.c {i : Nat} (hi : i < s.nl) (hc : ∀ w, w < 8 * s.nl → ch w = true → s.buf w ≠ none) (ncb : ¬ F cb) :
    ∀ (j k : Nat) (h : Heap) (q : Nat → Wd) (b : Bool), k + j = 8 → RfC F h m wb rb bb q (pl s ch i (8 * i + k)) → Blk h cb (rowB (8 * s.nl) ch) → (b = true ↔ ∃ w, 8 * i ≤ w ∧ w < 8 * i + k ∧ ch w = true) →
      (∀ h' q', RfC F h' m wb rb bb q' (pl s ch (i + 1) (8 * (i + 1))) → Blk h' cb (rowB (8 * s.nl) ch) → Step F h F h' → gabionref03_last.L1 (some ⟨m, 0, none⟩) (some ⟨cb, 0, none⟩) (8 * s.nl) (8 * s.nl) ((i + 1 : Nat) : Int) h' Q) →
      gabionref03_last.L5 (some ⟨m, 0, none⟩) (some ⟨cb, 0, none⟩) (8 * s.nl) (8 * s.nl) (i : Int) b ((8 * i + k : Nat) : Int) h Q := by
  intro j
  induction j with
  | zero =>
    intro k h q b hk w hcb hb hq
    apply gabionref03_last.L5.ok
    unfold gabionref03_last.L5.wp
    have h92 : s.nl ≤ 8192 := w.hi
    have e1 : IntKind.i64.wrap (IntKind.i64.wrap (8 * (i : Int)) + 8) = ((8 * i + 8 : Nat) : Int) := by rw [i64_in (8 * (i : Int)) (by omega), i64_in _ (by omega)]; omega
    have e3 : IntKind.i64.wrap ((i : Int) + 1) = ((i + 1 : Nat) : Int) := by rw [i64_in _ (by omega)]; omega
    have : k = 8 := by omega
    subst this
    rw [e1, e3]
    refine xsIf_f (decide_eq_false (by omega)) (xsIf_intro (fun h1 => ?_) fun h1 => ?_)
    · have hx := hb.1 h1
      have kb : 0 ≤ (i : Int) ∧ (i : Int) < (s.nl : Int) := by omega
      have w3 := w.setWear i (IntKind.wrap .i64 (s.wear i + 1))
      have er : h.cell rb (0 + (i : Int).toNat * 1) = some (.int .i64 (s.wear i)) := by
        rw [show 0 + (i : Int).toNat * 1 = i by omega, w.hr.cell]
        have := row_get (fun k => Value.int .i64 ((pl s ch i (8 * i + 8)).wear k)) hi
        rw [show (pl s ch i (8 * i + 8)).wear i = s.wear i from lwear_none] at this
        exact this
      refine ⟨m, 0, rfl, _, _, _, w.c1, kb, rb, 0, rfl, _, er, kb, rb, 0, rfl, w.hr.can ?_, ?_⟩
      · rw [List.length_map, List.length_range]; show _ ≤ s.nl; omega
      · rw [show (i : Int).toNat = i by omega]
        refine hq _ q ?_ (hcb.keep (put_other _ _ _ fun e => ncb (e ▸ w.fr))) (Step.put w.fr _ _)
        have : (pl s ch (i + 1) (8 * (i + 1))) = { pl s ch i (8 * i + 8) with wear := fset (pl s ch i (8 * i + 8)).wear i (IntKind.wrap .i64 (s.wear i + 1)) } := by
          unfold pl
          dsimp only
          rw [lwear_some hx]
          rfl
        rw [this]; exact w3
    · have hx : ¬ ∃ w, 8 * i ≤ w ∧ w < 8 * i + 8 ∧ ch w = true := fun h2 => by rw [hb.2 h2] at h1; cases h1
      refine hq h q ?_ hcb (Step.refl _ _)
      have : pl s ch (i + 1) (8 * (i + 1)) = pl s ch i (8 * i + 8) := by
        unfold pl; rw [lwear_same hx]; rfl
      rw [this]; exact w
  | succ j ih =>
    intro k h q b hk w hcb hb hq
    apply gabionref03_last.L5.ok
    unfold gabionref03_last.L5.wp
    have h92 : s.nl ≤ 8192 := w.hi
    have e1 : IntKind.i64.wrap (IntKind.i64.wrap (8 * (i : Int)) + 8) = ((8 * i + 8 : Nat) : Int) := by rw [i64_in (8 * (i : Int)) (by omega), i64_in _ (by omega)]; omega
    have e2 : IntKind.i64.wrap (((8 * i + k : Nat) : Int) + 1) = ((8 * i + (k + 1) : Nat) : Int) := by rw [i64_in _ (by omega)]; omega
    rw [e1]
    have hK : 8 * i + k < 8 * s.nl := by omega
    have hKr : 8 * i + k < 8 * (pl s ch i (8 * i + k)).nl := hK
    have kb : 0 ≤ ((8 * i + k : Nat) : Int) ∧ ((8 * i + k : Nat) : Int) < ((8 * s.nl : Nat) : Int) := by omega
    have kb2 : 0 ≤ (i : Int) ∧ (i : Int) < (s.nl : Int) := by omega
    have ec : h.cell cb (0 + ((8 * i + k : Nat) : Int).toNat * 1) = some (.bool (ch (8 * i + k))) := by
      rw [show 0 + ((8 * i + k : Nat) : Int).toNat * 1 = 8 * i + k by omega, hcb.cell]
      exact row_get (fun k => Value.bool (ch k)) hK
    have ew : ∀ j, 0 + ((8 * i + k : Nat) : Int).toNat * 4 + j = 4 * (8 * i + k) + j := fun j => by omega
    have next : ∀ (h' : Heap) (q' : Nat → Wd) (b' : Bool), RfC F h' m wb rb bb q' (pl s ch i (8 * i + (k + 1))) → (b' = true ↔ ∃ w, 8 * i ≤ w ∧ w < 8 * i + (k + 1) ∧ ch w = true) → Step F h F h' →
        gabionref03_last.J6 (some ⟨m, 0, none⟩) (some ⟨cb, 0, none⟩) (8 * s.nl) (8 * s.nl) (i : Int) b' ((8 * i + k : Nat) : Int) h' Q := by
      intro h' q' b' w' hb' st
      apply gabionref03_last.J6.ok
      unfold gabionref03_last.J6.wp
      rw [e2]
      exact ih (k + 1) h' q' b' (by omega) w' (hcb.keep (st.keep cb ncb hcb.ne)) hb' fun h'' q'' w'' hc'' st'' => hq h'' q'' w'' hc'' (st.trans st'')
    refine xsIf_t (decide_eq_true (by omega)) ⟨kb, cb, 0, rfl, _, ec, xsIf_intro (fun h1 => ?_) fun h1 => ?_⟩
    · have h1 : ch (8 * i + k) = false := by simpa using h1
      refine next h q b ?_ ?_ (Step.refl _ _)
      · have : pl s ch i (8 * i + (k + 1)) = pl s ch i (8 * i + k) := by
          unfold pl; rw [show 8 * i + (k + 1) = 8 * i + k + 1 by omega, lastN_no h1]
        rw [this]; exact w
      · rw [hb]
        exact ⟨fun ⟨w, h2, h3, h4⟩ => ⟨w, h2, by omega, h4⟩, fun ⟨w, h2, h3, h4⟩ => ⟨w, h2, (by
          have : w ≠ 8 * i + k := fun e => by rw [e, h1] at h4; cases h4
          omega), h4⟩⟩
    · have h1 : ch (8 * i + k) = true := by simpa using h1
      have hbuf := hc _ hK h1
      obtain ⟨x, hx⟩ : ∃ x, s.buf (8 * i + k) = some x := by
        cases e : s.buf (8 * i + k) with
        | none => exact absurd e hbuf
        | some x => exact ⟨x, rfl⟩
      have hno : 8 * i + k ∉ lastN ch (8 * i + k) := fun h => by rw [lastN_mem] at h; omega
      have hyes : 8 * i + k ∈ lastN ch (8 * i + (k + 1)) := lastN_mem.2 ⟨by omega, h1⟩
      have r2 := w.rel
      have rK : Wr (q (8 * i + k)) (s.media (8 * i + k)) (some x) := by
        have := r2 _ hKr
        have : Wr (q (8 * i + k)) (lmedia s (lastN ch (8 * i + k)) (8 * i + k)) (lbuf s (lastN ch (8 * i + k)) (8 * i + k)) := this
        unfold lmedia lbuf at this
        rw [if_neg (fun h => hno h.1), if_neg hno, hx] at this
        exact this
      have ro : ∀ w, w < 8 * s.nl → w ≠ 8 * i + k → Wr (q w) (lmedia s (lastN ch (8 * i + (k + 1))) w) (lbuf s (lastN ch (8 * i + (k + 1))) w) := by
        intro w' hw' hne
        have h5 : Wr (q w') (lmedia s (lastN ch (8 * i + k)) w') (lbuf s (lastN ch (8 * i + k)) w') := r2 w' hw'
        have hm : w' ∈ lastN ch (8 * i + (k + 1)) ↔ w' ∈ lastN ch (8 * i + k) := by
          rw [lastN_mem, lastN_mem]; exact ⟨fun h => ⟨by omega, h.2⟩, fun h => ⟨by omega, h.2⟩⟩
        unfold lmedia lbuf at h5 ⊢
        simp only [hm]
        exact h5
      have hbt : (true = true) ↔ ∃ w, 8 * i ≤ w ∧ w < 8 * i + (k + 1) ∧ ch w = true := ⟨fun _ => ⟨8 * i + k, by omega, by omega, h1⟩, fun _ => rfl⟩
      have eb : h.cell bb (0 + (i : Int).toNat * 1) = some (.bool (s.bad i)) := by
        rw [show 0 + (i : Int).toNat * 1 = i by omega, w.hb.cell]
        exact row_get (fun k => Value.bool (s.bad k)) hi
      have e8 : (8 * i + k) / 8 = i := by omega
      refine ⟨m, 0, rfl, _, _, _, w.c2, kb2, bb, 0, rfl, _, eb, xsIf_intro (fun h2 => ?_) fun h2 => ?_⟩
      · have h2 : s.bad i = false := by simpa using h2
        have w3 := w.wput (k := 8 * i + k) (j := 0) (x := .int .u64 (q (8 * i + k)).v) (q' := { q (8 * i + k) with media := (q (8 * i + k)).v }) (md := fset (lmedia s (lastN ch (8 * i + k))) (8 * i + k) x.1) (bf := lbuf s (lastN ch (8 * i + k))) hKr (by omega) rfl (fun i hi hn => by
          match i, hi, hn with
          | 0, _, hn => exact absurd rfl hn
          | 1, _, _ => rfl
          | 2, _, _ => rfl
          | 3, _, _ => rfl) (fun w' hw' => by
          unfold fset
          by_cases e : w' = 8 * i + k
          · rw [if_pos e, if_pos e, e]
            unfold lbuf; rw [if_neg hno, hx]
            exact ⟨rK.2.2.1, rK.2⟩
          · rw [if_neg e, if_neg e]
            exact r2 w' hw')
        have w4 := w3.wput (k := 8 * i + k) (j := 1) (x := .bool false) (q' := { q (8 * i + k) with media := (q (8 * i + k)).v, there := false }) (md := lmedia s (lastN ch (8 * i + (k + 1)))) (bf := lbuf s (lastN ch (8 * i + (k + 1)))) hKr (by omega) rfl (fun i' hi hn => by
          have e : fset q (8 * i + k) { q (8 * i + k) with media := (q (8 * i + k)).v } (8 * i + k) = { q (8 * i + k) with media := (q (8 * i + k)).v } := by unfold fset; rw [if_pos rfl]
          rw [e]
          match i', hi, hn with
          | 0, _, _ => rfl
          | 1, _, hn => exact absurd rfl hn
          | 2, _, _ => rfl
          | 3, _, _ => rfl) (fun w' hw' => by
          unfold fset
          by_cases e : w' = 8 * i + k
          · rw [if_pos e, e]
            unfold lbuf lmedia
            rw [if_pos hyes, if_pos ⟨hyes, by rw [e8]; exact h2⟩, hx]
            exact ⟨rK.2.2.1, rfl⟩
          · rw [if_neg e, if_neg e]
            exact ro w' hw' e)
        rw [← ew 0] at w3 w4
        rw [← ew 1] at w4
        have can3 := w3.wcan (k := 8 * i + k) (j := 1) hKr (by omega)
        rw [← ew 1] at can3
        refine ⟨m, 0, rfl, m, 0, rfl, _, _, _, w.c0, _, _, _, w.c0, kb, wb, 0, rfl, (q (8 * i + k)).v, by rw [ew]; exact w.wc (j := 2) hKr (by omega), kb, wb, 0, rfl, by rw [ew]; exact w.wcan (j := 0) hKr (by omega), ?_⟩
        apply gabionref03_last.J11.ok
        refine ⟨m, 0, rfl, _, _, _, w3.c0, kb, wb, 0, rfl, can3, ?_⟩
        exact next _ _ true w4 hbt ((Step.put w.fw _ _).trans (Step.put w.fw _ _))
      · have h2 : s.bad i = true := by simpa using h2
        have w4 := w.wput (k := 8 * i + k) (j := 1) (x := .bool false) (q' := { q (8 * i + k) with there := false }) (md := lmedia s (lastN ch (8 * i + (k + 1)))) (bf := lbuf s (lastN ch (8 * i + (k + 1)))) hKr (by omega) rfl (fun i' hi hn => by
          match i', hi, hn with
          | 0, _, _ => rfl
          | 1, _, hn => exact absurd rfl hn
          | 2, _, _ => rfl
          | 3, _, _ => rfl) (fun w' hw' => by
          unfold fset
          by_cases e : w' = 8 * i + k
          · rw [if_pos e, e]
            unfold lbuf lmedia
            rw [if_pos hyes, if_neg (fun h => by rw [e8, h2] at h; cases h.2)]
            exact ⟨rK.1, rfl⟩
          · rw [if_neg e]
            exact ro w' hw' e)
        rw [← ew 1] at w4
        apply gabionref03_last.J11.ok
        refine ⟨m, 0, rfl, _, _, _, w.c0, kb, wb, 0, rfl, by rw [ew]; exact w.wcan (j := 1) hKr (by omega), ?_⟩
        exact next _ _ true w4 hbt (Step.put w.fw _ _)

theorem gabionref03_last.L1.c (hc : ∀ w, w < 8 * s.nl → ch w = true → s.buf w ≠ none) (ncb : ¬ F cb) :
    ∀ (j i : Nat) (h : Heap) (q : Nat → Wd), i + j = s.nl → RfC F h m wb rb bb q (pl s ch i (8 * i)) → Blk h cb (rowB (8 * s.nl) ch) →
      (∀ h' q', RfC F h' m wb rb bb q' (plast s (lastN ch (8 * s.nl))) → Step F h F h' → Q (.tuple #[]) h') →
      gabionref03_last.L1 (some ⟨m, 0, none⟩) (some ⟨cb, 0, none⟩) (8 * s.nl) (8 * s.nl) (i : Int) h Q := by
  intro j
  induction j with
  | zero =>
    intro i h q hi w hcb hq
    apply gabionref03_last.L1.ok
    have : i = s.nl := by omega
    subst this
    refine ⟨m, 0, rfl, _, _, _, w.c1, xsIf_f (decide_eq_false (by show ¬ (s.nl : Int) < (s.nl : Int); omega)) (hq h q w (Step.refl _ _))⟩
  | succ j ih =>
    intro i h q hi w hcb hq
    apply gabionref03_last.L1.ok
    have h92 : s.nl ≤ 8192 := w.hi
    refine ⟨m, 0, rfl, _, _, _, w.c1, xsIf_t (decide_eq_true (by show (i : Int) < (s.nl : Int); omega)) ?_⟩
    have e1 : IntKind.i64.wrap (8 * (i : Int)) = ((8 * i + 0 : Nat) : Int) := by rw [i64_in _ (by omega)]; omega
    rw [e1]
    refine gabionref03_last.L5.c (by omega) hc ncb 8 0 h q false (by omega) w hcb ⟨fun h => (by cases h), fun ⟨w, h1, h2, _⟩ => by omega⟩ fun h' q' w' hcb' st => ?_
    exact ih (i + 1) h' q' (by omega) w' hcb' fun h'' q'' w'' st'' => hq h'' q'' w'' (st.trans st'')

theorem plast_congr {ws ws' : List Nat} (h : ∀ w, w ∈ ws ↔ w ∈ ws') : plast s ws = plast s ws' := by
  unfold plast lmedia lbuf lwear
  simp only [h]

theorem gabionref03_last.c {h : Heap} {q : Nat → Wd} (w : RfC F h m wb rb bb q s) (hc : ∀ w, w < 8 * s.nl → ch w = true → s.buf w ≠ none) (ncb : ¬ F cb) (hcb : Blk h cb (rowB (8 * s.nl) ch))
    (hq : ∀ h' q', RfC F h' m wb rb bb q' (plast s (lastN ch (8 * s.nl))) → Step F h F h' → Q (.tuple #[]) h') : C Try.prog 69 #[.pointer (some ⟨m, 0, none⟩), .slice (some ⟨cb, 0, none⟩) (8 * s.nl) (8 * s.nl)] h Q := by
  apply gabionref03_last.ok
  apply gabionref03_last.L1.c hc ncb s.nl 0 h q (by omega) ?_ hcb hq
  have : pl s ch 0 (8 * 0) = s := by
    unfold pl lmedia lbuf lwear lastN
    simp
  rw [this]; exact w
end
end Go.Gb
