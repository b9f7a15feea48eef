/- Own text for the seat: Pm7. -/
import Derived.Test.YtbphidfhcijbhaaPm6
set_option linter.unusedVariables false
set_option linter.unusedSimpArgs false
set_option linter.unnecessarySimpa false
set_option linter.deprecated false
namespace Go.Gb
open Go.Proofs IntWalk

/-- What has lasted when some words have. -/
def lmedia (s : PmS) (ws : List Nat) : Nat → Int := fun w => if w ∈ ws ∧ s.bad (w / 8) = false then (match s.buf w with | some x => x.1 | none => 0) else s.media w
def lbuf (s : PmS) (ws : List Nat) : Nat → Option (Int × Bool) := fun w => if w ∈ ws then none else s.buf w
def lwear (s : PmS) (ws : List Nat) : Nat → Int := fun i => if ∃ w ∈ ws, w / 8 = i then IntKind.wrap .i64 (s.wear i + 1) else s.wear i
def plast (s : PmS) (ws : List Nat) : PmS := { s with media := lmedia s ws, buf := lbuf s ws, wear := lwear s ws }

/-- Where the words stand. -/
def WordsAt (h : Heap) (wa : Option Addr) (ws : List Nat) (N : Nat → Prop) : Prop := ∀ k, k < ws.length → ∃ b o, wa = some ⟨b, o, none⟩ ∧ N b ∧ h.cell b (o + k * 1) = some (.int .i64 ((ws.getD k 0 : Nat) : Int))

section
variable {F : Nat → Prop} {d : Nat} {s : PmS} {Q : Value → Heap → Prop}

theorem lmedia_step {ws : List Nat} {k : Nat} {x : Int × Bool} (hk : k < ws.length) (hb : s.bad (ws.getD k 0 / 8) = false) (hx : s.buf (ws.getD k 0) = some x) :
    fset (lmedia s (ws.take k)) (ws.getD k 0) x.1 = lmedia s (ws.take (k + 1)) := by
  have ht : ws.take (k + 1) = ws.take k ++ [ws.getD k 0] := by rw [List.take_succ, List.getD_eq_getElem?_getD]; simp [hk]
  funext w
  unfold fset lmedia
  rw [ht]
  by_cases e : w = ws.getD k 0
  · rw [if_pos e, if_pos ⟨by rw [e]; simp, by rw [e]; exact hb⟩, e, hx]
  · rw [if_neg e]
    have : (w ∈ ws.take k ++ [ws.getD k 0]) ↔ w ∈ ws.take k := by simp only [List.mem_append, List.mem_singleton]; exact ⟨fun h => h.resolve_right e, .inl⟩
    simp only [this]
theorem lmedia_bad {ws : List Nat} {k : Nat} (hk : k < ws.length) (hb : s.bad (ws.getD k 0 / 8) = true) : lmedia s (ws.take k) = lmedia s (ws.take (k + 1)) := by
  have ht : ws.take (k + 1) = ws.take k ++ [ws.getD k 0] := by rw [List.take_succ, List.getD_eq_getElem?_getD]; simp [hk]
  funext w
  unfold lmedia
  rw [ht]
  by_cases e : w = ws.getD k 0
  · rw [if_neg (by rintro ⟨_, h⟩; rw [e, hb] at h; cases h), if_neg (by rintro ⟨_, h⟩; rw [e, hb] at h; cases h)]
  · have : (w ∈ ws.take k ++ [ws.getD k 0]) ↔ w ∈ ws.take k := by simp only [List.mem_append, List.mem_singleton]; exact ⟨fun h => h.resolve_right e, .inl⟩
    simp only [this]
theorem lbuf_step {ws : List Nat} {k : Nat} (hk : k < ws.length) : fset (lbuf s (ws.take k)) (ws.getD k 0) none = lbuf s (ws.take (k + 1)) := by
  have ht : ws.take (k + 1) = ws.take k ++ [ws.getD k 0] := by rw [List.take_succ, List.getD_eq_getElem?_getD]; simp [hk]
  funext w
  unfold fset lbuf
  rw [ht]
  by_cases e : w = ws.getD k 0
  · rw [if_pos e, if_pos (by rw [e]; simp)]
  · rw [if_neg e]
    have : (w ∈ ws.take k ++ [ws.getD k 0]) ↔ w ∈ ws.take k := by simp only [List.mem_append, List.mem_singleton]; exact ⟨fun h => h.resolve_right e, .inl⟩
    simp only [this]

theorem pm_Device_last.L2.c {G : Nat → Prop} {mb r wb bb c r1 wc : Nat} {ws : List Nat} {wa : Option Addr} (hw : ∀ w ∈ ws, w < 8 * s.nl ∧ s.buf w ≠ none) (hnd : ws.Nodup) (hn : ws.length < 1000000) (hFG : ∀ k, F k → G k) (hG : G r1)
    (n1 : r1 ≠ d ∧ r1 ≠ mb ∧ r1 ≠ r ∧ r1 ≠ wb ∧ r1 ≠ bb) : ∀ (j k : Nat) (h : Heap) (l l1 : List (Int × Value × Nat)) (c1 : Nat), k + j = ws.length →
    PmC F h d mb r wb bb l c { s with media := lmedia s (ws.take k), buf := lbuf s (ws.take k) } → h r1 = some (mapO (Value.int .i64) l1 c1) → LinesM s.nl l1 c1 → KeysOf' l1 (fun i => ∃ w ∈ ws.take k, w / 8 = i) →
    WordsAt h wa ws (fun b => b ≠ mb ∧ b ≠ r ∧ b ≠ r1) →
    (∀ h' l' l1' c1', PmC F h' d mb r wb bb l' c { s with media := lmedia s ws, buf := lbuf s ws } → h' r1 = some (mapO (Value.int .i64) l1' c1') → LinesM s.nl l1' c1' → KeysOf' l1' (fun i => ∃ w ∈ ws, w / 8 = i) → Step G h G h' →
      ∀ b, h' b = none → pm_Device_last.L11 (some ⟨d, 0, none⟩) b (upd h' b (iterO r1 c1' [] c1')) Q) →
    pm_Device_last.L2 (some ⟨d, 0, none⟩) (some r1) wa ws.length wc (ws.length : Int) (k : Int) h Q := by
  intro j
  induction j with
  | zero =>
    intro k h l l1 c1 hk w h1 m hp hwa hq
    have e : k = ws.length := by omega
    subst e
    rw [List.take_length] at w hp
    apply pm_Device_last.L2.ok
    refine xsIf_f (by simp) ⟨r1, rfl, l1, c1, h1, fun b hb => hq h l l1 c1 w h1 m hp (Step.refl _ _) b hb⟩
  | succ j ih =>
    intro k h l l1 c1 hk w h1 m hp hwa hq
    apply pm_Device_last.L2.ok
    have hk' : k < ws.length := by omega
    have hmem : ws.getD k 0 ∈ ws := by rw [List.getD_eq_getElem?_getD]; simp [hk']
    have hntake : ws.getD k 0 ∉ ws.take k := by
      intro hc
      obtain ⟨i, hi, hie⟩ := List.mem_iff_getElem.1 hc
      have hi' : i < k := by simp at hi; omega
      have hn' := List.pairwise_iff_getElem.1 (List.nodup_iff_pairwise_ne.1 hnd)
      refine hn' i k (by omega) hk' hi' ?_
      rw [List.getElem_take] at hie
      rw [hie, List.getD_eq_getElem?_getD]; simp [hk']
    obtain ⟨hlt, hbuf⟩ := hw _ hmem
    obtain ⟨x, hx⟩ := Option.ne_none_iff_exists'.1 hbuf
    have hx' : lbuf s (ws.take k) (ws.getD k 0) = some x := by unfold lbuf; rw [if_neg hntake]; exact hx
    obtain ⟨b, o, rfl, hnb, hcell⟩ := hwa k hk'
    have hi : s.nl ≤ 8192 := w.hi
    have eq8 : iquo .i64 ((ws.getD k 0 : Nat) : Int) 8 = ((ws.getD k 0 / 8 : Nat) : Int) := by rw [iquo_i64 (by omega) (by omega) (by omega)]; omega
    have ht : ws.take (k + 1) = ws.take k ++ [ws.getD k 0] := by rw [List.take_succ, List.getD_eq_getElem?_getD]; simp [hk']
    have e2 : IntKind.i64.wrap ((k : Int) + 1) = ((k + 1 : Nat) : Int) := by rw [i64_in _ (by omega)]; omega
    have hb8 : ws.getD k 0 / 8 < s.nl := by omega
    refine xsIf_t (decide_eq_true (by omega)) ⟨⟨by omega, by omega⟩, b, o, rfl, _, by rw [show (k : Int).toNat = k by omega]; exact hcell, d, 0, rfl, _, _, _, w.hd.cell _, ?_⟩
    rw [eq8]
    have go : ∀ (h2 : Heap), PmC F h2 d mb r wb bb l c { s with media := lmedia s (ws.take (k + 1)), buf := lbuf s (ws.take k) } → h2 r1 = some (mapO (Value.int .i64) l1 c1) → Step G h G h2 → (∀ q, q ≠ mb → h2 q = h q) →
        pm_Device_last.J7 (some ⟨d, 0, none⟩) (some r1) ((ws.getD k 0 : Nat) : Int) ((ws.getD k 0 / 8 : Nat) : Int) (some ⟨b, o, none⟩) ws.length wc (ws.length : Int) (k : Int) h2 Q := by
      intro h2 w2 h21 st hsame
      refine pm_Device_last.J7.c w2 hFG hG n1 h21 m hp hlt hx' fun h' l' l1' c1' w' h1' m' hp' st' hsame' => ?_
      rw [e2]
      refine ih (k + 1) h' l' l1' c1' (by omega) ?_ h1' m' ?_ ?_ fun h'' l'' l1'' c1'' w'' h1'' m'' hp'' st'' => hq h'' l'' l1'' c1'' w'' h1'' m'' hp'' ((st.trans st').trans st'')
      · rw [← lbuf_step hk']; exact w'
      · intro i
        rw [hp' i, ht]
        simp only [List.mem_append, List.mem_singleton]
        constructor
        · rintro (⟨q, hq1, hq2⟩ | h)
          · exact ⟨q, .inl hq1, hq2⟩
          · exact ⟨_, .inr rfl, h.symm⟩
        · rintro ⟨q, hq1 | hq1, hq2⟩
          · exact .inl ⟨q, hq1, hq2⟩
          · right; rw [← hq2, hq1]
      · intro i hi
        obtain ⟨b', o', e', hb', hc'⟩ := hwa i hi
        cases e'
        exact ⟨b, o, rfl, hnb, by rw [cell_same (hsame' b hnb.2.1 hnb.2.2), cell_same (hsame b hnb.1)]; exact hc'⟩
    refine ⟨⟨by omega, by show ((ws.getD k 0 / 8 : Nat) : Int) < (s.nl : Int); omega⟩, bb, 0, rfl, _, by rw [w.hb.cell, Nat.zero_add, Nat.mul_one]; exact row_get _ (by show _ < s.nl; omega), xsIf_intro (fun hb => ?_) (fun hb => ?_)⟩
    · have et : ((ws.getD k 0 / 8 : Nat) : Int).toNat = ws.getD k 0 / 8 := Int.toNat_natCast _
      rw [et, Bool.not_eq_true'] at hb
      have hb : s.bad (ws.getD k 0 / 8) = false := hb
      have store : ∀ v : Int, v = x.1 → (0 ≤ ((ws.getD k 0 : Nat) : Int) ∧ ((ws.getD k 0 : Nat) : Int) < ((8 * s.nl : Nat) : Int)) ∧ atBase (some (⟨mb, 0, none⟩ : Addr)) fun (b2 o2 : Nat) =>
          h.can b2 (o2 + ((ws.getD k 0 : Nat) : Int).toNat * 1) 1 ∧ pm_Device_last.J7 (some ⟨d, 0, none⟩) (some r1) ((ws.getD k 0 : Nat) : Int) ((ws.getD k 0 / 8 : Nat) : Int) (some ⟨b, o, none⟩) ws.length wc (ws.length : Int) (k : Int) (h.put b2 (o2 + ((ws.getD k 0 : Nat) : Int).toNat * 1) [.int .u64 v]) Q := by
        rintro v rfl
        refine ⟨⟨by omega, by omega⟩, mb, 0, rfl, w.hm.can (by rw [List.length_map, List.length_range]; show _ ≤ 8 * s.nl; omega), ?_⟩
        have ei : 0 + ((ws.getD k 0 : Nat) : Int).toNat * 1 = ws.getD k 0 := by omega
        rw [ei]
        have w2 := w.setMedia (i := ws.getD k 0) (v := x.1)
        refine go _ ?_ (by rw [put_other _ _ _ n1.2.1]; exact h1) (Step.put (hFG _ w.fm) _ _) fun q hq => put_other _ _ _ hq
        rw [← lmedia_step hk' hb hx]; exact w2
      refine ⟨d, 0, rfl, d, 0, rfl, _, w.hd.cell _, ⟨_, _, _, w.hd.cell _, r, rfl, l, c, w.hr, fun j v b' hj => ?_, fun hn' => ?_⟩, r, rfl, l, c, w.hr, fun j v b' hj => ?_, fun hn' => ?_⟩
      · obtain ⟨y, hy, hv⟩ := w.bm.found hj
        have hy : lbuf s (ws.take k) (ws.getD k 0) = some y := hy
        rw [hx'] at hy; cases hy
        exact ⟨_, _, hv, store _ rfl⟩
      · have := w.bm.lacks hn'
        have this : lbuf s (ws.take k) (ws.getD k 0) = none := this
        rw [hx'] at this; cases this
      · obtain ⟨y, hy, hv⟩ := w.bm.found hj
        have hy : lbuf s (ws.take k) (ws.getD k 0) = some y := hy
        rw [hx'] at hy; cases hy
        exact ⟨_, _, hv, _, _, _, w.hd.cell _, store _ rfl⟩
      · have := w.bm.lacks hn'
        have this : lbuf s (ws.take k) (ws.getD k 0) = none := this
        rw [hx'] at this; cases this
    · have et : ((ws.getD k 0 / 8 : Nat) : Int).toNat = ws.getD k 0 / 8 := Int.toNat_natCast _
      rw [et, Bool.not_eq_false'] at hb
      have hb : s.bad (ws.getD k 0 / 8) = true := hb
      refine go h ?_ h1 (Step.refl _ _) fun _ _ => rfl
      rw [← lmedia_bad hk' hb]; exact w
theorem wearA_lwear {l : List (Int × Value × Nat)} {ws : List Nat} (h : KeysOf' l (fun i => ∃ w ∈ ws, w / 8 = i)) : wearA s.wear l = lwear s ws := by
  funext i
  unfold wearA lwear
  simp only [h i]

theorem pm_Device_last.c {h : Heap} {wc : Nat} {ws : List Nat} {wa : Option Addr} (w : PmD F h d s) (hw : ∀ w ∈ ws, w < 8 * s.nl ∧ s.buf w ≠ none) (hnd : ws.Nodup) (hn : ws.length < 1000000) (hwa : WordsAt h wa ws (fun b => ¬ F b ∧ h b ≠ none))
    (hq : ∀ h', PmD F h' d (plast s ws) → Step F h F h' → Q (.tuple #[]) h') : C Try.prog 49 #[.pointer (some ⟨d, 0, none⟩), .slice wa ws.length wc] h Q := by
  obtain ⟨mb, r, wb, bb, l, c, w⟩ := w
  apply pm_Device_last.ok
  intro b hb
  have live : ∀ {k : Nat}, h k ≠ none → b ≠ k := fun hk e => hk (by rw [← e]; exact hb)
  have hr : h r ≠ none := by rw [w.hr]; simp
  have n1 : b ≠ d ∧ b ≠ mb ∧ b ≠ r ∧ b ≠ wb ∧ b ≠ bb := ⟨live w.hd.ne, live w.hm.ne, live hr, live w.hw.ne, live w.hb.ne⟩
  have w1 : PmC F (upd h b (Obj.map #[] 0)) d mb r wb bb l c s := w.other n1
  have e0 : lmedia s (ws.take 0) = s.media := by funext q; unfold lmedia; rw [if_neg (by rintro ⟨h, _⟩; simp at h)]
  have e1 : lbuf s (ws.take 0) = s.buf := by funext q; unfold lbuf; rw [if_neg (by simp)]
  refine pm_Device_last.L2.c (G := fun k => F k ∨ k = b) hw hnd hn (fun k hk => .inl hk) (.inr rfl) n1 ws.length 0 _ l [] 0 (by omega) (by rw [e0, e1]; exact w1) (by rw [upd_same]; rfl) ⟨⟨by simp, by simp, by simp, by simp⟩, by simp⟩ (fun i => by simp) (fun k hk => ?_) ?_
  · obtain ⟨b', o, e, hnb, hc⟩ := hwa k hk
    have hbb : b' ≠ b := (live hnb.2).symm
    exact ⟨b', o, e, ⟨fun e => hnb.1 (e ▸ w.fm), fun e => hnb.1 (e ▸ w.fr), hbb⟩, by rw [cell_same (upd_ne hbb)]; exact hc⟩
  · intro h2 l2 l1 c1 w2 hr1 m hp st b2 hb2
    have live2 : ∀ {k : Nat}, h2 k ≠ none → b2 ≠ k := fun hk e => hk (by rw [← e]; exact hb2)
    have hr2 : h2 r ≠ none := by rw [w2.hr]; simp
    have n2 : b2 ≠ d ∧ b2 ≠ mb ∧ b2 ≠ r ∧ b2 ≠ wb ∧ b2 ≠ bb := ⟨live2 w2.hd.ne, live2 w2.hm.ne, live2 hr2, live2 w2.hw.ne, live2 w2.hb.ne⟩
    have n3 : b2 ≠ b := live2 (by rw [hr1]; simp)
    refine pm_Device_last.L11.c (G := fun k => (F k ∨ k = b) ∨ k = b2) (l := l2) (c := c) (s := { s with media := lmedia s ws, buf := lbuf s ws }) (.inr rfl) (fun k hk => .inl (.inl hk)) m n2 n1.2.2.2.1 n3 _ [] _ (Nat.le_refl _) (by rw [upd_same]) (by rw [upd_ne n3.symm]; exact hr1) ?_ fun h3 w3 st3 => ?_
    · rw [wearN_nil]; exact w2.other n2
    · refine hq h3 ⟨mb, r, wb, bb, l2, c, ?_⟩ ?_
      · have e : wearA s.wear l1 = lwear s ws := wearA_lwear hp
        have w3 : PmC F h3 d mb r wb bb l2 c { s with media := lmedia s ws, buf := lbuf s ws, wear := wearA s.wear l1 } := w3
        rw [e] at w3
        exact w3
      · exact ((((Step.new hb _).trans st).trans (Step.new hb2 _)).trans st3).shrink fun k hk => .inl (.inl hk)
end
end Go.Gb
