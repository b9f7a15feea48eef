/- Own text for the seat: Pm11. -/
import Derived.Test.YtbphidfhcijbhaaPm10
set_option linter.unusedVariables false
set_option linter.unusedSimpArgs false
set_option linter.unnecessarySimpa false
set_option linter.deprecated false
namespace Go.Gb
open Go.Proofs IntWalk

/-! ## pm: boot -/

/-- Of the pending words, the first k: those that are kept. -/
def keptN (ps : List Nat) (ks : List Bool) : Nat → List Nat
  | 0 => []
  | k + 1 => keptN ps ks k ++ (if ks.getD k false = true then [ps.getD k 0] else [])

def pboot (s : PmS) (ks : List Bool) : PmS := { plast s (keptN (pend s) ks (pend s).length) with buf := fun _ => none, off := false, fuse := 0 }

theorem keptN_mem {ps : List Nat} {ks : List Bool} : ∀ (k w : Nat), k ≤ ps.length → w ∈ keptN ps ks k → ∃ i, i < k ∧ w = ps.getD i 0
  | 0, w, _, h => by simp [keptN] at h
  | k + 1, w, hk, h => by
    unfold keptN at h
    rcases List.mem_append.1 h with h | h
    · obtain ⟨i, hi, e⟩ := keptN_mem k w (by omega) h
      exact ⟨i, by omega, e⟩
    · split at h
      · simp only [List.mem_singleton] at h; exact ⟨k, by omega, h⟩
      · cases h
theorem keptN_len {ps : List Nat} {ks : List Bool} : ∀ (k : Nat), (keptN ps ks k).length ≤ k
  | 0 => by simp [keptN]
  | k + 1 => by
    unfold keptN
    rw [List.length_append]
    have := keptN_len (ps := ps) (ks := ks) k
    split <;> simp <;> omega
theorem keptN_nodup {ps : List Nat} {ks : List Bool} (hn : ps.Nodup) : ∀ (k : Nat), k ≤ ps.length → (keptN ps ks k).Nodup
  | 0, _ => by simp [keptN]
  | k + 1, hk => by
    unfold keptN
    rw [List.nodup_append]
    refine ⟨keptN_nodup hn k (by omega), by split <;> simp, ?_⟩
    intro a ha b hb
    split at hb
    · simp only [List.mem_singleton] at hb
      obtain ⟨i, hi, rfl⟩ := keptN_mem k a (by omega) ha
      subst hb
      have hn' := List.pairwise_iff_getElem.1 (List.nodup_iff_pairwise_ne.1 hn) i k (by omega) (by omega) hi
      rw [List.getD_eq_getElem?_getD, List.getD_eq_getElem?_getD]
      simpa [show i < ps.length by omega, show k < ps.length by omega] using hn'
    · cases hb

/-- Where the row of bools stands. -/
def BoolsAt (h : Heap) (a : Option Addr) (ks : List Bool) : Prop := ∀ k, k < ks.length → ∃ b o, a = some ⟨b, o, none⟩ ∧ h b ≠ none ∧ h.cell b (o + k * 1) = some (.bool (ks.getD k false))

section
variable {F : Nat → Prop} {h0 : Heap} {d : Nat} {s : PmS} {Q : Value → Heap → Prop}

theorem pm_Device_Boot.L3.c {ks : List Bool} {ka pa : Option Addr} {kc pc : Nat} (w : PmD F h0 d s) (hlv : Live F h0) (hks : BoolsAt h0 ka ks)
    (hq : ∀ h', PmD F h' d (pboot s ks) → Step F h0 F h' → Q (.tuple #[]) h') : ∀ (j k : Nat) (h : Heap) (G : Nat → Prop) (a : Option Addr) (n c : Nat), k + j = (pend s).length →
      Sl G h 3 1 a n c (rowN (keptN (pend s) ks k)) → n = (keptN (pend s) ks k).length → (∀ q, h0 q ≠ none → h q = h0 q) → (∀ q, G q → h0 q = none) →
      (∀ i, i < (pend s).length → ∃ b o, pa = some ⟨b, o, none⟩ ∧ ¬ G b ∧ h b ≠ none ∧ h.cell b (o + i * 1) = some (.int .i64 (((pend s).getD i 0 : Nat) : Int))) →
      pm_Device_Boot.L3 (some ⟨d, 0, none⟩) ka ks.length kc a n c pa (pend s).length pc ((pend s).length : Int) (k : Int) h Q := by
  have hnl : s.nl ≤ 8192 := by obtain ⟨mb, r, wb, bb, l, c, w⟩ := w; exact w.hi
  have hpl := pend_length s
  intro j
  induction j with
  | zero =>
    intro k h G a n c hk hsl hn hsame hG hp
    have e : k = (pend s).length := by omega
    subst e
    apply pm_Device_Boot.L3.ok
    have w1 : PmD F h d s := w.keep fun q _ hq => hsame q hq
    have hmem : ∀ w ∈ keptN (pend s) ks (pend s).length, w < 8 * s.nl ∧ s.buf w ≠ none := fun w hw => by
      obtain ⟨i, hi, rfl⟩ := keptN_mem _ w (Nat.le_refl _) hw
      exact pend_mem.1 (getD_mem hi)
    have hlen := keptN_len (ps := pend s) (ks := ks) (pend s).length
    have st0 : Step F h0 F h := ⟨fun q _ hq => hsame q hq, fun _ hq => .inl hq, fun q hq => by rw [hsame q hq]; exact hq, fun hl q hq => by rw [hsame q (hl q hq)]; exact hl q hq⟩
    subst hn
    refine xsIf_f (by simp) (pm_Device_last.c w1 hmem (keptN_nodup (pend_nodup s) _ (Nat.le_refl _)) (by omega) (fun i hi => ?_) fun h2 w2 st2 => ?_)
    · rcases hsl.place with ⟨_, hz, _⟩ | ⟨b, cs, rfl, hbG, hbc, hsz, hle, htk⟩
      · omega
      · refine ⟨b, 0, rfl, ⟨fun hf => hlv b hf (hG b hbG), by rw [hbc]; simp⟩, ?_⟩
        have h3 : (cs.toList.take ((keptN (pend s) ks (pend s).length).length * 1))[i]? = (rowN (keptN (pend s) ks (pend s).length))[i]? := by rw [htk]
        rw [List.getElem?_take, if_pos (by omega)] at h3
        rw [Blk.cell (cs := cs.toList) ⟨_, by rw [hbc]⟩, show 0 + i * 1 = i by omega, h3, List.getElem?_map, List.getD_eq_getElem?_getD]
        simp [hi]
    · obtain ⟨mb, r, wb, bb, l, c2, w2⟩ := w2
      have ne := w2.ne
      have bm : BufM (8 * s.nl) (fun _ => none) [] c2 := ⟨⟨by simp, by simp, by simp, by simp⟩, by simp, by simp⟩
      have w3 := w2.setBuf (l' := []) (c' := c2) (buf := fun _ => none) bm
      refine ⟨d, 0, rfl, _, w2.hd.cell _, r, rfl, l, c2, w2.hr, d, 0, rfl, w3.hd.can (by simp), d, 0, rfl, (w3.hd.put 5 _).can (by rw [setL_length]; simp), ?_⟩
      refine hq _ ⟨mb, r, wb, bb, [], c2, ?_⟩ ((st0.trans st2).trans (((Step.set w2.fr _).trans (Step.put w2.fd _ _)).trans (Step.put w2.fd _ _)))
      exact pburn_keep w3 (f := 0) (o := false) (n := s.count) (by omega) (by omega) ((w3.hd.put 5 [.bool false]).put 4 [.int .i64 0]) fun q hq => by rw [put_other _ _ _ hq, put_other _ _ _ hq]
  | succ j ih =>
    intro k h G a n c hk hsl hn hsame hG hp
    have hk' : k < (pend s).length := by omega
    apply pm_Device_Boot.L3.ok
    obtain ⟨b, o, rfl, hbG, hbn, hbc⟩ := hp k hk'
    have e2 : IntKind.i64.wrap ((k : Int) + 1) = ((k + 1 : Nat) : Int) := by rw [i64_in _ (by omega)]; omega
    have skip : ks.getD k false ≠ true → pm_Device_Boot.J7 (some ⟨d, 0, none⟩) ka ks.length kc a n c (some ⟨b, o, none⟩) (pend s).length pc ((pend s).length : Int) (k : Int) h Q := fun hne => by
      apply pm_Device_Boot.J7.ok
      show pm_Device_Boot.L3 _ _ _ _ _ _ _ _ _ _ _ (IntKind.i64.wrap ((k : Int) + 1)) _ _
      rw [e2]
      have ek : keptN (pend s) ks (k + 1) = keptN (pend s) ks k := by show _ ++ _ = _; rw [if_neg hne, List.append_nil]
      exact ih (k + 1) h G a n c (by omega) (by rw [ek]; exact hsl) (by rw [ek]; exact hn) hsame hG hp
    refine xsIf_t (decide_eq_true (by omega)) ⟨⟨by omega, by omega⟩, b, o, rfl, _, by rw [show (k : Int).toNat = k by omega]; exact hbc, xsIf_intro (fun h1 => ?_) (fun h1 => ?_)⟩
    · have h1 : k < ks.length := by have := of_decide_eq_true h1; omega
      obtain ⟨b', o', rfl, hkn, hkc⟩ := hks k h1
      refine ⟨⟨by omega, by omega⟩, b', o', rfl, _, by rw [show (k : Int).toNat = k by omega, cell_same (hsame b' hkn)]; exact hkc, xsIf_intro (fun h2 => ?_) (fun h2 => skip (by rw [h2]; simp))⟩
      intro bn hbn'
      have ek : keptN (pend s) ks (k + 1) = keptN (pend s) ks k ++ [(pend s).getD k 0] := by show _ ++ _ = _; rw [if_pos h2]
      have hlk := keptN_len (ps := pend s) (ks := ks) k
      refine hsl.snoc hbn' (by kernel_rfl) (by omega) rfl rfl (by kernel_rfl) ?_ fun a' c' G' h' hsl' st hGG => ?_
      · have e8 : cellBytes Try.prog 3 = 8 := by kernel_rfl
        rw [e8]; omega
      · apply pm_Device_Boot.J7.ok
        show pm_Device_Boot.L3 _ _ _ _ _ _ _ _ _ _ _ (IntKind.i64.wrap ((k : Int) + 1)) _ _
        rw [e2]
        have hs' : ∀ q, h0 q ≠ none → h' q = h0 q := fun q hq0 => (st.keep q (fun hg => hq0 (hG q hg)) (by rw [hsame q hq0]; exact hq0)).trans (hsame q hq0)
        refine ih (k + 1) h' G' a' (n + 1) c' (by omega) ?_ ?_ hs' (fun q hq' => ?_) fun i hi => ?_
        · rw [ek]
          show Sl G' h' _ 1 a' (n + 1) c' (List.map _ (_ ++ _))
          rw [List.map_append]; exact hsl'
        · rw [ek, List.length_append, hn]; rfl
        · rcases st.sub q hq' with hg | hg
          · exact hG q hg
          · cases e : h0 q with
            | none => rfl
            | some o => have := hsame q (by rw [e]; simp); rw [hg, e] at this; cases this
        · obtain ⟨b2, o2, e, g1, g2, g3⟩ := hp i hi
          cases e
          refine ⟨b, o, rfl, fun hg => ?_, st.live b g2, by rw [cell_same (st.keep b g1 g2)]; exact g3⟩
          rcases st.sub b hg with hg | hg
          · exact g1 hg
          · exact g2 hg
    · exact skip (by
        have := of_decide_eq_false h1
        rw [List.getD_eq_getElem?_getD, List.getElem?_eq_none (by omega)]; simp)

theorem pm_Device_Boot.c {ks : List Bool} {ka : Option Addr} {kc : Nat} (w : PmD F h0 d s) (hlv : Live F h0) (hks : BoolsAt h0 ka ks)
    (hq : ∀ h', PmD F h' d (pboot s ks) → Step F h0 F h' → Q (.tuple #[]) h') : C Try.prog 18 #[.pointer (some ⟨d, 0, none⟩), .slice ka ks.length kc] h0 Q := by
  apply pm_Device_Boot.ok
  refine xsIf_f rfl (pm_Device_Pending.c w fun a cp h' hp hsl => ⟨_, _, _, rfl, ?_⟩)
  refine pm_Device_Boot.L3.c w hlv hks hq (pend s).length 0 h' (fun _ => False) none 0 0 (by omega) (Sl.nil _ _ _ _) rfl (fun q hq => part_live hp hq) (fun q hq => hq.elim) fun i hi => ?_
  rcases hsl.place with ⟨_, hz, _⟩ | ⟨b, cs, rfl, hbn, hbc, hsz, hle, htk⟩
  · omega
  · refine ⟨b, 0, rfl, id, by rw [hbc]; simp, ?_⟩
    have h3 : (cs.toList.take ((pend s).length * 1))[i]? = (rowN (pend s))[i]? := by rw [htk]
    rw [List.getElem?_take, if_pos (by omega)] at h3
    rw [Blk.cell (cs := cs.toList) ⟨_, by rw [hbc]⟩, show 0 + i * 1 = i by omega, h3, List.getElem?_map, List.getD_eq_getElem?_getD]
    simp [hi]
end
end Go.Gb
