/- Own text for the seat: Pm9. -/
import Derived.Test.YtbphidfhcijbhaaPm8
import Derived.Test.YtbphidfhcijbhaaDf1
set_option linter.unusedVariables false
set_option linter.unusedSimpArgs false
set_option linter.unnecessarySimpa false
set_option linter.deprecated false
namespace Go.Gb
open Go.Proofs IntWalk

/-! ## pm: fence -/

section
variable {h : Heap} {Q : Value → Heap → Prop} {cp : Nat} {ws : List Nat} {p : Nat → Bool} {del : Nat} {da dc : Array Value} {a : Option Addr}

theorem slices_DeleteFunc_int_int.c (hg : goOk Try.prog del = true) (hn : ws.length < 1000000) (hcp : ws.length ≤ cp)
    (ha : ws = [] ∨ ∃ b cs, a = some ⟨b, 0, none⟩ ∧ Blk h b cs ∧ cs.length = cp ∧ Lasts cs 0 ws ∧ DelOk h b ws p del da dc)
    (hq : ∀ h' b cs', a = some ⟨b, 0, none⟩ → Blk h' b cs' → Firsts cs' (ws.filter fun w => !p w).length (ws.filter fun w => !p w) → (∀ k, k ≠ b → h' k = h k) → Q (.slice a (ws.filter fun w => !p w).length cp) h')
    (hq0 : ws = [] → Q (.slice a 0 cp) h) : C Try.prog 50 #[.slice a ws.length cp, .func (.func del) da dc] h Q := by
  apply slices_DeleteFunc_int_int.ok
  apply slices_IndexFunc_int_int.ok
  rcases ha with rfl | ⟨b, cs, rfl, hb, hlen, hl, hd⟩
  · apply slices_IndexFunc_int_int.L2.ok
    exact xsIf_f (by simp) ⟨_, rfl, xsIf_t (by simp) (hq0 rfl)⟩
  · refine slices_IndexFunc_int_int.L2.c (p := p) hg hd hb hl hn ws.length 0 (by omega) (by simp) (fun i hi hpi hbef => ⟨_, rfl, xsIf_f (decide_eq_false (by omega)) ?_⟩) (fun hall => ⟨_, rfl, xsIf_t (by simp) ?_⟩)
    · have e2 : IntKind.i64.wrap ((i : Int) + 1) = ((i + 1 : Nat) : Int) := by rw [i64_in _ (by omega)]; omega
      rw [e2]
      have hf0 : (ws.take i).filter (fun w => !p w) = ws.take i := List.filter_eq_self.2 fun w hw => by rw [hbef w hw]; rfl
      have hfi : (ws.take (i + 1)).filter (fun w => !p w) = ws.take i := by
        rw [take_getD hi, List.filter_append, hf0]
        have : List.filter (fun w => !p w) [ws.getD i 0] = [] := by rw [List.filter_cons, hpi]; rfl
        rw [this, List.append_nil]
      refine slices_DeleteFunc_int_int.L5.c (h := h) (b0 := b) hg hd hn hcp (fun h' cs' h1 h2 h3 => hq h' b cs' rfl h1 h2 h3) (ws.length - (i + 1)) (i + 1) i h cs (by omega) (by omega) hb hlen ?_ (fun k h1 h2 => hl k (by omega) h2) (fun _ _ => rfl)
      rw [hfi]
      refine ⟨by rw [List.length_take]; omega, fun k hk => ?_⟩
      rw [List.length_take] at hk
      rw [hl k (by omega) (by omega), List.getD_eq_getElem?_getD (l := ws.take i), List.getElem?_take, if_pos (by omega), ← List.getD_eq_getElem?_getD]
    · have hf : ws.filter (fun w => !p w) = ws := List.filter_eq_self.2 fun w hw => by rw [hall w hw]; rfl
      have := hq h b cs rfl hb (by rw [hf]; exact ⟨rfl, fun k hk => hl k (by omega) hk⟩) (fun _ _ => rfl)
      rw [hf] at this
      exact this
end

section
variable {F : Nat → Prop} {h : Heap} {d : Nat} {s : PmS} {Q : Value → Heap → Prop}

/-- Isn't a word flushed? -/
def unflushed (s : PmS) (w : Nat) : Bool := match s.buf w with | some x => !x.2 | none => true

theorem pm_Device_Fence_1_1.c {k t1 : Nat} (w : PmD F h d s) (h1 : h.cell t1 0 = some (.pointer (some ⟨d, 0, none⟩))) (hq : Q (.bool (unflushed s k)) h) :
    C Try.prog 51 #[.int .i64 (k : Int), .pointer (some ⟨t1, 0, none⟩)] h Q := by
  obtain ⟨mb, r, wb, bb, l, c, w⟩ := w
  apply pm_Device_Fence_1_1.ok
  unfold unflushed at hq
  refine ⟨_, h1, d, 0, rfl, _, w.hd.cell _, r, rfl, l, c, w.hr, fun j v b hj => ?_, fun hn => ?_⟩
  · obtain ⟨x, hx, rfl⟩ := w.bm.found hj
    rw [hx] at hq
    exact ⟨_, _, rfl, hq⟩
  · rw [w.bm.lacks hn] at hq
    exact hq

def flushed (s : PmS) : List Nat := (pend s).filter fun w => !unflushed s w
def pfence (s : PmS) : Int × PmS := if (pbegin s 0 1).1 = 0 then (0, plast (pbegin s 0 1).2 (flushed (pbegin s 0 1).2)) else pbegin s 0 1

theorem pm_Device_Fence_1.c {t0 : Nat} (w : PmD F h d s) (hlv : Live F h) (h0 : h.cell t0 0 = some (.pointer (some ⟨d, 0, none⟩))) (ht : h t0 ≠ none)
    (hq : ∀ h', PmD F h' d (plast s (flushed s)) → Step F h F h' → Q (.tuple #[]) h') : C Try.prog 48 #[.pointer (some ⟨t0, 0, none⟩)] h Q := by
  apply pm_Device_Fence_1.ok
  have hnl : s.nl ≤ 8192 := by obtain ⟨mb, r, wb, bb, l, c, w⟩ := w; exact w.hi
  have hpl := pend_length s
  have key : ∀ (a : Option Addr) (cp : Nat) (h' : Heap), Part h h' → Sl (fun k => h k = none) h' 3 1 a (pend s).length cp (rowN (pend s)) →
      C Try.prog 50 #[.slice a (pend s).length cp, .func (.func 51) #[] #[.pointer (some ⟨t0, 0, none⟩)]] h' fun r h'' => ∃ (x : Option Addr) (n m : Nat), r = .slice x n m ∧ h''.cell t0 0 = some (.pointer (some ⟨d, 0, none⟩)) ∧ C Try.prog 49 #[.pointer (some ⟨d, 0, none⟩), .slice x n m] h'' fun _ h3 => Q (.tuple #[]) h3 := by
    intro a cp h' hp hsl
    have st : Step F h F h' := Step.of_part hp
    have w' : PmD F h' d s := w.keep fun k hk hn => part_live hp hn
    have hcell' : h'.cell t0 0 = some (.pointer (some ⟨d, 0, none⟩)) := by rw [cell_same (part_live hp ht)]; exact h0
    have hmemf : ∀ w ∈ flushed s, w < 8 * s.nl ∧ s.buf w ≠ none := fun w hw => pend_mem.1 (List.mem_filter.1 hw).1
    have hndf : (flushed s).Nodup := (pend_nodup s).sublist List.filter_sublist
    have hlenf : (flushed s).length < 1000000 := by have : (flushed s).length ≤ (pend s).length := List.length_filter_le _ _; omega
    have empty : pend s = [] → C Try.prog 49 #[.pointer (some ⟨d, 0, none⟩), .slice a 0 cp] h' fun _ h3 => Q (.tuple #[]) h3 := fun e => by
      have ef : flushed s = [] := by unfold flushed; rw [e]; rfl
      have := pm_Device_last.c (wc := cp) (wa := a) (Q := fun _ h3 => Q (.tuple #[]) h3) w' hmemf hndf hlenf (fun k hk => by rw [ef] at hk; simp at hk) fun h3 w3 st3 => hq h3 w3 (st.trans st3)
      rw [ef] at this
      exact this
    rcases hsl.place with ⟨rfl, hn0, rfl⟩ | ⟨b, cs, rfl, hbn, hbc, hsz, hle, htk⟩
    · have e : pend s = [] := List.eq_nil_of_length_eq_zero hn0
      exact slices_DeleteFunc_int_int.c (p := unflushed s) (by kernel_rfl) (by omega) (by omega) (.inl e) (fun h2 b cs' h1 _ _ _ => by cases h1) fun _ => ⟨_, _, _, rfl, hcell', empty e⟩
    · have hbF : ¬ F b := fun hf => hlv b hf hbn
      have hbt : t0 ≠ b := fun e => ht (by rw [e]; exact hbn)
      have hl : Lasts cs.toList 0 (pend s) := fun k _ hk => by
        have h2 : (cs.toList.take ((pend s).length * 1))[k]? = (rowN (pend s))[k]? := by rw [htk]
        rw [List.getElem?_take, if_pos (by omega)] at h2
        rw [h2, List.getElem?_map, List.getD_eq_getElem?_getD]
        simp [hk]
      have same : ∀ h2 : Heap, (∀ k, k ≠ b → h2 k = h' k) → PmD F h2 d s ∧ h2.cell t0 0 = some (.pointer (some ⟨d, 0, none⟩)) := fun h2 hs =>
        ⟨w'.keep fun k hk _ => hs k (fun e => hbF (e ▸ hk)), by rw [cell_same (hs t0 hbt)]; exact hcell'⟩
      refine slices_DeleteFunc_int_int.c (p := unflushed s) (by kernel_rfl) (by omega) hle (.inr ⟨b, cs.toList, rfl, ⟨_, by rw [hbc]⟩, by rw [Array.length_toList, hsz]; omega, hl, fun h2 Q' w1 hw1 hs hq' => ?_⟩) (fun h2 b' cs' hb' hblk hfirst hs => ?_) fun e => ⟨_, _, _, rfl, hcell', empty e⟩
      · obtain ⟨w2, hc2⟩ := same h2 hs
        exact pm_Device_Fence_1_1.c w2 hc2 hq'
      · cases hb'
        obtain ⟨w2, hc2⟩ := same h2 hs
        refine ⟨_, _, _, rfl, hc2, pm_Device_last.c w2 hmemf hndf hlenf (fun k hk => ⟨b, 0, rfl, ⟨hbF, hblk.ne⟩, ?_⟩) fun h3 w3 st3 => hq h3 w3 ?_⟩
        · rw [hblk.cell, show 0 + k * 1 = k by omega]
          exact hfirst.2 k hk
        · have hs2 : ∀ k, h k ≠ none → h2 k = h k := fun k hk => (hs k (fun e => hk (by rw [e]; exact hbn))).trans (part_live hp hk)
          have hst2 : Step F h F h2 := ⟨fun k _ hk => hs2 k hk, fun _ hk => .inl hk, fun k hk => by rw [hs2 k hk]; exact hk, fun hl k hk => by rw [hs2 k (hl k hk)]; exact hl k hk⟩
          exact hst2.trans st3
  refine ⟨_, h0, ⟨_, h0, pm_Device_Pending.c w fun a cp h' hp hsl => ⟨_, _, _, rfl, (key a cp h' hp hsl).mono ?_⟩⟩, pm_Device_Pending.c w fun a cp h' hp hsl => ⟨_, _, _, rfl, ⟨_, by rw [cell_same (part_live hp ht)]; exact h0, (key a cp h' hp hsl).mono ?_⟩, (key a cp h' hp hsl).mono ?_⟩⟩
  · rintro v h2 ⟨x, n, m, rfl, _, hc⟩; exact ⟨_, _, _, rfl, hc⟩
  · rintro v h2 ⟨x, n, m, rfl, _, hc⟩; exact ⟨_, _, _, rfl, hc⟩
  · rintro v h2 ⟨x, n, m, rfl, hc0, hc⟩; exact ⟨_, _, _, rfl, _, hc0, hc⟩
end
end Go.Gb
