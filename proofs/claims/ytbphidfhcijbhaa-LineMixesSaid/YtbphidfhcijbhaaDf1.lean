/- Own text for the seat: Df1. -/
import Derived.Test.YtbphidfhcijbhaaW
import Derived.Test.YtbphidfhcijbhaaGbOwn
import Derived.Test.YtbphidfhcijbhaaGbClose
import Derived.Test.YtbphidfhcijbhaaGbSl
set_option linter.unusedVariables false
set_option linter.unusedSimpArgs false
set_option linter.unnecessarySimpa false
set_option linter.deprecated false
namespace Go.Gb
open Go.Proofs IntWalk

/-! ## slices.DeleteFunc over numbers -/

theorem setL_before : ∀ (vs cs : List Value) (o j : Nat), j < o → (setL cs o vs)[j]? = cs[j]? := by
  intro vs
  induction vs with
  | nil => intro cs o j _; rfl
  | cons v r ih =>
    intro cs o j h
    show (setL (cs.set o v) (o + 1) r)[j]? = _
    rw [ih _ _ _ (by omega), List.getElem?_set_ne (by omega)]

section
variable {h : Heap} {Q : Value → Heap → Prop} {b0 cp : Nat} {cs : List Value} {ws : List Nat} {p : Nat → Bool} {del : Nat} {da dc : Array Value}

/-- The rule holds what it promises wherever the row's block alone is another. -/
def DelOk (h : Heap) (b0 : Nat) (ws : List Nat) (p : Nat → Bool) (del : Nat) (da dc : Array Value) : Prop :=
  ∀ (h' : Heap) (Q' : Value → Heap → Prop) (w : Nat), w ∈ ws → (∀ k, k ≠ b0 → h' k = h k) → Q' (.bool (p w)) h' → C Try.prog del (List.toArray (da.toList ++ [.int .i64 (w : Int)] ++ dc.toList)) h' Q'

def Firsts (cs : List Value) (i : Nat) (l : List Nat) : Prop := i = l.length ∧ ∀ k, k < l.length → cs[k]? = some (.int .i64 ((l.getD k 0 : Nat) : Int))
def Lasts (cs : List Value) (j : Nat) (ws : List Nat) : Prop := ∀ k, j ≤ k → k < ws.length → cs[k]? = some (.int .i64 ((ws.getD k 0 : Nat) : Int))

theorem getD_mem {ws : List Nat} {k : Nat} (h : k < ws.length) : ws.getD k 0 ∈ ws := by rw [List.getD_eq_getElem?_getD]; simp [h]
theorem take_getD {ws : List Nat} {k : Nat} (h : k < ws.length) : ws.take (k + 1) = ws.take k ++ [ws.getD k 0] := by rw [List.take_succ, List.getD_eq_getElem?_getD]; simp [h]

theorem slices_IndexFunc_int_int.L2.c (hg : goOk Try.prog del = true) (hd : DelOk h b0 ws p del da dc) (hb : Blk h b0 cs) (hl : Lasts cs 0 ws) (hn : ws.length < 1000000) : ∀ (j k : Nat), k + j = ws.length → (∀ w ∈ ws.take k, p w = false) →
    (∀ i, i < ws.length → p (ws.getD i 0) = true → (∀ w ∈ ws.take i, p w = false) → Q (.int .i64 (i : Int)) h) → ((∀ w ∈ ws, p w = false) → Q (.int .i64 (-1)) h) → slices_IndexFunc_int_int.L2 (some ⟨b0, 0, none⟩) ws.length cp del da dc (ws.length : Int) (k : Int) h Q := by
  intro j
  induction j with
  | zero =>
    intro k hk hp h1 h2
    apply slices_IndexFunc_int_int.L2.ok
    have e : k = ws.length := by omega
    subst e
    rw [List.take_length] at hp
    exact xsIf_f (by simp) (h2 hp)
  | succ j ih =>
    intro k hk hp h1 h2
    apply slices_IndexFunc_int_int.L2.ok
    have hk' : k < ws.length := by omega
    have e2 : IntKind.i64.wrap ((k : Int) + 1) = ((k + 1 : Nat) : Int) := by rw [i64_in _ (by omega)]; omega
    refine xsIf_t (decide_eq_true (by omega)) ⟨⟨by omega, by omega⟩, b0, 0, rfl, _, by rw [hb.cell, show 0 + (k : Int).toNat * 1 = k by omega]; exact hl k (by omega) hk', xsIf_t hg (hd h _ _ (getD_mem hk') (fun _ _ => rfl) ⟨_, rfl, xsIf_intro (fun hp1 => h1 k hk' hp1 hp) (fun hp1 => ?_)⟩)⟩
    rw [e2]
    refine ih (k + 1) (by omega) ?_ h1 h2
    rw [take_getD hk']
    intro w hw
    rcases List.mem_append.1 hw with h3 | h3
    · exact hp w h3
    · simp only [List.mem_singleton] at h3; rw [h3]; exact hp1

theorem slices_DeleteFunc_int_int.L5.c (hg : goOk Try.prog del = true) (hd : DelOk h b0 ws p del da dc) (hn : ws.length < 1000000) (hcp : ws.length ≤ cp)
    (hq : ∀ h' cs', Blk h' b0 cs' → Firsts cs' (ws.filter fun w => !p w).length (ws.filter fun w => !p w) → (∀ k, k ≠ b0 → h' k = h k) → Q (.slice (some ⟨b0, 0, none⟩) (ws.filter fun w => !p w).length cp) h') :
    ∀ (m j i : Nat) (h2 : Heap) (cs : List Value), j + m = ws.length → i ≤ j → Blk h2 b0 cs → cs.length = cp → Firsts cs i ((ws.take j).filter fun w => !p w) → Lasts cs j ws → (∀ k, k ≠ b0 → h2 k = h k) →
      slices_DeleteFunc_int_int.L5 (some ⟨b0, 0, none⟩) ws.length cp del da dc (i : Int) (j : Int) h2 Q := by
  intro m
  induction m with
  | zero =>
    intro j i h2 cs hj hij hb hlen hf hl hs
    have e : j = ws.length := by omega
    subst e
    rw [List.take_length] at hf
    apply slices_DeleteFunc_int_int.L5.ok
    have hbase : slBase (some (⟨b0, 0, none⟩ : Addr)) (cp : Int) 0 1 = some ⟨b0, 0, none⟩ := by unfold slBase; split <;> simp [Addr.add]
    have ei : ((i : Int) - 0).toNat = i := by omega
    have ec : ((cp : Int) - 0).toNat = cp := by omega
    refine xsIf_f (by simp) ⟨⟨by omega, by omega⟩, fun h0 => ⟨⟨by omega, by omega⟩, ?_⟩, fun h0 => ?_⟩
    · rw [hbase, ei, ec, hf.1]
      refine hq h2 cs hb ?_ hs
      exact ⟨rfl, hf.2⟩
    · have hb1 : slBase (some (⟨b0, 0, none⟩ : Addr)) (cp : Int) (i : Int) 1 = some ⟨b0, i, none⟩ := by
        unfold slBase
        rw [if_neg (by omega)]
        simp [Addr.add]
        try omega
      rw [hb1]
      refine ⟨b0, i, rfl, hb.can (by omega), ⟨by omega, by omega⟩, ?_⟩
      rw [hbase, ei, ec, hf.1]
      refine hq _ _ (hb.put _ _) ⟨rfl, fun k hk => ?_⟩ fun k hk => by rw [put_other _ _ _ hk]; exact hs k hk
      have hki : k < i := by rw [hf.1]; exact hk
      rw [hf.1] at hki
      rw [setL_before _ _ _ _ hki]
      exact hf.2 k hk
  | succ m ih =>
    intro j i h2 cs hj hij hb hlen hf hl hs
    apply slices_DeleteFunc_int_int.L5.ok
    have hj' : j < ws.length := by omega
    have e1 : IntKind.i64.wrap ((i : Int) + 1) = ((i + 1 : Nat) : Int) := by rw [i64_in _ (by omega)]; omega
    have e2 : IntKind.i64.wrap ((j : Int) + 1) = ((j + 1 : Nat) : Int) := by rw [i64_in _ (by omega)]; omega
    have hc := hl j (by omega) hj'
    refine xsIf_t (decide_eq_true (by omega)) ⟨⟨by omega, by omega⟩, b0, 0, rfl, _, by rw [hb.cell, show 0 + (j : Int).toNat * 1 = j by omega]; exact hc, xsIf_t hg (hd h2 _ _ (getD_mem hj') hs ⟨_, rfl, xsIf_intro (fun hp1 => ?_) (fun hp1 => ?_)⟩)⟩
    · have hp1 : p (ws.getD j 0) = false := by rw [Bool.not_eq_true'] at hp1; exact hp1
      have hil : i < cs.length := by omega
      refine ⟨⟨by omega, by omega⟩, b0, 0, rfl, hb.can (by omega), ?_⟩
      rw [e1, e2, show 0 + (i : Int).toNat * 1 = i by omega]
      have hb2 := hb.put i [.int .i64 ((ws.getD j 0 : Nat) : Int)]
      rw [setL_one] at hb2
      refine ih (j + 1) (i + 1) _ _ (by omega) (by omega) hb2 (by rw [List.length_set]; exact hlen) ?_ ?_ fun k hk => by rw [put_other _ _ _ hk]; exact hs k hk
      · rw [take_getD hj', List.filter_append]
        have hfs : List.filter (fun w => !p w) [ws.getD j 0] = [ws.getD j 0] := by rw [List.filter_cons, hp1]; rfl
        rw [hfs]
        refine ⟨by rw [List.length_append, ← hf.1]; rfl, fun k hk => ?_⟩
        rw [List.length_append, ← hf.1] at hk
        have hk : k < i + 1 := hk
        rw [List.getElem?_set]
        by_cases e : i = k
        · subst e
          rw [if_pos rfl, if_pos hil]
          rw [List.getD_eq_getElem?_getD (l := List.filter _ _ ++ _), List.getElem?_append_right (by rw [← hf.1]; omega), ← hf.1]
          simp
        · rw [if_neg e, hf.2 k (by rw [← hf.1]; omega)]
          rw [List.getD_eq_getElem?_getD (l := List.filter _ _ ++ _), List.getElem?_append_left (by rw [← hf.1]; omega), ← List.getD_eq_getElem?_getD]
      · intro k hk1 hk2
        rw [List.getElem?_set_ne (by omega)]
        exact hl k (by omega) hk2
    · have hp1 : p (ws.getD j 0) = true := by rw [Bool.not_eq_false'] at hp1; exact hp1
      rw [e2]
      refine ih (j + 1) i h2 cs (by omega) (by omega) hb hlen ?_ (fun k hk1 hk2 => hl k (by omega) hk2) hs
      rw [take_getD hj', List.filter_append]
      have hfs : List.filter (fun w => !p w) [ws.getD j 0] = [] := by rw [List.filter_cons, hp1]; rfl
      rw [hfs, List.append_nil]
      exact hf
end
end Go.Gb
