/- Own text for the seat: Desc3. -/
import Derived.Test.YtmonhmmnnekniabDesc2
set_option linter.unusedVariables false
set_option linter.unusedSimpArgs false
set_option linter.unnecessarySimpa false
set_option linter.deprecated false
namespace Go.Gb
open Go.Proofs IntWalk

/-! ## desc, by definition -/

/-- client, number, inode, flags, place -/
abbrev Row5 := Nat × Nat × Int × Int × Int
def rowV (e : Row5) : List Value := [.int .i64 e.1, .int .i64 e.2.1, .int .i64 e.2.2.1, .int .i64 e.2.2.2.1, .int .i64 e.2.2.2.2]
theorem rowV_length (e : Row5) : (rowV e).length = 5 := rfl

structure Refs (G : Nat → Prop) (h : Heap) (m nc : Nat) (L : List Row5) (a : Option Addr) (c : Nat) : Prop where
  gm : G m
  bm : Blk h m [.int .i64 nc, .slice a L.length c]
  sl : Sl (fun k => G k ∧ k ≠ m) h 66 5 a L.length c (L.flatMap rowV)

theorem Refs.keep {G : Nat → Prop} {h h' : Heap} {m nc cp : Nat} {L : List Row5} {a : Option Addr} (w : Refs G h m nc L a cp) (e : ∀ k, G k → h k ≠ none → h' k = h k) : Refs G h' m nc L a cp :=
  ⟨w.gm, w.bm.keep (e _ w.gm w.bm.ne), w.sl.keep (fun _ h => h) (fun k hk => e k hk.1)⟩

section
variable {G : Nat → Prop} {h : Heap} {m nc cp : Nat} {L : List Row5} {a : Option Addr} {Q : Value → Heap → Prop}

/-- An element's cells. -/
theorem Refs.at (w : Refs G h m nc L a cp) {i : Nat} {e : Row5} (hi : L[i]? = some e) {K : Nat → Nat → Prop} (hk : ∀ b, (∀ j, j < 5 → h.cell b (0 + i * 5 + j) = (rowV e)[j]?) → K b 0) : atBase a K := by
  have hlt : i < L.length := (List.getElem?_eq_some_iff.1 hi).1
  refine w.sl.base (by omega) fun b _ hc _ _ => hk b fun j hj => ?_
  rw [Nat.add_assoc, hc _ (by omega), flat_get rowV_length L i j e hi hj]

theorem gabionref23_Find.L4.c {client fd : Int} (w : Refs G h m nc L a cp) (hL : L.length ≤ 1000000)
    (hnone : (∀ e, e ∈ L → ¬ ((e.1 : Int) = client ∧ (e.2.1 : Int) = fd)) → Q (.tuple #[.int .i64 0, .int .i64 19]) h)
    (hsome : ∀ (i : Nat) (e : Row5), L[i]? = some e → (e.1 : Int) = client → (e.2.1 : Int) = fd → Q (.tuple #[.int .i64 i, .int .i64 0]) h) :
    ∀ (j i : Nat), i + j = L.length → (∀ k e, k < i → L[k]? = some e → ¬ ((e.1 : Int) = client ∧ (e.2.1 : Int) = fd)) → gabionref23_Find.L4 (some ⟨m, 0, none⟩) client fd i h Q := by
  intro j
  induction j with
  | zero =>
    intro i hi hall
    apply gabionref23_Find.L4.ok
    refine ⟨m, 0, rfl, _, _, _, w.bm.cell _, xsIf_f (by simp; omega) (hnone fun e he => ?_)⟩
    obtain ⟨k, hk⟩ := List.getElem?_of_mem he
    exact hall k e (by have := (List.getElem?_eq_some_iff.1 hk).1; omega) hk
  | succ j ih =>
    intro i hi hall
    have hlt : i < L.length := by omega
    have hg : L[i]? = some L[i] := List.getElem?_eq_getElem hlt
    apply gabionref23_Find.L4.ok
    refine ⟨m, 0, rfl, _, _, _, w.bm.cell _, xsIf_t (by simp; omega) ⟨m, 0, rfl, _, _, _, w.bm.cell _, by omega, w.at hg fun b hc => ⟨_, by rw [Int.toNat_natCast]; exact hc 0 (by omega), ?_⟩⟩⟩
    rw [i64_in _ (by omega)]
    have next : ¬ ((L[i].1 : Int) = client ∧ (L[i].2.1 : Int) = fd) → gabionref23_Find.L4 (some ⟨m, 0, none⟩) client fd ((i : Int) + 1) h Q := fun hn => ih (i + 1) (by omega) fun k e hk he => by
      by_cases e2 : k = i
      · subst e2; rw [hg] at he; cases he; exact hn
      · exact hall k e (by omega) he
    refine xsIf_intro (fun h1 => ⟨m, 0, rfl, _, _, _, w.bm.cell _, by omega, w.at hg fun b hc => ⟨_, by rw [Int.toNat_natCast]; exact hc 1 (by omega), xsIf_intro (fun h2 => ?_) (fun h2 => next ?_)⟩⟩) (fun h1 => next ?_)
    · exact hsome i _ hg (by simpa using h1) (by simpa using h2)
    · intro e; simp at h2; exact h2 e.2
    · intro e; simp at h1; exact h1 e.1

theorem gabionref23_Find.c {client fd : Int} (w : Refs G h m nc L a cp) (hL : L.length ≤ 1000000)
    (hbad : ¬ (0 ≤ client ∧ client < nc) → Q (.tuple #[.int .i64 0, .int .i64 2]) h)
    (hnone : 0 ≤ client → client < nc → (∀ e, e ∈ L → ¬ ((e.1 : Int) = client ∧ (e.2.1 : Int) = fd)) → Q (.tuple #[.int .i64 0, .int .i64 19]) h)
    (hsome : ∀ (i : Nat) (e : Row5), 0 ≤ client → client < nc → L[i]? = some e → (e.1 : Int) = client → (e.2.1 : Int) = fd → Q (.tuple #[.int .i64 i, .int .i64 0]) h) :
    C Try.prog 26 #[.pointer (some ⟨m, 0, none⟩), .int .i64 client, .int .i64 fd] h Q := by
  apply gabionref23_Find.ok
  refine xsIf_intro (fun h1 => hbad (by simp at h1; omega)) (fun h1 => ⟨m, 0, rfl, _, w.bm.cell _, xsIf_intro (fun h2 => hbad (by simp at h2; omega)) (fun h2 => ?_)⟩)
  simp at h1 h2
  apply gabionref23_Find.J3.ok
  exact gabionref23_Find.L4.c w hL (hnone h1 (by omega)) (fun i e => hsome i e h1 (by omega)) L.length 0 (by omega) (fun k e hk => absurd hk (Nat.not_lt_zero k))

theorem ref5_cells : cellSize Try.prog 66 = 5 ∧ (cellZero Try.prog 66).length = 5 ∧ cellBytes Try.prog 66 = 40 := ⟨by kernel_rfl, by kernel_rfl, by kernel_rfl⟩

theorem flat_snoc (L : List Row5) (e : Row5) : (L ++ [e]).flatMap rowV = L.flatMap rowV ++ rowV e := by simp [List.flatMap_append]

theorem gabionref23_Add.bad {client n flags : Int} (w : Refs G h m nc L a cp) (hb : ¬ (0 ≤ client ∧ client < nc ∧ 1 ≤ flags ∧ flags ≤ 7)) (hq : Q (.tuple #[.int .i64 0, .int .i64 2]) h) :
    C Try.prog 25 #[.pointer (some ⟨m, 0, none⟩), .int .i64 client, .int .i64 n, .int .i64 flags] h Q := by
  apply gabionref23_Add.ok
  refine xsIf_intro (fun _ => hq) (fun h1 => ⟨m, 0, rfl, _, w.bm.cell _, xsIf_intro (fun _ => hq) (fun h2 => xsIf_intro (fun _ => hq) (fun h3 => xsIf_t (by simp at h1 h2 h3 ⊢; omega) hq))⟩)

theorem gabionref23_Add.c {client : Nat} {n flags : Int} (w : Refs G h m nc L a cp) (hL : L.length ≤ 100000) (hc : client < nc) (hfl : 1 ≤ flags ∧ flags ≤ 7)
    (hfull : (∀ fd : Nat, fd < 16 → ∃ e, e ∈ L ∧ e.1 = client ∧ e.2.1 = fd) → Q (.tuple #[.int .i64 0, .int .i64 7]) h)
    (hq : ∀ (fd : Nat) G' h' a' c', fd < 16 → (∀ j, j < fd → ∃ e, e ∈ L ∧ e.1 = client ∧ e.2.1 = j) → (∀ e, e ∈ L → ¬ (e.1 = client ∧ e.2.1 = fd)) → Refs G' h' m nc (L ++ [(client, fd, n, flags, 0)]) a' c' → Step G h G' h' → Q (.tuple #[.int .i64 fd, .int .i64 0]) h') :
    C Try.prog 25 #[.pointer (some ⟨m, 0, none⟩), .int .i64 client, .int .i64 n, .int .i64 flags] h Q := by
  apply gabionref23_Add.ok
  refine xsIf_f (by simp) ⟨m, 0, rfl, _, w.bm.cell _, xsIf_f (by simp; omega) (xsIf_f (by simp; omega) (xsIf_f (by simp; omega) ?_))⟩
  apply gabionref23_Add.J3.ok
  have loop : ∀ j fd : Nat, fd + j = 16 → (∀ i, i < fd → ∃ e, e ∈ L ∧ e.1 = client ∧ e.2.1 = i) → gabionref23_Add.L4 (some ⟨m, 0, none⟩) client n flags fd h Q := by
    intro j
    induction j with
    | zero =>
      intro fd hfd hall
      apply gabionref23_Add.L4.ok
      exact xsIf_f (by simp; omega) (hfull fun i hi => hall i (by omega))
    | succ j ih =>
      intro fd hfd hall
      apply gabionref23_Add.L4.ok
      refine xsIf_t (by simp; omega) (gabionref23_Find.c w (by omega) (fun hb => absurd hb (by omega)) (fun _ _ hno => ⟨_, _, rfl, xsIf_t rfl ⟨m, 0, rfl, _, _, _, w.bm.cell _, fun b hb => ?_⟩⟩) (fun i e _ _ hi e1 e2 => ⟨_, _, rfl, xsIf_f rfl ?_⟩))
      · have hno' : ∀ e, e ∈ L → ¬ (e.1 = client ∧ e.2.1 = fd) := fun e he hk => hno e he ⟨by rw [hk.1], by rw [hk.2]⟩
        refine w.sl.snoc (T' := 66) (new := rowV (client, fd, n, flags, 0)) hb ref5_cells.1 (by omega) rfl rfl ref5_cells.2.1 (by rw [ref5_cells.2.2]; omega) fun a' c' F' h' w' s hs => ?_
        have hbm : m ≠ b := fun e => w.bm.ne (by rw [e]; exact hb)
        have hm' : h' m = h m := s.keep m (fun hk => hk.2 rfl) w.bm.ne
        have bm' := w.bm.keep hm'
        refine ⟨m, 0, rfl, bm'.can (by simp), ?_⟩
        have hmF : ¬ F' m := fun hf => by
          rcases s.sub m hf with h1 | h1
          · exact h1.2 rfl
          · exact w.bm.ne h1
        have s2 : Step G h (fun k => F' k ∨ G k) h' := by
          refine ⟨fun k hk hn => s.keep k (fun h => hk h.1) hn, fun k hk => ?_, s.live, fun hl k hk => ?_⟩
          · rcases hk with h1 | h1
            · exact (s.sub k h1).imp (·.1) id
            · exact .inl h1
          · rcases hk with h1 | h1
            · exact s.dom (fun k hk => hl k hk.1) k h1
            · exact s.live k (hl k h1)
        refine hq fd _ _ a' c' (by omega) hall hno' ⟨.inr w.gm, ?_, ?_⟩ (s2.trans (Step.put (.inr w.gm) _ _))
        · have := bm'.put (0 + 1) [.slice a' (L.length + 1) c']
          rw [List.length_append]
          exact this
        · rw [flat_snoc, List.length_append]
          refine w'.keep (fun k hk => ⟨.inl hk, fun e => hmF (e ▸ hk)⟩) (fun k hk _ => put_other h' _ _ (fun e => hmF (e ▸ hk)))
      · rw [i64_in _ (by omega)]
        refine ih (fd + 1) (by omega) fun i' hi' => ?_
        by_cases e3 : i' = fd
        · exact ⟨e, List.mem_of_getElem? hi, by omega, by omega⟩
        · exact hall i' (by omega)
  exact loop 16 0 (by omega) (fun i hi => absurd hi (Nat.not_lt_zero i))

theorem gabionref23_Seek.c {client fd at0 : Int} (w : Refs G h m nc L a cp) (hL : L.length ≤ 1000000)
    (hbad : ¬ (0 ≤ client ∧ client < nc) → Q (.int .i64 2) h)
    (hnone : 0 ≤ client → client < nc → (∀ e, e ∈ L → ¬ ((e.1 : Int) = client ∧ (e.2.1 : Int) = fd)) → Q (.int .i64 19) h)
    (hneg : ∀ (i : Nat) (e : Row5), 0 ≤ client → client < nc → L[i]? = some e → (e.1 : Int) = client → (e.2.1 : Int) = fd → at0 < 0 → Q (.int .i64 23) h)
    (hq : ∀ (i : Nat) (e : Row5) h', 0 ≤ client → client < nc → L[i]? = some e → (e.1 : Int) = client → (e.2.1 : Int) = fd → 0 ≤ at0 → Refs G h' m nc (L.set i (e.1, e.2.1, e.2.2.1, e.2.2.2.1, at0)) a cp → Step G h G h' → Q (.int .i64 0) h') :
    C Try.prog 28 #[.pointer (some ⟨m, 0, none⟩), .int .i64 client, .int .i64 fd, .int .i64 at0] h Q := by
  apply gabionref23_Seek.ok
  refine gabionref23_Find.c w hL (fun hb => ⟨_, _, rfl, xsIf_t rfl (hbad hb)⟩) (fun h1 h2 h3 => ⟨_, _, rfl, xsIf_t rfl (hnone h1 h2 h3)⟩) (fun i e h1 h2 hi e1 e2 => ⟨_, _, rfl, xsIf_f rfl (xsIf_intro (fun h3 => hneg i e h1 h2 hi e1 e2 (by simpa using h3)) (fun h3 => ?_))⟩)
  have hlt : i < L.length := (List.getElem?_eq_some_iff.1 hi).1
  refine ⟨m, 0, rfl, _, _, _, w.bm.cell _, by omega, w.sl.base (by omega) fun b hb hc hcan hput => ⟨by rw [Int.toNat_natCast, Nat.add_assoc]; exact hcan _ _ (by omega), ?_⟩⟩
  rw [Int.toNat_natCast, Nat.add_assoc]
  refine hq i e _ h1 h2 hi e1 e2 (by simpa using h3) ⟨w.gm, ?_, ?_⟩ (Step.put hb.1 _ _)
  · rw [List.length_set]; exact w.bm.keep (put_other h _ _ (Ne.symm hb.2))
  · have := hput (i * 5 + 4) (.int .i64 at0) (by omega)
    rw [flat_set rowV_length L i 4 e (e.1, e.2.1, e.2.2.1, e.2.2.2.1, at0) _ hi (by omega) rfl] at this
    rw [List.length_set]
    exact this

theorem gabionref23_Close.c {client fd : Int} (w : Refs G h m nc L a cp) (hL : L.length ≤ 100000)
    (hbad : ¬ (0 ≤ client ∧ client < nc) → Q (.tuple #[.int .i64 0, .int .i64 2]) h)
    (hnone : 0 ≤ client → client < nc → (∀ e, e ∈ L → ¬ ((e.1 : Int) = client ∧ (e.2.1 : Int) = fd)) → Q (.tuple #[.int .i64 0, .int .i64 19]) h)
    (hq : ∀ (i : Nat) (e : Row5) G' h' a' c', 0 ≤ client → client < nc → L[i]? = some e → (e.1 : Int) = client → (e.2.1 : Int) = fd → Refs G' h' m nc (L.eraseIdx i) a' c' → Step G h G' h' → Q (.tuple #[.int .i64 e.2.2.1, .int .i64 0]) h') :
    C Try.prog 29 #[.pointer (some ⟨m, 0, none⟩), .int .i64 client, .int .i64 fd] h Q := by
  apply gabionref23_Close.ok
  refine gabionref23_Find.c w (by omega) (fun hb => ⟨_, _, rfl, xsIf_t rfl (hbad hb)⟩) (fun h1 h2 h3 => ⟨_, _, rfl, xsIf_t rfl (hnone h1 h2 h3)⟩) (fun i e h1 h2 hi e1 e2 => ⟨_, _, rfl, xsIf_f rfl ?_⟩)
  have hlt : i < L.length := (List.getElem?_eq_some_iff.1 hi).1
  refine ⟨m, 0, rfl, _, _, _, w.bm.cell _, by omega, w.at hi fun b hc => ⟨_, by rw [Int.toNat_natCast]; exact hc 2 (by omega), ?_⟩⟩
  -- the rest is laid anew
  have loop : ∀ (j k : Nat) (F' : Nat → Prop) (h' : Heap) (a' : Option Addr) (c' : Nat), k + j = L.length → Sl F' h' 66 5 a' ((L.take k).eraseIdx i).length c' (((L.take k).eraseIdx i).flatMap rowV) →
      Step (fun _ => False) h F' h' → gabionref23_Close.L7 (some ⟨m, 0, none⟩) i e.2.2.1 a' ((L.take k).eraseIdx i).length c' k h' Q := by
    intro j
    induction j with
    | zero =>
      intro k F' h' a' c' hk w' s
      obtain rfl : k = L.length := by omega
      have hkeep : ∀ k, h k ≠ none → h' k = h k := fun k hn => s.keep k id hn
      have bm' := w.bm.keep (hkeep m w.bm.ne)
      apply gabionref23_Close.L7.ok
      refine ⟨m, 0, rfl, _, _, _, bm'.cell _, xsIf_f (by simp) ⟨m, 0, rfl, bm'.can (by simp), ?_⟩⟩
      rw [List.take_of_length_le (Nat.le_refl _)] at w' ⊢
      have hmF : ¬ F' m := fun hf => by
        rcases s.sub m hf with h1 | h1
        · exact h1
        · exact w.bm.ne h1
      have s2 : Step G h (fun k => F' k ∨ G k) h' := by
        refine ⟨fun k _ hn => hkeep k hn, fun k hk => ?_, s.live, fun hl k hk => ?_⟩
        · rcases hk with h1 | h1
          · exact (s.sub k h1).imp False.elim id
          · exact .inl h1
        · rcases hk with h1 | h1
          · exact s.dom (fun _ h => h.elim) k h1
          · exact s.live k (hl k h1)
      refine hq i e _ _ a' c' h1 h2 hi e1 e2 ⟨.inr w.gm, bm'.put (0 + 1) [.slice a' (L.eraseIdx i).length c'], ?_⟩ (s2.trans (Step.put (.inr w.gm) _ _))
      exact w'.keep (fun k hk => ⟨.inl hk, fun e => hmF (e ▸ hk)⟩) (fun k hk _ => put_other h' _ _ (fun e => hmF (e ▸ hk)))
    | succ j ih =>
      intro k F' h' a' c' hk w' s
      have hkl : k < L.length := by omega
      have hg : L[k]? = some L[k] := List.getElem?_eq_getElem hkl
      have hkeep : ∀ k, h k ≠ none → h' k = h k := fun k hn => s.keep k id hn
      have wr : Refs G h' m nc L a cp := w.keep fun k _ hn => hkeep k hn
      apply gabionref23_Close.L7.ok
      refine ⟨m, 0, rfl, _, _, _, wr.bm.cell _, xsIf_t (by simp; omega) (xsIf_intro (fun h3 => ?_) (fun h3 => ?_))⟩
      · have hne : k ≠ i := fun e => by simp [e] at h3
        refine ⟨m, 0, rfl, _, _, _, wr.bm.cell _, by omega, wr.at hg fun b hc => ?_⟩
        rw [Int.toNat_natCast]
        refine ⟨_, hc 0 (by omega), _, hc 1 (by omega), _, hc 2 (by omega), _, hc 3 (by omega), _, hc 4 (by omega), fun b hb => ?_⟩
        have hlen : ((L.take k).eraseIdx i).length ≤ L.length := Nat.le_trans (List.length_eraseIdx_le _ _) (by rw [List.length_take]; omega)
        refine w'.snoc (T' := 66) (new := rowV L[k]) hb ref5_cells.1 (by omega) rfl rfl ref5_cells.2.1 (by rw [ref5_cells.2.2]; omega) fun a2 c2 F2 h2 w2 s2 _ => ?_
        rw [i64_in _ (by omega)]
        have e3 : (L.take (k + 1)).eraseIdx i = (L.take k).eraseIdx i ++ [L[k]] := by
          rw [List.take_succ_eq_append_getElem hkl]
          by_cases hki : k < i
          · rw [List.eraseIdx_of_length_le (by simp; omega), List.eraseIdx_of_length_le (by simp; omega)]
          · rw [List.eraseIdx_append_of_lt_length (by rw [List.length_take]; omega)]
        rw [← flat_snoc, ← e3] at w2
        have e4 : ((L.take k).eraseIdx i).length + 1 = ((L.take (k + 1)).eraseIdx i).length := by rw [e3]; simp
        rw [e4] at w2 ⊢
        exact ih (k + 1) F2 h2 a2 c2 (by omega) w2 (s.trans s2)
      · have hki : k = i := by simp at h3; omega
        rw [i64_in _ (by omega)]
        have e3 : (L.take (k + 1)).eraseIdx i = (L.take k).eraseIdx i := by
          rw [List.take_succ_eq_append_getElem hkl]
          have hlk : (L.take k).length = k := by rw [List.length_take]; omega
          rw [List.eraseIdx_append_of_length_le (by omega), List.eraseIdx_of_length_le (l := L.take k) (by omega), show i - (L.take k).length = 0 by omega]
          simp
        have := ih (k + 1) F' h' a' c' (by omega) (by rw [e3]; exact w') s
        rw [e3] at this
        exact this
  exact loop L.length 0 (fun _ => False) h none 0 (by omega) (by simpa using Sl.nil (fun _ => False) h 66 5) (Step.refl _ _)

end
end Go.Gb
