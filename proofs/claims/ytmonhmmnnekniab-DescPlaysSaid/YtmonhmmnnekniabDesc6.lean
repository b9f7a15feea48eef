/- Own text for the seat: Desc6. -/
import Derived.Test.YtmonhmmnnekniabDesc5
set_option linter.unusedVariables false
set_option linter.unusedSimpArgs false
set_option linter.unnecessarySimpa false
set_option linter.deprecated false
namespace Go.Gb
open Go.Proofs IntWalk

section
variable {F G : Nat → Prop} {h : Heap} {t m nc cp : Nat} {M : Nat → Nat → Option Op4} {L : List Row5} {a : Option Addr} {Q : Value → Heap → Prop}

theorem same_elem {sum i : Nat} {c : Nat} {a1 : Option Addr} {k1 : Nat} (w : Tabs F h t nc M) (w2 : Refs G h m nc L a cp) (r : Rel nc M L) (hL : L.length ≤ 1000) (hc : c < nc) (hi : i < (openN M c 16).length)
    (hr : readsAt h a1 (ints .i64 ((openN M c 16).map fun x : Nat => (x : Int))))
    (hq : gabionlaw23_same.L10 (some ⟨t, 0, none⟩) (some ⟨m, 0, none⟩) sum c a1 (openN M c 16).length k1 nc c a1 (openN M c 16).length k1 ((openN M c 16).length : Nat) ((i + 1 : Nat) : Int) h Q) :
    gabionlaw23_same.L10 (some ⟨t, 0, none⟩) (some ⟨m, 0, none⟩) sum c a1 (openN M c 16).length k1 nc c a1 (openN M c 16).length k1 ((openN M c 16).length : Nat) i h Q := by
  have hlen := openN_length M c 16
  have hg : (openN M c 16)[i]? = some (openN M c 16)[i] := List.getElem?_eq_getElem hi
  generalize hx : (openN M c 16)[i] = x at hg
  obtain ⟨hx16, hxs⟩ := openN_mem.1 (List.mem_of_getElem? hg)
  obtain ⟨e, he⟩ := Option.isSome_iff_exists.1 hxs
  have gi : ∀ {i x : Nat}, (openN M c 16)[i]? = some x → ((openN M c 16).map fun x : Nat => (x : Int))[i]? = some (x : Int) := fun h => by rw [List.getElem?_map, h]; rfl
  have htg : tget nc M (c : Int) (x : Int) = (some e, 0) := by
    unfold tget
    rw [if_pos (by omega), if_pos (by omega), Int.toNat_natCast, Int.toNat_natCast, he]
  obtain ⟨k, hk⟩ := r.some hc hx16 he
  have hkl := (List.getElem?_eq_some_iff.1 hk).1
  apply gabionlaw23_same.L10.ok
  refine xsIf_t (by simp; omega) ⟨by omega, reads_ints (i := i) hr (by rw [List.length_map]; exact hi) fun b o hcell => ⟨x, by rw [Int.toNat_natCast]; exact hcell i _ (gi hg), ?_⟩⟩
  refine desc_Tables_Get.c w ?_
  rw [htg]
  refine ⟨_, _, _, _, rfl, gabionref23_Find.c w2 (by omega) (fun hb => absurd hb (by omega)) (fun _ _ hno => absurd ⟨rfl, rfl⟩ (hno _ (List.mem_of_getElem? hk))) (fun k' e' _ _ hk' h1 h2 => ⟨_, _, rfl, ?_⟩)⟩
  have hkk : k' = k := r.one hk' hk (by show e'.1 = c; omega) (by show e'.2.1 = x; omega)
  subst hkk
  rw [hk'] at hk
  cases hk
  have j16 : gabionlaw23_same.J16 (some ⟨t, 0, none⟩) (some ⟨m, 0, none⟩) sum c a1 (openN M c 16).length k1 k' nc c a1 (openN M c 16).length k1 ((openN M c 16).length : Nat) i e.2.1 e.2.2.1 e.2.2.2 h Q := by
    apply gabionlaw23_same.J16.ok
    unfold gabionlaw23_same.J16.wp
    rw [i64_in ((i : Int) + 1) (by omega)]
    refine ⟨m, 0, rfl, _, _, _, w2.bm.cell _, by omega, w2.at hk' fun b hcell => ?_⟩
    rw [Int.toNat_natCast]
    exact ⟨_, hcell 0 (by omega), _, hcell 1 (by omega), _, hcell 2 (by omega), _, hcell 3 (by omega), _, hcell 4 (by omega), xsIf_f (by simp) hq⟩
  refine xsIf_f rfl (xsIf_f rfl (xsIf_intro (fun h3 => ?_) (fun _ => j16)))
  have hi0 : 0 < i := by simp at h3; omega
  rw [i64_in ((i : Int) - 1) (by omega), show (i : Int) - 1 = ((i - 1 : Nat) : Int) by omega]
  have hgp : (openN M c 16)[i - 1]? = some (openN M c 16)[i - 1] := List.getElem?_eq_getElem (by omega)
  refine ⟨by omega, reads_ints (i := i - 1) hr (by rw [List.length_map]; omega) fun b o hcell => ⟨_, by rw [Int.toNat_natCast]; exact hcell (i - 1) _ (gi hgp), xsIf_f ?_ j16⟩⟩
  have := openN_rises hgp hg (by omega)
  simp; omega

theorem gabionlaw23_same.c (w : Tabs F h t nc M) (w2 : Refs G h m nc L a cp) (r : Rel nc M L) (hL : L.length ≤ 1000) (hq : ∀ h', Part h h' → Q (.bool true) h') :
    C Try.prog 30 #[.pointer (some ⟨t, 0, none⟩), .pointer (some ⟨m, 0, none⟩)] h Q := by
  have hnc : nc ≤ 8 := by obtain ⟨_, _, w⟩ := w; exact w.hi
  have loop : ∀ (j c : Nat) (h' : Heap), c + j = nc → Part h h' → gabionlaw23_same.L5 (some ⟨t, 0, none⟩) (some ⟨m, 0, none⟩) (lens M c : Nat) nc c h' Q := by
    intro j
    induction j with
    | zero =>
      intro c h' hc p
      obtain rfl : c = nc := by omega
      have wt : Tabs F h' t c M := w.keep fun k _ hk => part_live p hk
      have wr : Refs G h' m c L a cp := w2.keep fun k _ hk => part_live p hk
      apply gabionlaw23_same.L5.ok
      refine xsIf_f (by simp) ?_
      apply gabionlaw23_same.J21.ok
      refine ⟨m, 0, rfl, _, _, _, wr.bm.cell _, xsIf_t (by rw [r.lens]; simp) ?_⟩
      refine desc_Tables_List.bad wt (by omega) ⟨_, _, _, rfl, xsIf_t rfl ⟨m, 0, rfl, _, wr.bm.cell _, ?_⟩⟩
      exact desc_Tables_List.bad wt (by omega) ⟨_, _, _, rfl, hq h' p⟩
    | succ j ih =>
      intro c h' hc p
      have wt : Tabs F h' t nc M := w.keep fun k _ hk => part_live p hk
      apply gabionlaw23_same.L5.ok
      refine xsIf_t (by simp; omega) (desc_Tables_List.c wt (by omega) fun a1 k1 h2 w3 => ⟨_, _, _, rfl, ?_⟩)
      have p2 := p.trans w3.part
      have wt2 : Tabs F h2 t nc M := w.keep fun k _ hk => part_live p2 hk
      have wr2 : Refs G h2 m nc L a cp := w2.keep fun k _ hk => part_live p2 hk
      have hl1 := lens_le (M := M) c
      have hl2 := openN_length M c 16
      rw [i64_in ((lens M c : Int) + _) (by omega), show ((lens M c : Nat) : Int) + (((openN M c 16).length : Nat) : Int) = ((lens M (c + 1) : Nat) : Int) by rw [lens_succ]; omega]
      have l10 : ∀ j i : Nat, i + j = (openN M c 16).length → gabionlaw23_same.L10 (some ⟨t, 0, none⟩) (some ⟨m, 0, none⟩) (lens M (c + 1) : Nat) c a1 (openN M c 16).length k1 nc c a1 (openN M c 16).length k1 ((openN M c 16).length : Nat) i h2 Q := by
        intro j
        induction j with
        | zero =>
          intro i hi
          apply gabionlaw23_same.L10.ok
          refine xsIf_f (by simp; omega) ?_
          rw [i64_in ((c : Int) + 1) (by omega)]
          exact ih (c + 1) h2 (by omega) p2
        | succ j ih2 =>
          intro i hi
          exact same_elem (i := i) wt2 wr2 r hL (by omega) (by omega) w3.reads (ih2 (i + 1) (by omega))
      exact l10 (openN M c 16).length 0 (Nat.zero_add _)
  apply gabionlaw23_same.ok
  refine ⟨m, 0, rfl, ?_, ?_⟩
  · exact desc_Tables_Clients.c w ⟨_, rfl, _, w2.bm.cell _, xsIf_f (by simp) ⟨m, 0, rfl, _, w2.bm.cell _, loop nc 0 h (by omega) (Part.refl h)⟩⟩
  · exact ⟨_, w2.bm.cell _, desc_Tables_Clients.c w ⟨_, rfl, xsIf_f (by simp) ⟨m, 0, rfl, _, w2.bm.cell _, loop nc 0 h (by omega) (Part.refl h)⟩⟩⟩
end

/-- What is true ahead of each act. -/
structure Inv23 (h0 h : Heap) (F G : Nat → Prop) (t m nc : Nat) (M : Nat → Nat → Option Op4) (L : List Row5) (a : Option Addr) (cp : Nat) : Prop where
  tb : Tabs F h t nc M
  rf : Refs G h m nc L a cp
  rel : Rel nc M L
  ap : Apart F G
  lf : Live F h
  lg : Live G h
  pt : Part h0 h
  nf : ∀ k, h0 k ≠ none → ¬ F k
  ng : ∀ k, h0 k ≠ none → ¬ G k

section
variable {h0 h : Heap} {F G : Nat → Prop} {t m nc cp : Nat} {M : Nat → Nat → Option Op4} {L : List Row5} {a : Option Addr}

theorem Inv23.mid (i : Inv23 h0 h F G t m nc M L a cp) {F' : Nat → Prop} {h' : Heap} (s : Step F h F' h') : Refs G h' m nc L a cp := i.rf.keep (s.same i.ap)

theorem Inv23.both (i : Inv23 h0 h F G t m nc M L a cp) {F' G' : Nat → Prop} {h' h'' : Heap} {M' : Nat → Nat → Option Op4} {L' : List Row5} {a' : Option Addr} {cp' : Nat} (s : Step F h F' h') (w : Tabs F' h' t nc M') (s2 : Step G h' G' h'') (w2 : Refs G' h'' m nc L' a' cp') (r : Rel nc M' L') :
    Inv23 h0 h'' F' G' t m nc M' L' a' cp' := by
  have ap1 := s.apart i.ap i.lg
  have p1 := s.part i.pt i.nf
  have live : ∀ {h h' : Heap}, Part h h' → ∀ k, h k ≠ none → h' k ≠ none := fun p k hk => by rw [part_live p hk]; exact hk
  refine ⟨w.keep (s2.same ap1.symm), w2, r, (s2.apart ap1.symm (s.dom i.lf)).symm, s2.alive (s.dom i.lf), s2.dom (s.alive i.lg), s2.part p1 i.ng, fun k hk hf => ?_, fun k hk hg => ?_⟩
  · rcases s.sub k hf with h1 | h1
    · exact i.nf k hk h1
    · exact live i.pt k hk h1
  · rcases s2.sub k hg with h1 | h1
    · exact i.ng k hk h1
    · exact live p1 k hk h1

theorem Inv23.part (i : Inv23 h0 h F G t m nc M L a cp) {h' : Heap} (p : Part h h') : Inv23 h0 h' F G t m nc M L a cp :=
  ⟨i.tb.keep fun k _ hk => part_live p hk, i.rf.keep fun k _ hk => part_live p hk, i.rel, i.ap, fun k hk => by rw [part_live p (i.lf k hk)]; exact i.lf k hk, fun k hk => by rw [part_live p (i.lg k hk)]; exact i.lg k hk, i.pt.trans p, i.nf, i.ng⟩

/-- Behind an act. -/
theorem plays_tail {Q : Value → Heap → Prop} {ok : Bool} {l : Option Addr} {ln lc j : Nat} {nn : Int} {a0 a1 a2 a3 : Int} (i : Inv23 h0 h F G t m nc M L a cp) (hok : ok = true) (hL : L.length ≤ 1000) (hj : j ≤ 1000)
    (hq : ∀ h', Inv23 h0 h' F G t m nc M L a cp → gabionlaw23_DescPlays.L7 (some ⟨t, 0, none⟩) (some ⟨m, 0, none⟩) l ln lc nn ((j + 1 : Nat) : Int) h' Q) :
    gabionlaw23_DescPlays.J26 (some ⟨t, 0, none⟩) (some ⟨m, 0, none⟩) ok l ln lc nn j a0 a1 a2 a3 h Q := by
  subst hok
  have l28 : ∀ (jj k : Nat), k + jj = L.length → gabionlaw23_DescPlays.L28 (some ⟨t, 0, none⟩) (some ⟨m, 0, none⟩) true ((L.take k).countP (fun e => decide (e.2.2.1 = a2)) : Nat) l ln lc nn j a L.length cp (L.length : Nat) k a0 a1 a2 a3 h Q := by
    intro jj
    induction jj with
    | zero =>
      intro k hk
      obtain rfl : k = L.length := by omega
      apply gabionlaw23_DescPlays.L28.ok
      unfold gabionlaw23_DescPlays.L28.wp
      rw [i64_in ((j : Int) + 1) (by omega), List.take_of_length_le (Nat.le_refl _)]
      refine xsIf_f (by simp) (xsIf_f rfl ?_)
      refine gabionlaw23_same.c i.tb i.rf i.rel hL fun h' p => ⟨_, rfl, xsIf_f rfl ?_⟩
      have i' := i.part p
      refine desc_Tables_Count.c i'.tb ⟨_, rfl, xsIf_f (by rw [i.rel.count]; simp) (hq h' i')⟩
    | succ jj ih =>
      intro k hk
      have hkl : k < L.length := by omega
      have hg : L[k]? = some L[k] := List.getElem?_eq_getElem hkl
      have hle : (L.take k).countP (fun e => decide (e.2.2.1 = a2)) ≤ 1000 := Nat.le_trans List.countP_le_length (by rw [List.length_take]; omega)
      have hs : (L.take (k + 1)).countP (fun e => decide (e.2.2.1 = a2)) = (L.take k).countP (fun e => decide (e.2.2.1 = a2)) + (if L[k].2.2.1 = a2 then 1 else 0) := by
        rw [List.take_succ_eq_append_getElem hkl, List.countP_append, List.countP_singleton]; simp
      have hn := ih (k + 1) (by omega)
      apply gabionlaw23_DescPlays.L28.ok
      unfold gabionlaw23_DescPlays.L28.wp
      rw [i64_in (((L.take k).countP (fun e => decide (e.2.2.1 = a2)) : Nat) + 1) (by omega)]
      refine xsIf_t (by simp; omega) ⟨by omega, i.rf.at hg fun b hcell => ?_⟩
      rw [Int.toNat_natCast]
      refine ⟨_, hcell 0 (by omega), _, hcell 1 (by omega), _, hcell 2 (by omega), _, hcell 3 (by omega), _, hcell 4 (by omega), xsIf_intro (fun h1 => ?_) (fun h1 => ?_)⟩
      · have h1 : L[k].2.2.1 = a2 := by simpa using h1
        rw [if_pos h1] at hs
        rw [hs] at hn
        apply gabionlaw23_DescPlays.J32.ok
        unfold gabionlaw23_DescPlays.J32.wp
        rw [i64_in ((k : Int) + 1) (by omega)]
        exact hn
      · have h1 : ¬ L[k].2.2.1 = a2 := by simpa using h1
        rw [if_neg h1] at hs
        rw [hs] at hn
        apply gabionlaw23_DescPlays.J32.ok
        unfold gabionlaw23_DescPlays.J32.wp
        rw [i64_in ((k : Int) + 1) (by omega)]
        exact hn
  apply gabionlaw23_DescPlays.J26.ok
  exact ⟨m, 0, rfl, _, _, _, i.rf.bm.cell _, l28 L.length 0 (by omega)⟩

/-- The program's look-up is the document's. -/
theorem tget_cases (r : Rel nc M L) (c fd : Int) :
    (¬ (0 ≤ c ∧ c < nc) ∧ tget nc M c fd = (none, 2)) ∨
    (0 ≤ c ∧ c < nc ∧ tget nc M c fd = (none, 19) ∧ ∀ e, e ∈ L → ¬ ((e.1 : Int) = c ∧ (e.2.1 : Int) = fd)) ∨
    (∃ o : Op4, ∃ i : Nat, 0 ≤ c ∧ c < nc ∧ 0 ≤ fd ∧ fd < 16 ∧ tget nc M c fd = (some o, 0) ∧ M c.toNat fd.toNat = some o ∧ L[i]? = some (c.toNat, fd.toNat, o.2)) := by
  by_cases h1 : 0 ≤ c ∧ c < nc
  · right
    by_cases h2 : 0 ≤ fd ∧ fd < 16
    · cases hm : M c.toNat fd.toNat with
      | none =>
        left
        refine ⟨h1.1, h1.2, by unfold tget; rw [if_pos h1, if_pos h2, hm], fun e he hk => ?_⟩
        exact (r.none (by omega) (by omega)).1 hm e he ⟨by omega, by omega⟩
      | some o =>
        right
        obtain ⟨i, hi⟩ := r.some (by omega) (by omega) hm
        exact ⟨o, i, h1.1, h1.2, h2.1, h2.2, by unfold tget; rw [if_pos h1, if_pos h2, hm], rfl, hi⟩
    · left
      refine ⟨h1.1, h1.2, by unfold tget; rw [if_pos h1, if_neg h2], fun e he hk => ?_⟩
      have := (r.rng e he).2
      omega
  · left
    exact ⟨h1, by unfold tget; rw [if_neg h1]⟩

theorem plays_step {Q : Value → Heap → Prop} {l : Option Addr} {ln lc j : Nat} {x x1 x2 x3 : Int} (i : Inv23 h0 h F G t m nc M L a cp) (hL : L.length ≤ 900) (hj : j < ln) (hln : ln ≤ 80)
    (hr : ∀ K : Nat → Nat → Prop, (∀ b o, h.cell b (o + j * 4) = some (.int .i64 x) → h.cell b (o + j * 4 + 1) = some (.int .i64 x1) → h.cell b (o + j * 4 + 1 + 1) = some (.int .i64 x2) → h.cell b (o + j * 4 + 1 + 1 + 1) = some (.int .i64 x3) → K b o) → atBase l K)
    (hq : ∀ h' F' G' M' L' a' cp', L'.length ≤ L.length + 1 → Inv23 h0 h' F' G' t m nc M' L' a' cp' → gabionlaw23_DescPlays.L7 (some ⟨t, 0, none⟩) (some ⟨m, 0, none⟩) l ln lc ln ((j + 1 : Nat) : Int) h' Q) :
    gabionlaw23_DescPlays.L7 (some ⟨t, 0, none⟩) (some ⟨m, 0, none⟩) l ln lc ln j h Q := by
  have tail : ∀ (ok : Bool) h' F' G' M' L' a' cp', ok = true → L'.length ≤ L.length + 1 → Inv23 h0 h' F' G' t m nc M' L' a' cp' → gabionlaw23_DescPlays.J26 (some ⟨t, 0, none⟩) (some ⟨m, 0, none⟩) ok l ln lc ln j x x1 x2 x3 h' Q :=
    fun ok h' F' G' M' L' a' cp' hok hl i' => plays_tail i' hok (by omega) (by omega) fun h'' i'' => hq h'' F' G' M' L' a' cp' hl i''
  have here := fun ok hok => tail ok h F G M L a cp hok (by omega) i
  -- Add
  have j13 : gabionlaw23_DescPlays.J13 (some ⟨t, 0, none⟩) (some ⟨m, 0, none⟩) l ln lc ln j x x1 x2 x3 h Q := by
    apply gabionlaw23_DescPlays.J13.ok
    by_cases hok : 0 ≤ x1 ∧ x1 < nc ∧ 1 ≤ x3 ∧ x3 ≤ 7
    · obtain ⟨c, rfl⟩ : ∃ c : Nat, x1 = c := ⟨x1.toNat, by omega⟩
      have hc : c < nc := by omega
      refine desc_Tables_Add.c i.tb hc hok.2.2 (fun hfull => ⟨_, _, rfl, ?_⟩) (fun fd b F' h' hf hl hn w s => ⟨_, _, rfl, ?_⟩)
      · refine gabionref23_Add.c i.rf (by omega) hc hok.2.2 (fun _ => ⟨_, _, rfl, xsIf_t rfl (here _ rfl)⟩) (fun fd' G' h'' a' c' hf' hl' hn' _ _ => ?_)
        exact absurd ((i.rel.none hc hf').2 hn') (hfull fd' hf')
      · have wr := i.mid s
        refine gabionref23_Add.c wr (by omega) hc hok.2.2 (fun hfull => ?_) (fun fd' G' h'' a' c' hf' hl' hn' w2 s2 => ⟨_, _, rfl, ?_⟩)
        · obtain ⟨e, he, h1, h2⟩ := hfull fd hf
          exact absurd ⟨h1, h2⟩ ((i.rel.none hc hf).1 hn e he)
        · have hfd : fd' = fd := by
            rcases Nat.lt_trichotomy fd' fd with h1 | h1 | h1
            · exact absurd ((i.rel.none hc hf').2 hn') (hl fd' h1)
            · exact h1
            · obtain ⟨e, he, k1, k2⟩ := hl' fd h1
              exact absurd ⟨k1, k2⟩ ((i.rel.none hc hf).1 hn e he)
          subst hfd
          exact xsIf_t (by simp) (tail _ h'' F' G' _ _ a' c' rfl (by simp) (i.both s w s2 w2 (i.rel.add hc hf hn)))
    · exact desc_Tables_Add.bad i.tb hok ⟨_, _, rfl, gabionref23_Add.bad i.rf hok ⟨_, _, rfl, xsIf_t rfl (here _ rfl)⟩⟩
  apply gabionlaw23_DescPlays.L7.ok
  refine xsIf_t (by simp; omega) ⟨by omega, hr _ fun b o g0 g1 g2 g3 => ?_⟩
  rw [Int.toNat_natCast]
  refine ⟨x, g0, x1, g1, x2, g2, x3, g3, ?_⟩
  -- Get
  have get : C Try.prog 23 #[.pointer (some ⟨t, 0, none⟩), .int .i64 x1, .int .i64 x2] h fun (r : Value) (h' : Heap) => ∃ (x_4 x_5 x_6 x_7 : Int), r = .tuple #[.agg #[.int .i64 x_4, .int .i64 x_5, .int .i64 x_6], .int .i64 x_7] ∧
      C Try.prog 26 #[.pointer (some ⟨m, 0, none⟩), .int .i64 x1, .int .i64 x2] h' fun (r : Value) (h' : Heap) => ∃ (x_8 x_9 : Int), r = .tuple #[.int .i64 x_8, .int .i64 x_9] ∧
        xsIf (decide (x_7 = x_9)) (xsIf (decide (x_9 ≠ 0)) (xsIf (decide (x_4 = 0) && (decide (x_5 = 0) && (decide (x_6 = 0) && true))) (gabionlaw23_DescPlays.J26 (some ⟨t, 0, none⟩) (some ⟨m, 0, none⟩) true l ln lc ln j x x1 x2 x3 h' Q)
            (xsIf (decide (x_9 = 0)) (atBase (some ⟨m, 0, none⟩) fun (b o : Nat) => ∃ (x_10 : Option Addr) (n m_1 : Nat), h'.cell b (o + 1) = some (.slice x_10 n m_1) ∧ (0 ≤ x_8 ∧ x_8 < (n : Int)) ∧ atBase x_10 fun (b o : Nat) => ∃ (x_11 : Int), h'.cell b (o + x_8.toNat * 5 + 2) = some (.int .i64 x_11) ∧ gabionlaw23_DescPlays.J26 (some ⟨t, 0, none⟩) (some ⟨m, 0, none⟩) (decide (x_4 = x_11)) l ln lc ln j x x1 x2 x3 h' Q)
              (gabionlaw23_DescPlays.J26 (some ⟨t, 0, none⟩) (some ⟨m, 0, none⟩) false l ln lc ln j x x1 x2 x3 h' Q)))
          (xsIf (decide (x_9 = 0)) (atBase (some ⟨m, 0, none⟩) fun (b o : Nat) => ∃ (x_10 : Option Addr) (n m_1 : Nat), h'.cell b (o + 1) = some (.slice x_10 n m_1) ∧ (0 ≤ x_8 ∧ x_8 < (n : Int)) ∧ atBase x_10 fun (b o : Nat) => ∃ (x_11 : Int), h'.cell b (o + x_8.toNat * 5 + 2) = some (.int .i64 x_11) ∧ gabionlaw23_DescPlays.J26 (some ⟨t, 0, none⟩) (some ⟨m, 0, none⟩) (decide (x_4 = x_11)) l ln lc ln j x x1 x2 x3 h' Q)
            (gabionlaw23_DescPlays.J26 (some ⟨t, 0, none⟩) (some ⟨m, 0, none⟩) false l ln lc ln j x x1 x2 x3 h' Q)))
        (gabionlaw23_DescPlays.J26 (some ⟨t, 0, none⟩) (some ⟨m, 0, none⟩) false l ln lc ln j x x1 x2 x3 h' Q) := by
    refine desc_Tables_Get.c i.tb ?_
    rcases tget_cases i.rel x1 x2 with ⟨hb, hg⟩ | ⟨h1, h2, hg, hno⟩ | ⟨o, k, h1, h2, h3, h4, hg, hm, hk⟩
    · rw [hg]
      exact ⟨_, _, _, _, rfl, gabionref23_Find.c i.rf (by omega) (fun _ => ⟨_, _, rfl, xsIf_t rfl (xsIf_t rfl (xsIf_t rfl (here _ rfl)))⟩) (fun k1 k2 _ => absurd ⟨k1, k2⟩ hb) (fun _ _ k1 k2 _ _ _ => absurd ⟨k1, k2⟩ hb)⟩
    · rw [hg]
      exact ⟨_, _, _, _, rfl, gabionref23_Find.c i.rf (by omega) (fun hb => absurd ⟨h1, h2⟩ hb) (fun _ _ _ => ⟨_, _, rfl, xsIf_t rfl (xsIf_t rfl (xsIf_t rfl (here _ rfl)))⟩) (fun k e _ _ hk e1 e2 => absurd ⟨e1, e2⟩ (hno e (List.mem_of_getElem? hk)))⟩
    · rw [hg]
      refine ⟨_, _, _, _, rfl, gabionref23_Find.c i.rf (by omega) (fun hb => absurd ⟨h1, h2⟩ hb) (fun _ _ hno => absurd ⟨by show ((x1.toNat : Nat) : Int) = x1; omega, by show ((x2.toNat : Nat) : Int) = x2; omega⟩ (hno _ (List.mem_of_getElem? hk))) (fun k' e _ _ hk' e1 e2 => ⟨_, _, rfl, xsIf_t rfl (xsIf_f rfl (xsIf_t rfl ?_))⟩)⟩
      have hkk : k' = k := i.rel.one hk' hk (by show e.1 = x1.toNat; omega) (by show e.2.1 = x2.toNat; omega)
      subst hkk
      have hlt := (List.getElem?_eq_some_iff.1 hk).1
      refine ⟨m, 0, rfl, _, _, _, i.rf.bm.cell _, by omega, i.rf.at hk fun b hcell => ⟨_, by rw [Int.toNat_natCast]; exact hcell 2 (by omega), here _ (by simp)⟩⟩
  -- Seek
  have seek : C Try.prog 27 #[.pointer (some ⟨t, 0, none⟩), .int .i64 x1, .int .i64 x2, .int .i64 x3] h fun (r : Value) (h' : Heap) => ∃ (x_4 : Int), r = .int .i64 x_4 ∧
      C Try.prog 28 #[.pointer (some ⟨m, 0, none⟩), .int .i64 x1, .int .i64 x2, .int .i64 x3] h' fun (r : Value) (h' : Heap) => ∃ (x_5 : Int), r = .int .i64 x_5 ∧ gabionlaw23_DescPlays.J26 (some ⟨t, 0, none⟩) (some ⟨m, 0, none⟩) (decide (x_4 = x_5)) l ln lc ln j x x1 x2 x3 h' Q := by
    rcases tget_cases i.rel x1 x2 with ⟨hb, hg⟩ | ⟨h1, h2, hg, hno⟩ | ⟨o, k, h1, h2, h3, h4, hg, hm, hk⟩
    · refine desc_Tables_Seek.c i.tb (fun _ => ⟨_, rfl, ?_⟩) (fun e he => by rw [hg] at he; cases he) (fun e h' he => by rw [hg] at he; cases he)
      rw [hg]
      exact gabionref23_Seek.c i.rf (by omega) (fun _ => ⟨_, rfl, here _ rfl⟩) (fun k1 k2 _ => absurd ⟨k1, k2⟩ hb) (fun _ _ k1 k2 _ _ _ _ => absurd ⟨k1, k2⟩ hb) (fun _ _ _ k1 k2 _ _ _ _ _ _ => absurd ⟨k1, k2⟩ hb)
    · refine desc_Tables_Seek.c i.tb (fun _ => ⟨_, rfl, ?_⟩) (fun e he => by rw [hg] at he; cases he) (fun e h' he => by rw [hg] at he; cases he)
      rw [hg]
      exact gabionref23_Seek.c i.rf (by omega) (fun hb => absurd ⟨h1, h2⟩ hb) (fun _ _ _ => ⟨_, rfl, here _ rfl⟩) (fun k e _ _ hk e1 e2 _ => absurd ⟨e1, e2⟩ (hno e (List.mem_of_getElem? hk))) (fun k e _ _ _ hk e1 e2 _ _ _ => absurd ⟨e1, e2⟩ (hno e (List.mem_of_getElem? hk)))
    · have hkey : ∀ (k' : Nat) (e : Row5), L[k']? = some e → (e.1 : Int) = x1 → (e.2.1 : Int) = x2 → k' = k ∧ e = (x1.toNat, x2.toNat, o.2) := fun k' e hk' e1 e2 => by
        have hkk : k' = k := i.rel.one hk' hk (by show e.1 = x1.toNat; omega) (by show e.2.1 = x2.toNat; omega)
        subst hkk
        rw [hk'] at hk; cases hk; exact ⟨rfl, rfl⟩
      have hnn : ∀ e, e ∈ L → ¬ ((e.1 : Int) = x1 ∧ (e.2.1 : Int) = x2) → True := fun _ _ _ => trivial
      have hin : ¬ ∀ e, e ∈ L → ¬ ((e.1 : Int) = x1 ∧ (e.2.1 : Int) = x2) := fun hno => hno _ (List.mem_of_getElem? hk) ⟨by show ((x1.toNat : Nat) : Int) = x1; omega, by show ((x2.toNat : Nat) : Int) = x2; omega⟩
      refine desc_Tables_Seek.c i.tb (fun he => by rw [hg] at he; cases he) (fun e he hneg => ⟨_, rfl, ?_⟩) (fun e h' he hpos w s => ⟨_, rfl, ?_⟩)
      · exact gabionref23_Seek.c i.rf (by omega) (fun hb => absurd ⟨h1, h2⟩ hb) (fun _ _ hno => absurd hno hin) (fun _ _ _ _ _ _ _ _ => ⟨_, rfl, here _ rfl⟩) (fun _ _ _ _ _ _ _ _ hp _ _ => by omega)
      · rw [hg] at he; cases he
        have wr := i.mid s
        refine gabionref23_Seek.c wr (by omega) (fun hb => absurd ⟨h1, h2⟩ hb) (fun _ _ hno => absurd hno hin) (fun _ _ _ _ _ _ _ hn => by omega) (fun k' e h'' _ _ hk' e1 e2 _ w2 s2 => ⟨_, rfl, ?_⟩)
        obtain ⟨rfl, rfl⟩ := hkey k' e hk' e1 e2
        exact tail _ h'' F G _ _ a cp rfl (by simp) (i.both s w s2 w2 (i.rel.seek hk hm))
  -- Close
  have close : C Try.prog 21 #[.pointer (some ⟨t, 0, none⟩), .int .i64 x1, .int .i64 x2] h fun (r : Value) (h' : Heap) => ∃ (x_4 x_5 : Int), r = .tuple #[.int .i64 x_4, .int .i64 x_5] ∧
      C Try.prog 29 #[.pointer (some ⟨m, 0, none⟩), .int .i64 x1, .int .i64 x2] h' fun (r : Value) (h' : Heap) => ∃ (x_6 x_7 : Int), r = .tuple #[.int .i64 x_6, .int .i64 x_7] ∧
        xsIf (decide (x_4 = x_6)) (gabionlaw23_DescPlays.J26 (some ⟨t, 0, none⟩) (some ⟨m, 0, none⟩) (decide (x_5 = x_7)) l ln lc ln j x x1 x2 x3 h' Q) (gabionlaw23_DescPlays.J26 (some ⟨t, 0, none⟩) (some ⟨m, 0, none⟩) false l ln lc ln j x x1 x2 x3 h' Q) := by
    rcases tget_cases i.rel x1 x2 with ⟨hb, hg⟩ | ⟨h1, h2, hg, hno⟩ | ⟨o, k, h1, h2, h3, h4, hg, hm, hk⟩
    · refine desc_Tables_Close.c i.tb (fun _ => ⟨_, _, rfl, ?_⟩) (fun e h' he => by rw [hg] at he; cases he)
      rw [hg]
      exact gabionref23_Close.c i.rf (by omega) (fun _ => ⟨_, _, rfl, xsIf_t rfl (here _ rfl)⟩) (fun k1 k2 _ => absurd ⟨k1, k2⟩ hb) (fun _ _ _ _ _ _ k1 k2 _ _ _ _ _ => absurd ⟨k1, k2⟩ hb)
    · refine desc_Tables_Close.c i.tb (fun _ => ⟨_, _, rfl, ?_⟩) (fun e h' he => by rw [hg] at he; cases he)
      rw [hg]
      exact gabionref23_Close.c i.rf (by omega) (fun hb => absurd ⟨h1, h2⟩ hb) (fun _ _ _ => ⟨_, _, rfl, xsIf_t rfl (here _ rfl)⟩) (fun k e _ _ _ _ _ _ hk e1 e2 _ _ => absurd ⟨e1, e2⟩ (hno e (List.mem_of_getElem? hk)))
    · have hin : ¬ ∀ e, e ∈ L → ¬ ((e.1 : Int) = x1 ∧ (e.2.1 : Int) = x2) := fun hno => hno _ (List.mem_of_getElem? hk) ⟨by show ((x1.toNat : Nat) : Int) = x1; omega, by show ((x2.toNat : Nat) : Int) = x2; omega⟩
      refine desc_Tables_Close.c i.tb (fun he => by rw [hg] at he; cases he) (fun e h' he w s => ⟨_, _, rfl, ?_⟩)
      rw [hg] at he; cases he
      have wr := i.mid s
      refine gabionref23_Close.c wr (by omega) (fun hb => absurd ⟨h1, h2⟩ hb) (fun _ _ hno => absurd hno hin) (fun k' e G' h'' a' c' _ _ hk' e1 e2 w2 s2 => ⟨_, _, rfl, ?_⟩)
      have hkk : k' = k := i.rel.one hk' hk (by show e.1 = x1.toNat; omega) (by show e.2.1 = x2.toNat; omega)
      subst hkk
      rw [hk'] at hk; cases hk
      refine xsIf_t (by simp) (tail _ h'' F G' _ _ a' c' rfl ?_ (i.both s w s2 w2 (i.rel.close hk')))
      have := List.length_eraseIdx_le L k'
      omega
  have rest : xsIf (decide (irem (imax 0 x) 5 = 3)) (C Try.prog 27 #[.pointer (some ⟨t, 0, none⟩), .int .i64 x1, .int .i64 x2, .int .i64 x3] h fun (r : Value) (h' : Heap) => ∃ (x_4 : Int), r = .int .i64 x_4 ∧
      C Try.prog 28 #[.pointer (some ⟨m, 0, none⟩), .int .i64 x1, .int .i64 x2, .int .i64 x3] h' fun (r : Value) (h' : Heap) => ∃ (x_5 : Int), r = .int .i64 x_5 ∧ gabionlaw23_DescPlays.J26 (some ⟨t, 0, none⟩) (some ⟨m, 0, none⟩) (decide (x_4 = x_5)) l ln lc ln j x x1 x2 x3 h' Q)
      (xsIf (decide (irem (imax 0 x) 5 = 4)) (C Try.prog 21 #[.pointer (some ⟨t, 0, none⟩), .int .i64 x1, .int .i64 x2] h fun (r : Value) (h' : Heap) => ∃ (x_4 x_5 : Int), r = .tuple #[.int .i64 x_4, .int .i64 x_5] ∧
      C Try.prog 29 #[.pointer (some ⟨m, 0, none⟩), .int .i64 x1, .int .i64 x2] h' fun (r : Value) (h' : Heap) => ∃ (x_6 x_7 : Int), r = .tuple #[.int .i64 x_6, .int .i64 x_7] ∧
        xsIf (decide (x_4 = x_6)) (gabionlaw23_DescPlays.J26 (some ⟨t, 0, none⟩) (some ⟨m, 0, none⟩) (decide (x_5 = x_7)) l ln lc ln j x x1 x2 x3 h' Q) (gabionlaw23_DescPlays.J26 (some ⟨t, 0, none⟩) (some ⟨m, 0, none⟩) false l ln lc ln j x x1 x2 x3 h' Q))
        (gabionlaw23_DescPlays.J26 (some ⟨t, 0, none⟩) (some ⟨m, 0, none⟩) true l ln lc ln j x x1 x2 x3 h Q)) :=
    xsIf_intro (fun _ => seek) (fun _ => xsIf_intro (fun _ => close) (fun _ => here _ rfl))
  exact xsIf_intro (fun _ => xsIf_intro (fun _ => j13) (fun _ => xsIf_intro (fun _ => get) (fun _ => rest))) (fun _ => xsIf_intro (fun _ => j13) (fun _ => xsIf_intro (fun _ => get) (fun _ => rest)))
end

def row4 (x : Int × Int × Int × Int) : List Value := [.int .i64 x.1, .int .i64 x.2.1, .int .i64 x.2.2.1, .int .i64 x.2.2.2]

theorem row4_length (x : Int × Int × Int × Int) : (row4 x).length = 4 := rfl

theorem gabionlaw23_DescPlays.law (clients : Int) (hcl : IntKind.i64.min ≤ clients ∧ clients ≤ IntKind.i64.max) (v : Value) (h : Heap) (hv : Okc Try.prog h 8 55 [v]) :
    C Try.prog 9 #[.int .i64 clients, v] h fun v h' => v = .bool true ∧ Part h h' := by
  obtain ⟨a, n, c, dss, rfl, hnc, hcm, hl, hb, hr⟩ := okc_slice (e := 61) (sz := 4) (by kernel_rfl) (by kernel_rfl) (by omega) hv
  obtain ⟨acts, rfl, -⟩ := typed (f := row4) (p := fun _ => True) dss (fun ds hds => by
    obtain ⟨h1, h2⟩ := hb ds hds
    obtain ⟨e1, e2⟩ := okc_each (d := 2) 5 61 [3, 3, 3, 3] ds (by kernel_rfl) h2 (by rw [h1]; rfl)
    match ds, h1 with
    | [p, q, r, s], _ =>
      obtain ⟨x0, rfl, -⟩ := okc_int (k := .i64) (by kernel_rfl) (e2 0 _ _ rfl rfl)
      obtain ⟨x1, rfl, -⟩ := okc_int (k := .i64) (by kernel_rfl) (e2 1 _ _ rfl rfl)
      obtain ⟨x2, rfl, -⟩ := okc_int (k := .i64) (by kernel_rfl) (e2 2 _ _ rfl rfl)
      obtain ⟨x3, rfl, -⟩ := okc_int (k := .i64) (by kernel_rfl) (e2 3 _ _ rfl rfl)
      exact ⟨(x0, x1, x2, x3), rfl, trivial⟩)
  rw [List.length_map] at hl
  rw [← List.flatMap_def] at hr
  apply gabionlaw23_DescPlays.ok
  unfold gabionlaw23_DescPlays.wp
  obtain ⟨q, hq⟩ : ∃ q, q = imax 0 clients := ⟨_, rfl⟩
  rw [← hq]
  have q0 : 0 ≤ q := by rw [hq, imax_eq]; omega
  obtain ⟨q, rfl⟩ : ∃ q' : Nat, q = q' := ⟨q.toNat, by omega⟩
  have h8 : q % 8 < 8 := Nat.mod_lt _ (by omega)
  rw [show (8 : Int) = ((8 : Nat) : Int) from rfl, irem_nat, i64_in _ (by omega), show (1 : Int) + ((q % 8 : Nat) : Int) = ((1 + q % 8 : Nat) : Int) by omega]
  have hnc1 : 1 ≤ 1 + q % 8 ∧ 1 + q % 8 ≤ 8 := by omega
  generalize 1 + q % 8 = nc at hnc1 ⊢
  refine desc_New.c hnc1.1 hnc1.2 fun t F1 h1 w1 s1 => ⟨_, _, rfl, fun m hm => ?_⟩
  refine gabionlaw23_wakes.c fun h3 p3 => ⟨_, rfl, xsIf_f rfl (xsIf_f rfl (xsIf_f rfl ?_))⟩
  generalize hh2 : upd h1 m (.cells #[.int .i64 nc, .slice none 0 0] 59 (0, 0)) = h2 at p3
  have k2 : ∀ k, k ≠ m → h2 k = h1 k := fun k hk => by rw [← hh2]; exact upd_other h1 _ hk
  have lf1 : Live F1 h1 := s1.dom fun _ h => h.elim
  have fm : ¬ F1 m := fun hf => lf1 m hf hm
  have i2 : Inv23 h h2 F1 (fun k => k = m) t m nc (fun _ _ => none) [] none 0 := by
    refine ⟨w1.keep fun k hk hn => k2 k (fun e => hn (by rw [e]; exact hm)), ⟨rfl, ?_, Sl.nil _ _ _ _⟩, Rel.empty nc, fun k hk hf => fm (by rw [← hk]; exact hf), ?_, ?_, ?_, ?_, ?_⟩
    · rw [← hh2]; exact Blk.new h1 m _ _
    · intro k hk; rw [k2 k (fun e => fm (e ▸ hk))]; exact lf1 k hk
    · intro k hk; rw [hk, ← hh2, upd_same]; simp
    · rw [← hh2]; exact (s1.part (Part.refl h) (no_one h)).upd' (by
        cases e : h m with
        | none => rfl
        | some o => have := s1.live m (by rw [e]; simp); exact absurd hm this) _
    · intro k hk hf
      rcases s1.sub k hf with h1 | h1
      · exact h1
      · exact hk h1
    · intro k hk e
      exact s1.live k hk (by rw [e]; exact hm)
  have i3 := i2.part p3
  apply gabionlaw23_DescPlays.J6.ok
  unfold gabionlaw23_DescPlays.J6.wp
  have hmn : imin (n : Int) 80 = ((min n 80 : Nat) : Int) := by rw [imin_eq]; omega
  rw [hmn, slBase_zero]
  refine ⟨by omega, ?_⟩
  have e1 : (((min n 80 : Nat) : Int) - 0).toNat = min n 80 := by omega
  rw [e1]
  have loop : ∀ (jj j : Nat) (h' : Heap) (F G : Nat → Prop) (M : Nat → Nat → Option Op4) (L : List Row5) (a' : Option Addr) (cp : Nat), j + jj = min n 80 → L.length ≤ j → Inv23 h h' F G t m nc M L a' cp →
      gabionlaw23_DescPlays.L7 (some ⟨t, 0, none⟩) (some ⟨m, 0, none⟩) a (min n 80) ((c : Int) - 0).toNat ((min n 80 : Nat) : Int) j h' fun v h' => v = .bool true ∧ Part h h' := by
    intro jj
    induction jj with
    | zero =>
      intro j h' F G M L a' cp hj hL i
      apply gabionlaw23_DescPlays.L7.ok
      exact xsIf_f (by simp; omega) ⟨rfl, i.pt⟩
    | succ jj ih =>
      intro j h' F G M L a' cp hj hL i
      have hjl : j < acts.length := by omega
      have hg : acts[j]? = some acts[j] := List.getElem?_eq_getElem hjl
      refine plays_step (x := acts[j].1) (x1 := acts[j].2.1) (x2 := acts[j].2.2.1) (x3 := acts[j].2.2.2) i (by omega) (by omega) (by omega) (fun K hK => ?_) (fun h2 F' G' M' L' a2 cp2 hl2 i2 => ih (j + 1) h2 F' G' M' L' a2 cp2 (by omega) (by omega) i2)
      refine reads_base (readsAt_part hr i.pt) (by rw [flat_length row4_length]; omega) fun b o hcell => ?_
      have key : ∀ q, q < 4 → h'.cell b (o + j * 4 + q) = (row4 acts[j])[q]? := fun q hq => by
        have := hcell (j * 4 + q) (by rw [flat_length row4_length]; omega)
        rw [Nat.mul_one, flat_get row4_length acts j q _ hg hq] at this
        rw [Nat.add_assoc]; exact this
      exact hK b o (key 0 (by omega)) (key 1 (by omega)) (key 2 (by omega)) (key 3 (by omega))
  exact loop (min n 80) 0 h3 _ _ _ _ _ _ (by omega) (by simp) i3

end Go.Gb
