/- Own texts for the seat: So1 Lk1 Lk2 Lk3 Lk4 Lk5 Lk6 Lk7 Lk8 Lk9 Lk10 Lk11 Lk12 Lk13. -/
import Derived.Test.YtcccjpahikgibaaLayS
import Derived.Shelf.SortM.SortNone
import Derived.Sort.OwnSortedInts
import Derived.Test.YtcccjpahikgibaaA7
import Derived.Test.YtcccjpahikgibaaA11
import Derived.Test.YtcccjpahikgibaaW
import Derived.Test.YtcccjpahikgibaaA10
import Derived.Test.YtcccjpahikgibaaB1
import Derived.Test.YtcccjpahikgibaaA12
set_option linter.unusedVariables false
set_option linter.unusedSimpArgs false
set_option linter.unnecessarySimpa false
set_option linter.deprecated false
namespace Go.Gb
open Go.Proofs Go.RowKit Go.Sort Go.Shelf

/-! slices.Sort of numbers, by the kit's contract; sorted lists. -/

abbrev sortI (l : List Int) : List Int := l.mergeSort fun x y => decide (x ≤ y)

theorem ints_at {k : IntKind} {cs : Array Value} {zs : List Int} (h : cs.toList.take zs.length = ints k zs) {j : Nat} (hj : j < zs.length) : cs[j]? = some (.int k (zs.getD j 0)) := by
  have h1 : (cs.toList.take zs.length)[j]? = (ints k zs)[j]? := by rw [h]
  rw [List.getElem?_take, if_pos hj, ints_get] at h1
  rw [← Array.getElem?_toList, h1, List.getD_eq_getElem?_getD]
  simp [hj]

theorem sort_sl {F : Nat → Prop} {h : Heap} {T : TypeId} {a : Option Addr} {n c : Nat} {zs : List Int} {Q : Value → Heap → Prop} (w : Sl F h T 1 a n c (ints .i64 zs)) (hn : n < 1000000000)
    (hq : ∀ h', Sl F h' T 1 a n c (ints .i64 (sortI zs)) → Step F h F h' → Q (.tuple #[]) h') : C Try.prog 29 #[.slice a n c] h Q := by
  have hl : zs.length = n := by have := w.len; rw [ints_length] at this; omega
  rcases w.place with ⟨rfl, rfl, rfl⟩ | ⟨b, cs, rfl, hF, hb, hsz, hle, htk⟩
  · have e0 : zs = [] := List.eq_nil_of_length_eq_zero hl
    subst e0
    intro w0 hs
    refine (AnyM.slices_Sort_int_none Try.sortI none 0 w0).mono ?_
    rintro e w' ⟨rfl, rfl⟩
    exact ⟨_, h, rfl, hq h (by simpa using w) (Step.refl _ _), hs, Nat.le_refl _, fun _ _ _ => rfl, fun k hk => .inl hk, rfl, rfl, rfl⟩
  · intro w0 hs
    have hw0 := hs b _ hb
    have hlt : b < w0.heap.size := (Array.getElem?_eq_some_iff.1 hw0).1
    have htk' : cs.toList.take zs.length = ints .i64 zs := by rw [hl]; simpa using htk
    have hH : Holds (Value.int .i64) w0 b 0 zs.toArray := by
      intro j hj
      have hj' : j < zs.length := by simpa using hj
      have hc := ints_at htk' hj'
      constructor
      · simp only [World.cell?, hw0, Nat.zero_add]
        rw [hc]
        simp [List.getD_eq_getElem?_getD, hj']
      · simp only [World.frozen?, hw0]
        simp
    have hc := AnyM.slices_Sort_int Try.sortI b 0 c zs w0 hH hlt (by omega)
    rw [hl] at hc
    refine hc.mono ?_
    rintro e w' ⟨rfl, m, os, rfl⟩
    have hsl : (sortI zs).length = zs.length := List.length_mergeSort zs
    have hg := grownBy_sortedI (w := w0) (g := b) (n := m) (os := os) (sortI zs).toArray
    have hh := heap_sortedI (n := m) (os := os) (sortI zs).toArray hw0
    refine ⟨_, upd h b (.cells (putCells (Value.int .i64) 0 (sortI zs).toArray cs) T (0, 0)), rfl, hq _ ⟨by rw [ints_length, hsl, hl]; omega, .inr ⟨b, _, rfl, hF, upd_same _ _ _, by simp [putCells, hsz], hle, ?_⟩⟩ (Step.set hF _), ?_⟩
    · have := take_putCellsI cs (sortI zs) (by rw [hsl, hl]; omega)
      rw [hsl, hl] at this
      simpa [ints] using this
    · refine ⟨?_, hg.size, ?_, ?_, hg.os, hg.output, hg.tape⟩
      · intro k o hk
        by_cases e : k = b
        · subst e; rw [upd_same] at hk; cases hk; exact hh
        · rw [upd_other _ _ e] at hk
          have := hs k o hk
          rw [hg.block k (Array.getElem?_eq_some_iff.1 this).1 (fun h => e (Option.some.inj h))]; exact this
      · intro k hk hn
        refine hg.block k hk (fun e => ?_)
        cases e
        rw [hb] at hn; cases hn
      · intro k hk
        by_cases e : k = b
        · subst e; left; rw [hb]; simp
        · rw [upd_other _ _ e] at hk; exact .inl hk
end Go.Gb
namespace Go.Gb
open Go.Proofs IntWalk

/-! slices.Values, Collect, Sorted. -/

theorem i64_succ {i n : Nat} (h : i < n) (hn : n < 1000000000000) : IntKind.wrap .i64 ((i : Int) + 1) = ((i + 1 : Nat) : Int) := by
  rw [i64_in _ (by omega)]; omega

/-- What an iterator yields, whoever asks, as long as its memory lasts. -/
def SeqC (gf : Nat) (cap : Array Value) (xs : List Int) (h0 : Heap) : Prop :=
  ∀ (y : Nat) (h : Heap) (Q : Value → Heap → Prop) (I : Nat → Heap → Prop), (∀ j h, I j h → Part h0 h) →
    (∀ j x h, xs[j]? = some x → I j h → Y Try.prog y [.int .i64 x] h fun r h' => r = .bool true ∧ I (j + 1) h') → I 0 h → (∀ h', I xs.length h' → Q (.tuple #[]) h') →
    C Try.prog gf (Value.func (.yield y) #[] #[] :: cap.toList).toArray h Q

theorem values_1.L {y : Nat} {a : Option Addr} {c : Nat} {xs : List Int} {h0 : Heap} {Q : Value → Heap → Prop} {I : Nat → Heap → Prop} (hr : readsAt h0 a (ints .i64 xs)) (hn : xs.length < 1000000000)
    (hI : ∀ j h, I j h → Part h0 h) (hs : ∀ j x h, xs[j]? = some x → I j h → Y Try.prog y [.int .i64 x] h fun r h' => r = .bool true ∧ I (j + 1) h') (he : ∀ h', I xs.length h' → Q (.tuple #[]) h') :
    ∀ (k j : Nat) (h : Heap), j + k = xs.length → I j h → slices_Values_int_int_1.L1 y a xs.length c (xs.length : Int) (j : Int) h Q := by
  intro k
  induction k with
  | zero =>
    intro j h hj hi
    apply slices_Values_int_int_1.L1.ok
    refine xsIf_f (by simp; omega) ?_
    have : j = xs.length := by omega
    subst this
    exact he h hi
  | succ k ih =>
    intro j h hj hi
    apply slices_Values_int_int_1.L1.ok
    have hlt : j < xs.length := by omega
    refine xsIf_t (by simp; omega) ⟨⟨by omega, by omega⟩, reads_ints (i := j) (readsAt_part hr (hI j h hi)) hlt fun b o hc => ?_⟩
    have hx : xs[j]? = some xs[j] := by simp [hlt]
    refine ⟨xs[j], by rw [Int.toNat_natCast]; exact hc j _ hx, (hs j _ h hx hi).mono ?_⟩
    rintro r h' ⟨rfl, hi'⟩
    refine ⟨true, rfl, xsIf_f rfl ?_⟩
    rw [i64_succ hlt (by omega)]
    exact ih (j + 1) h' (by omega) hi'

theorem values_1.c {b c : Nat} {a : Option Addr} {xs : List Int} {h0 : Heap} (hb : Blk h0 b [.slice a xs.length c]) (hr : readsAt h0 a (ints .i64 xs)) (hn : xs.length < 1000000000) :
    SeqC 32 #[.pointer (some ⟨b, 0, none⟩)] xs h0 := by
  intro y h Q I hI hs hi he
  refine slices_Values_int_int_1.ok (t1 := b) ?_
  exact ⟨a, xs.length, c, (hI 0 h hi).cell (hb.cell 0), values_1.L hr hn hI hs he xs.length 0 h (by omega) hi⟩

noncomputable abbrev apL (tmps : Array Value) (D : Nat) (s : LoopState) (p : Option Code) : Loop := loopO 35 tmps #[7] (cAt (bodyOf Try.f35) [1, 0, 1, 0, 0]) (cAt (bodyOf Try.f35) [1, 0, 1, 0, 1]) D s p

theorem appendSeq.c {gf : Nat} {cap : Array Value} {xs : List Int} {h0 h : Heap} {Q : Value → Heap → Prop} (hg : goOk Try.prog gf = true) (hs : SeqC gf cap xs h0) (hp : Part h0 h) (hn : xs.length < 1000000000)
    (hq : ∀ a c h', Sl (fun k => h k = none) h' 3 1 a xs.length c (ints .i64 xs) → Part h h' → Q (.slice a xs.length c) h') : C Try.prog 35 #[.slice none 0 0, .func (.func gf) #[] cap] h Q := by
  refine slices_AppendSeq_int_int.ok fun b hb => ?_
  rw [slices_AppendSeq_int_int.G3.eq]
  refine TW.rangeFunc rfl hg ?_ fun D l tmps hDl hD hl hsz henv => ?_
  · intro t k off e
    unfold getE at e
    split at e
    · cases e
    · unfold getE at e
      split at e
      · cases e
      · unfold getE at e
        split at e
        · cases e
        · cases e
  have hDb : D ≠ b := fun e => by rw [e, upd_same] at hD; cases hD
  have hlb : l ≠ b := fun e => by rw [e, upd_same] at hl; cases hl
  have hD0 : h D = none := by rw [upd_other _ _ hDb] at hD; exact hD
  have hl0 : h l = none := by rw [upd_other _ _ hlb] at hl; exact hl
  refine hs l _ _ (fun j hh => Part h hh ∧ hh D = some (.deferred (some [])) ∧ hh l = some (.loop (apL tmps D .ready none)) ∧
      ∃ a c, Blk hh b [.slice a j c] ∧ Sl (fun k => h k = none ∧ k ≠ b ∧ k ≠ D ∧ k ≠ l) hh 3 1 a j c (ints .i64 (xs.take j))) (fun j hh i => hp.trans i.1) ?_ ?_ ?_
  · rintro j x hh hx ⟨hpart, hhD, hhl, a, c, hB, hS⟩
    have hj : j < xs.length := (List.getElem?_eq_some_iff.1 hx).1
    refine Y.one hhl hsz (by decide) henv (TW.keep [2, 7] [] ?_)
    refine slices_AppendSeq_int_int.R3.ok (mkL := l) (s_2 := b) (t7 := x) ?_
    have hB1 : Blk (upd hh l (.loop (apL tmps D .busy none))) b [.slice a j c] :=
      hB.keep (upd_other _ _ (Ne.symm hlb))
    have hS1 := hS.keep (h' := upd hh l (.loop (apL tmps D .busy none))) (fun _ h => h) (fun k hk _ => upd_other _ _ hk.2.2.2)
    refine ⟨_, hhl, rfl, a, j, c, hB1.cell 0, fun b2 hb2 => ?_⟩
    have hb2b : b2 ≠ b := fun e => hB1.ne (by rw [← e]; exact hb2)
    have hb2l : b2 ≠ l := fun e => by rw [e, upd_same] at hb2; cases hb2
    have hb2h : hh b2 = none := by rw [upd_other _ _ hb2l] at hb2; exact hb2
    have hb2D : b2 ≠ D := fun e => by rw [e, hhD] at hb2h; cases hb2h
    refine hS1.snoc (new := [.int .i64 x]) hb2 (by kernel_rfl) (by decide) rfl rfl (by kernel_rfl) (by show (2 * (j + 1) + 192) * 8 ≤ 2 ^ 48; omega) fun a' c' F' h' hS2 st hF => ?_
    have hk : ∀ k, k = b ∨ k = D ∨ k = l → h' k = upd hh l (.loop (apL tmps D .busy none)) k := by
      intro k hk
      refine st.keep k (fun hF => ?_) ?_
      · rcases hk with rfl | rfl | rfl
        · exact hF.2.1 rfl
        · exact hF.2.2.1 rfl
        · exact hF.2.2.2 rfl
      · rcases hk with rfl | rfl | rfl
        · exact hB1.ne
        · rw [upd_other _ _ hDl, hhD]; simp
        · rw [upd_same]; simp
    have hB2 : Blk h' b [.slice a j c] := hB1.keep (hk b (.inl rfl))
    refine ⟨hB2.can (by simp), apL tmps D .busy none, ?_, .inl ⟨rfl, rfl, ?_, ?_, ?_, a', c', ?_, ?_⟩⟩
    · rw [put_other _ _ _ hlb, hk l (.inr (.inr rfl)), upd_same]
    · intro k o hko
      have h1 : k ≠ b := fun e => by rw [e, hb] at hko; cases hko
      have h2 : k ≠ l := fun e => by rw [e, hl0] at hko; cases hko
      have h3 : hh k = some o := hpart k o hko
      rw [upd_other _ _ h2, put_other _ _ _ h1, st.keep k (fun hF => by rw [hF.1] at hko; cases hko) (by rw [upd_other _ _ h2, h3]; simp), upd_other _ _ h2, h3]
    · rw [upd_other _ _ hDl, put_other _ _ _ hDb, hk D (.inr (.inl rfl)), upd_other _ _ hDl, hhD]
    · rw [upd_same]; rfl
    · exact (hB2.put 0 [.slice a' (j + 1) c']).keep (upd_other _ _ (Ne.symm hlb))
    · have e : ints .i64 (xs.take j) ++ [.int .i64 x] = ints .i64 (xs.take (j + 1)) := by
        rw [List.take_succ, hx]; simp [ints]
      rw [e] at hS2
      have hnew : ∀ k, F' k → k ≠ b ∧ k ≠ l ∧ k ≠ D ∧ h k = none := by
        intro k hk
        rcases st.sub k hk with h1 | h1
        · exact ⟨h1.2.1, h1.2.2.2, h1.2.2.1, h1.1⟩
        · refine ⟨fun e => hB1.ne (by rw [← e]; exact h1), fun e => ?_, fun e => ?_, ?_⟩
          · rw [e, upd_same] at h1; cases h1
          · rw [e, upd_other _ _ hDl, hhD] at h1; cases h1
          · by_cases e : k = l
            · rw [e]; exact hl0
            · rw [upd_other _ _ e] at h1; exact hpart.none h1
      refine hS2.keep (fun k hk => ⟨(hnew k hk).2.2.2, (hnew k hk).1, (hnew k hk).2.2.1, (hnew k hk).2.1⟩) fun k hk _ => ?_
      rw [upd_other _ _ (hnew k hk).2.1, put_other _ _ _ (hnew k hk).1]
  · refine ⟨((Part.upd hb _).trans (Part.upd hD _)).trans (Part.upd (by rw [upd_other _ _ (Ne.symm hDl)]; exact hl) _), by rw [upd_other _ _ hDl, upd_same], by rw [upd_same], none, 0, ?_, ?_⟩
    · exact (Blk.new h b #[.slice none 0 0] 32).keep (by rw [upd_other _ _ (Ne.symm hlb), upd_other _ _ (Ne.symm hDb)])
    · simpa [ints] using Sl.nil _ _ _ _
  · rintro hh ⟨hpart, hhD, hhl, a, c, hB, hS⟩
    refine ⟨_, hhl, (by intro e; cases e), ?_⟩
    refine slices_AppendSeq_int_int.K3.ok (mkD := D) (s_2 := b) (slices_AppendSeq_int_int.J4.ok ⟨a, xs.length, c, ?_, ?_, ?_⟩)
    · exact (hB.keep (Heap.del_ne (Ne.symm hlb))).cell 0
    · rw [Heap.del_ne hDl, hhD]
    · rw [List.take_length] at hS
      refine hq a c _ ?_ ?_
      · refine hS.keep (fun k hk => hk.1) fun k hk _ => ?_
        rw [Heap.del_ne hk.2.2.1, Heap.del_ne hk.2.2.2]
      · intro k o hko
        rw [Heap.del_ne (fun e => by rw [e, hD0] at hko; cases hko), Heap.del_ne (fun e => by rw [e, hl0] at hko; cases hko)]
        exact hpart k o hko

theorem sorted.c {gf : Nat} {cap : Array Value} {xs : List Int} {h0 h : Heap} {Q : Value → Heap → Prop} (hg : goOk Try.prog gf = true) (hs : SeqC gf cap xs h0) (hp : Part h0 h) (hn : xs.length < 1000000000)
    (hq : ∀ a c h', Sl (fun k => h k = none) h' 3 1 a xs.length c (ints .i64 (sortI xs)) → Part h h' → Q (.slice a xs.length c) h') : C Try.prog 21 #[.func (.func gf) #[] cap] h Q := by
  refine slices_Sorted_int.ok (slices_Collect_int.ok (appendSeq.c hg hs hp hn fun a c h' w p => ⟨a, _, c, rfl, a, _, c, rfl, sort_sl w hn fun h'' w' st => hq a c h'' w' (st.part p fun k hk e => hk e)⟩))

/-- slices.Sorted(slices.Values(..)). -/
theorem sorted_values.c {a : Option Addr} {c : Nat} {xs : List Int} {h : Heap} {Q : Value → Heap → Prop} (hr : readsAt h a (ints .i64 xs)) (hn : xs.length < 1000000000)
    (hq : ∀ a c h', Sl (fun k => h k = none) h' 3 1 a xs.length c (ints .i64 (sortI xs)) → Part h h' → Q (.slice a xs.length c) h') :
    C Try.prog 22 #[.slice a xs.length c] h fun r h' => ∃ x, r = x ∧ C Try.prog 21 #[x] h' Q := by
  refine slices_Values_int_int.ok fun b hb => ⟨_, rfl, ?_⟩
  have hp : Part h (upd h b (.cells #[.slice a xs.length c] 32 (0, 0))) := Part.upd hb _
  refine sorted.c (h0 := upd h b (.cells #[.slice a xs.length c] 32 (0, 0))) (by kernel_rfl) (values_1.c (Blk.new _ _ _ _) (readsAt_part hr hp) hn) (Part.refl _) hn fun a' c' h' w p => hq a' c' h' (w.keep (fun k hk => ?_) fun _ _ _ => rfl) (hp.trans p)
  by_cases e : k = b
  · rw [e]; exact hb
  · rw [upd_other _ _ e] at hk; exact hk
end Go.Gb
namespace Go.Gb
open Go.Proofs IntWalk

/-! Strictly rising lists; slices.Compact. -/

def SS (l : List Int) : Prop := l.Pairwise (· < ·)
def ins (x : Int) : List Int → List Int
  | [] => [x]
  | y :: r => if x < y then x :: y :: r else if x = y then y :: r else y :: ins x r
def ss (l : List Int) : List Int := l.foldr ins []

theorem mem_ins {x z : Int} : ∀ (l : List Int), z ∈ ins x l ↔ z = x ∨ z ∈ l
  | [] => by simp [ins]
  | y :: r => by
    unfold ins
    split
    · simp
    · split
      · rename_i h; subst h; simp
      · rw [List.mem_cons, mem_ins r, List.mem_cons]
        constructor
        · rintro (h | h | h)
          · exact .inr (.inl h)
          · exact .inl h
          · exact .inr (.inr h)
        · rintro (h | h | h)
          · exact .inr (.inl h)
          · exact .inl h
          · exact .inr (.inr h)
theorem SS.ins {x : Int} : ∀ {l : List Int}, SS l → SS (ins x l)
  | [], _ => by simp [Go.Gb.ins, SS]
  | y :: r, h => by
    have h' := List.pairwise_cons.1 h
    unfold Go.Gb.ins
    split
    · rename_i hx
      refine List.pairwise_cons.2 ⟨fun z hz => ?_, h⟩
      rcases List.mem_cons.1 hz with rfl | hz
      · exact hx
      · have := h'.1 z hz; omega
    · split
      · exact h
      · refine List.pairwise_cons.2 ⟨fun z hz => ?_, SS.ins h'.2⟩
        rcases (mem_ins r).1 hz with rfl | hz
        · omega
        · exact h'.1 z hz
theorem mem_ss {z : Int} : ∀ (l : List Int), z ∈ ss l ↔ z ∈ l
  | [] => by simp [ss]
  | x :: r => by
    show z ∈ ins x (ss r) ↔ _
    rw [mem_ins, mem_ss r, List.mem_cons]
theorem SS_ss : ∀ (l : List Int), SS (ss l)
  | [] => List.Pairwise.nil
  | _ :: r => (SS_ss r).ins
theorem SS.ext : ∀ {l m : List Int}, SS l → SS m → (∀ x, x ∈ l ↔ x ∈ m) → l = m
  | [], [], _, _, _ => rfl
  | [], y :: m, _, _, h => by have := (h y).2 (by simp); simp at this
  | x :: l, [], _, _, h => by have := (h x).1 (by simp); simp at this
  | x :: l, y :: m, hl, hm, h => by
    have hl' := List.pairwise_cons.1 hl
    have hm' := List.pairwise_cons.1 hm
    have e : x = y := by
      rcases List.mem_cons.1 ((h x).1 (by simp)) with e | e
      · exact e
      · rcases List.mem_cons.1 ((h y).2 (by simp)) with e' | e'
        · exact e'.symm
        · have := hl'.1 y e'; have := hm'.1 x e; omega
    subst e
    congr 1
    refine SS.ext hl'.2 hm'.2 fun z => ?_
    have hz := h z
    simp only [List.mem_cons] at hz
    constructor
    · intro hzl
      rcases hz.1 (.inr hzl) with e | e
      · have := hl'.1 z hzl; omega
      · exact e
    · intro hzm
      rcases hz.2 (.inr hzm) with e | e
      · have := hm'.1 z hzm; omega
      · exact e
theorem ss_eq {l m : List Int} (hm : SS m) (h : ∀ x, x ∈ l ↔ x ∈ m) : ss l = m := SS.ext (SS_ss l) hm fun x => (mem_ss l).trans (h x)
theorem ss_congr {l m : List Int} (h : ∀ x, x ∈ l ↔ x ∈ m) : ss l = ss m := ss_eq (SS_ss m) fun x => (h x).trans (mem_ss m).symm
theorem ss_of_SS {l : List Int} (h : SS l) : ss l = l := ss_eq h fun _ => Iff.rfl

theorem SS.snoc {l : List Int} {x : Int} (h : SS l) (hx : ∀ y ∈ l, y < x) : SS (l ++ [x]) :=
  List.pairwise_append.2 ⟨h, by simp, fun a ha b hb => by rw [List.mem_singleton.1 hb]; exact hx a ha⟩

theorem slBase0' (a : Option Addr) (c : Int) (sz : Nat) : slBase a c 0 sz = a := by
  unfold slBase
  split
  · rfl
  · cases a <;> simp [Addr.add]

theorem sortI_sorted (l : List Int) : (sortI l).Pairwise (· ≤ ·) := by
  have := List.pairwise_mergeSort (le := fun x y => decide ((x : Int) ≤ y)) (fun a b c h1 h2 => by simp at *; omega) (fun a b => by simp; omega) l
  exact this.imp fun h => by simpa using h
theorem mem_sortI {l : List Int} {x : Int} : x ∈ sortI l ↔ x ∈ l := List.mem_mergeSort

section
variable {F : Nat → Prop} {h : Heap} {Q : Value → Heap → Prop} {T : TypeId} {b n cp : Nat} {l : List Int} {k : IntKind}

theorem Sl.at (w : Sl F h T 1 (some ⟨b, 0, none⟩) n cp (ints k l)) : l.length = n ∧ F b ∧ n ≤ cp ∧ ∃ cs, h b = some (.cells cs T (0, 0)) ∧ cs.size = cp ∧ cs.toList.take n = ints k l := by
  refine ⟨by have := w.len; rw [ints_length] at this; omega, ?_⟩
  rcases w.place with ⟨e, _⟩ | ⟨b', cs, e, h1, h2, h3, h4, h5⟩
  · cases e
  · cases e; exact ⟨h1, h4, cs, h2, by omega, by simpa using h5⟩
theorem Sl.cellb (w : Sl F h T 1 (some ⟨b, 0, none⟩) n cp (ints k l)) {j : Nat} {x : Int} (hj : l[j]? = some x) : h.cell b j = some (.int k x) := by
  obtain ⟨hl, _, _, cs, h2, h3, h4⟩ := w.at
  have hlt : j < l.length := (List.getElem?_eq_some_iff.1 hj).1
  unfold Heap.cell
  rw [h2]
  show cs[j]? = _
  have := ints_at (k := k) (cs := cs) (zs := l) (by rw [hl]; exact h4) hlt
  rw [this, List.getD_eq_getElem?_getD, hj]; rfl
theorem Sl.canb (w : Sl F h T 1 (some ⟨b, 0, none⟩) n cp (ints k l)) {j m : Nat} (hj : j + m ≤ n) : h.can b j m := by
  obtain ⟨hl, _, h5, cs, h2, h3, h4⟩ := w.at
  exact ⟨cs, T, 0, 0, h2, by omega, .inr (Nat.zero_le _)⟩
theorem Sl.putb (w : Sl F h T 1 (some ⟨b, 0, none⟩) n cp (ints k l)) {j : Nat} (x : Int) (hj : j < n) : Sl F (h.put b j [.int k x]) T 1 (some ⟨b, 0, none⟩) n cp (ints k (l.set j x)) := by
  obtain ⟨hl, hF, h5, cs, h2, h3, h4⟩ := w.at
  refine ⟨by rw [ints_length, List.length_set]; omega, .inr ⟨b, (cs.toList.set j (.int k x)).toArray, rfl, hF, by simp [Heap.put, h2, putObj, setL], by simp [h3], h5, ?_⟩⟩
  rw [Nat.mul_one, ← ints_set, ← h4]
  simp [List.take_set]
theorem Sl.cut (w : Sl F h T 1 (some ⟨b, 0, none⟩) n cp (ints k l)) {m : Nat} (hm : m ≤ n) : Sl F h T 1 (some ⟨b, 0, none⟩) m cp (ints k (l.take m)) := by
  obtain ⟨hl, hF, h5, cs, h2, h3, h4⟩ := w.at
  refine ⟨by rw [ints_length, List.length_take]; omega, .inr ⟨b, cs, rfl, hF, h2, by omega, by omega, ?_⟩⟩
  have : ints k (l.take m) = (ints k l).take m := by simp [ints, List.map_take]
  rw [this, ← h4, List.take_take, Nat.mul_one, Nat.min_eq_left hm]
theorem Sl.wipe (w : Sl F h T 1 (some ⟨b, 0, none⟩) n cp (ints k l)) {m j : Nat} (hm : j ≤ n) (vs : List Value) (hv : j + vs.length ≤ cp) (hmj : m ≤ j) : Sl F (h.put b j vs) T 1 (some ⟨b, 0, none⟩) m cp (ints k (l.take m)) := by
  obtain ⟨hl, hF, h5, cs, h2, h3, h4⟩ := w.at
  refine ⟨by rw [ints_length, List.length_take]; omega, .inr ⟨b, (setL cs.toList j vs).toArray, rfl, hF, by simp [Heap.put, h2, putObj], by simp [setL_length, h3], by omega, ?_⟩⟩
  have : ints k (l.take m) = (ints k l).take m := by simp [ints, List.map_take]
  rw [this, ← h4, List.take_take, Nat.mul_one, Nat.min_eq_left (by omega)]
  apply List.ext_getElem?
  intro i
  rw [List.getElem?_take, List.getElem?_take]
  by_cases hi : i < m
  · rw [if_pos hi, if_pos hi]
    have := setL_get vs cs.toList j i (by simp; omega)
    simp only [] at this ⊢
    rw [this, if_neg (by omega)]
  · rw [if_neg hi, if_neg hi]

theorem sorted_le {zs : List Int} (hs : zs.Pairwise (· ≤ ·)) {i j : Nat} {x y : Int} (hi : zs[i]? = some x) (hj : zs[j]? = some y) (hij : i ≤ j) : x ≤ y := by
  rcases Nat.eq_or_lt_of_le hij with e | e
  · subst e; rw [hi] at hj; cases hj; omega
  · obtain ⟨h1, rfl⟩ := List.getElem?_eq_some_iff.1 hi
    obtain ⟨h2, rfl⟩ := List.getElem?_eq_some_iff.1 hj
    exact List.pairwise_iff_getElem.1 hs i j h1 h2 e

theorem sortedTake {zs : List Int} (hs : zs.Pairwise (· ≤ ·)) {p : Nat} {x y : Int} (hx : zs[p]? = some x) (hy : y ∈ zs.take p) : y ≤ x := by
  obtain ⟨i, hi⟩ := List.getElem?_of_mem hy
  rw [List.getElem?_take] at hi
  split at hi
  · exact sorted_le hs hi hx (by omega)
  · cases hi

theorem slices_Compact_int_int.L9.c {zs : List Int} {k0 : Nat} (hs : zs.Pairwise (· ≤ ·)) (hl : zs.length = n) (hn : n < 1000000000) (hk0 : k0 < n) (h1 : 0 < k0) (hcp : n ≤ cp) :
    ∀ (m k k2 : Nat) (cs : List Int) (h : Heap), k2 + m = n - k0 → k0 ≤ k → 0 < k2 → k + 1 ≤ k0 + k2 → k0 + k2 ≤ n → Sl F h 3 1 (some ⟨b, 0, none⟩) n cp (ints .i64 cs) → (∀ j, k ≤ j → cs[j]? = zs[j]?) → SS (cs.take k) → (∀ x, x ∈ cs.take k ↔ x ∈ zs.take (k0 + k2)) →
    (∀ h' r, Sl F h' 3 1 (some ⟨b, 0, none⟩) r.length cp (ints .i64 r) → r = ss zs → Step F h F h' → Q (.slice (some ⟨b, 0, none⟩) r.length cp) h') →
    slices_Compact_int_int.L9 (some ⟨b, 0, none⟩) n cp (k : Int) (some ⟨b, k0, none⟩) (n - k0) (cp - k0) (k2 : Int) h Q := by
  intro m
  induction m with
  | zero =>
    intro k k2 cs h hm hk hk2 hkp hle w hj hss hmem hq
    obtain ⟨hcl, hF, _, _⟩ := w.at
    apply slices_Compact_int_int.L9.ok
    have he : k0 + k2 = n := by omega
    refine xsIf_f (by simp; omega) ⟨⟨by omega, by omega⟩, fun h0 => by omega, fun h0 => ?_⟩
    have hb : slBase (some (⟨b, 0, none⟩ : Addr)) (cp : Int) (k : Int) 1 = some ⟨b, k, none⟩ := by
      unfold slBase; rw [if_neg (by omega)]; simp [Addr.add]; omega
    rw [hb]
    have hz : (zeros Try.prog 3 ((n : Int) - (k : Int)).toNat).length = n - k := by
      unfold zeros
      rw [show cellZero Try.prog 3 = [.int .i64 0] by kernel_rfl]
      rw [show ((n : Int) - (k : Int)).toNat = n - k by omega]; simp
    refine ⟨b, k, rfl, ?_, ⟨by omega, by omega⟩, ?_⟩
    · have : ((n : Int) - (k : Int)).toNat * 1 = n - k := by omega
      rw [this]; exact w.canb (by omega)
    · rw [slBase0', show ((k : Int) - 0).toNat = (cs.take k).length by rw [List.length_take]; omega, show ((cp : Int) - 0).toNat = cp by omega]
      refine hq _ (cs.take k) ?_ ?_ (Step.put hF _ _)
      · have := w.wipe (m := k) (j := k) (by omega) (zeros Try.prog 3 ((n : Int) - (k : Int)).toNat) (by omega) (Nat.le_refl _)
        rw [show (cs.take k).length = k by rw [List.length_take]; omega]
        exact this
      · refine (ss_eq hss fun x => ?_).symm
        rw [hmem, he, ← hl, List.take_length]
  | succ m ih =>
    intro k k2 cs h hm hk hk2 hkp hle w hj hss hmem hq
    obtain ⟨hcl, hF, _, _⟩ := w.at
    apply slices_Compact_int_int.L9.ok
    have hp : k0 + k2 < n := by omega
    have hx : zs[k0 + k2]? = some zs[k0 + k2] := by simp [hl, hp]
    have hx1 : zs[k0 + k2 - 1]? = some (zs[k0 + k2 - 1]'(by omega)) := List.getElem?_eq_getElem _
    have ew : IntKind.wrap .i64 ((k2 : Int) - 1) = ((k2 - 1 : Nat) : Int) := by rw [i64_in _ (by omega)]; omega
    rw [slices_Compact_int_int.L9.wp, ew]
    have ex : h.cell b (k0 + (k2 : Int).toNat * 1) = some (.int .i64 zs[k0 + k2]) := by
      rw [show k0 + (k2 : Int).toNat * 1 = k0 + k2 by omega]
      exact w.cellb (by rw [hj _ (by omega)]; exact hx)
    have ex1 : h.cell b (k0 + ((k2 - 1 : Nat) : Int).toNat * 1) = some (.int .i64 (zs[k0 + k2 - 1]'(by omega))) := by
      rw [show k0 + ((k2 - 1 : Nat) : Int).toNat * 1 = k0 + k2 - 1 by omega]
      exact w.cellb (by rw [hj _ (by omega)]; exact hx1)
    have etake : zs.take (k0 + (k2 + 1)) = zs.take (k0 + k2) ++ [zs[k0 + k2]] := by
      rw [← Nat.add_assoc, List.take_succ, hx]; rfl
    refine xsIf_t (by simp; omega) ⟨⟨by omega, by omega⟩, b, k0, rfl, ⟨by omega, by omega⟩, b, k0, rfl, _, ex, _, ex1, xsIf_intro (fun hne => ?_) (fun heq => ?_)⟩
    · have hne : zs[k0 + k2] ≠ zs[k0 + k2 - 1]'(by omega) := of_decide_eq_true hne
      refine ⟨⟨by omega, by omega⟩, b, k0, rfl, _, ex, ⟨by omega, by omega⟩, b, 0, rfl, ?_, ?_⟩
      · rw [show 0 + (k : Int).toNat * 1 = k by omega]; exact w.canb (by omega)
      · rw [show 0 + (k : Int).toNat * 1 = k by omega]
        apply slices_Compact_int_int.J10.ok
        rw [slices_Compact_int_int.J10.wp, i64_succ (i := k) (n := n) (by omega) (by omega), i64_succ (i := k2) (n := n) (by omega) (by omega)]
        have hkcs : k < cs.length := by omega
        have htk : (cs.set k zs[k0 + k2]).take (k + 1) = cs.take k ++ [zs[k0 + k2]] := by
          rw [List.take_succ, List.getElem?_set_self hkcs, List.take_set_of_le (Nat.le_refl _)]; rfl
        refine ih (k + 1) (k2 + 1) (cs.set k zs[k0 + k2]) _ (by omega) (by omega) (by omega) (by omega) (by omega) (w.putb _ (by omega)) ?_ ?_ ?_ fun h' r w' e st => hq h' r w' e ((Step.put hF _ _).trans st)
        · intro j hjk
          rw [List.getElem?_set_ne (by omega)]; exact hj j (by omega)
        · rw [htk]
          refine hss.snoc fun y hy => ?_
          have hy' := (hmem y).1 hy
          have hle1 := sortedTake hs hx hy'
          have hprev : y ≤ zs[k0 + k2 - 1]'(by omega) := by
            obtain ⟨i, hi⟩ := List.getElem?_of_mem hy'
            rw [List.getElem?_take] at hi
            split at hi
            · exact sorted_le hs hi hx1 (by omega)
            · cases hi
          have hstep := sorted_le hs hx1 hx (by omega)
          omega
        · intro x
          rw [htk, etake, List.mem_append, List.mem_append, hmem]
    · have heq : zs[k0 + k2] = zs[k0 + k2 - 1]'(by omega) := by simpa using heq
      apply slices_Compact_int_int.J10.ok
      rw [slices_Compact_int_int.J10.wp, i64_succ (i := k2) (n := n) (by omega) (by omega)]
      refine ih k (k2 + 1) cs _ (by omega) hk (by omega) (by omega) (by omega) w hj hss ?_ hq
      intro x
      rw [etake, List.mem_append, hmem]
      constructor
      · exact .inl
      · rintro (h | h)
        · exact h
        · rw [List.mem_singleton.1 h, heq]
          exact List.mem_of_getElem? (i := k0 + k2 - 1) (by rw [List.getElem?_take, if_pos (by omega)]; exact hx1)

theorem slices_Compact_int_int.L4.c {zs : List Int} (hs : zs.Pairwise (· ≤ ·)) (hl : zs.length = n) (hn : n < 1000000000) (w : Sl F h 3 1 (some ⟨b, 0, none⟩) n cp (ints .i64 zs))
    (hq : ∀ h' r, Sl F h' 3 1 (some ⟨b, 0, none⟩) r.length cp (ints .i64 r) → r = ss zs → Step F h F h' → Q (.slice (some ⟨b, 0, none⟩) r.length cp) h') :
    ∀ (m k : Nat), k + m = n → 0 < k → SS (zs.take k) → slices_Compact_int_int.L4 (some ⟨b, 0, none⟩) n cp (k : Int) h Q := by
  obtain ⟨_, hF, hcp, _⟩ := w.at
  intro m
  induction m with
  | zero =>
    intro k hk hk0 hss
    apply slices_Compact_int_int.L4.ok
    refine xsIf_f (by simp; omega) ?_
    have e : zs.take k = zs := by rw [show k = zs.length by omega, List.take_length]
    rw [e] at hss
    have := hq h zs (by rw [hl]; exact w) (ss_of_SS hss).symm (Step.refl _ _)
    rwa [hl] at this
  | succ m ih =>
    intro k hk hk0 hss
    apply slices_Compact_int_int.L4.ok
    have hp : k < n := by omega
    have hx : zs[k]? = some zs[k] := by simp [hl, hp]
    have hx1 : zs[k - 1]? = some (zs[k - 1]'(by omega)) := List.getElem?_eq_getElem _
    have ew : IntKind.wrap .i64 ((k : Int) - 1) = ((k - 1 : Nat) : Int) := by rw [i64_in _ (by omega)]; omega
    rw [slices_Compact_int_int.L4.wp, ew]
    have ex : h.cell b (0 + (k : Int).toNat * 1) = some (.int .i64 zs[k]) := by
      rw [show 0 + (k : Int).toNat * 1 = k by omega]; exact w.cellb hx
    have ex1 : h.cell b (0 + ((k - 1 : Nat) : Int).toNat * 1) = some (.int .i64 (zs[k - 1]'(by omega))) := by
      rw [show 0 + ((k - 1 : Nat) : Int).toNat * 1 = k - 1 by omega]; exact w.cellb hx1
    have etake : zs.take (k + 1) = zs.take k ++ [zs[k]] := by rw [List.take_succ, hx]; rfl
    have hprev : ∀ y ∈ zs.take k, y ≤ zs[k - 1]'(by omega) := by
      intro y hy
      obtain ⟨i, hi⟩ := List.getElem?_of_mem hy
      rw [List.getElem?_take] at hi
      split at hi
      · exact sorted_le hs hi hx1 (by omega)
      · cases hi
    refine xsIf_t (by simp; omega) ⟨⟨by omega, by omega⟩, b, 0, rfl, ⟨by omega, by omega⟩, b, 0, rfl, _, ex, _, ex1, xsIf_intro (fun heq => ?_) (fun hne => ?_)⟩
    · have heq : zs[k] = zs[k - 1]'(by omega) := of_decide_eq_true heq
      refine ⟨⟨by omega, by omega⟩, ?_⟩
      have hb : slBase (some (⟨b, 0, none⟩ : Addr)) (cp : Int) (k : Int) 1 = some ⟨b, k, none⟩ := by
        unfold slBase; rw [if_neg (by omega)]; simp [Addr.add]; omega
      rw [hb, show ((n : Int) - (k : Int)).toNat = n - k by omega, show ((cp : Int) - (k : Int)).toNat = cp - k by omega]
      refine slices_Compact_int_int.L9.c hs hl hn hp hk0 hcp (n - k - 1) k 1 zs h (by omega) (Nat.le_refl _) (by omega) (by omega) (by omega) w (fun _ _ => rfl) hss (fun x => ?_) hq
      rw [etake, List.mem_append]
      constructor
      · exact .inl
      · rintro (h | h)
        · exact h
        · rw [List.mem_singleton.1 h, heq]
          exact List.mem_of_getElem? (i := k - 1) (by rw [List.getElem?_take, if_pos (by omega)]; exact hx1)
    · have hne : zs[k] ≠ zs[k - 1]'(by omega) := by simpa using hne
      rw [i64_succ (i := k) (n := n) hp (by omega)]
      refine ih (k + 1) (by omega) (by omega) ?_
      rw [etake]
      refine hss.snoc fun y hy => ?_
      have := hprev y hy
      have hstep := sorted_le hs hx1 hx (by omega)
      omega

theorem slices_Compact_int_int.c {a : Option Addr} {zs : List Int} (hs : zs.Pairwise (· ≤ ·)) (hn : n < 1000000000) (w : Sl F h 3 1 a n cp (ints .i64 zs))
    (hq : ∀ h' r, Sl F h' 3 1 a r.length cp (ints .i64 r) → r = ss zs → Step F h F h' → Q (.slice a r.length cp) h') : C Try.prog 20 #[.slice a n cp] h Q := by
  have hl : zs.length = n := by have := w.len; rw [ints_length] at this; omega
  apply slices_Compact_int_int.ok
  refine xsIf_intro (fun h2 => ?_) (fun h2 => ?_)
  · have h2 : (n : Int) < 2 := of_decide_eq_true h2
    have hss : SS zs := by
      match zs, hl with
      | [], _ => exact List.Pairwise.nil
      | [x], _ => exact List.pairwise_singleton _ _
      | x :: y :: r, hl => simp at hl; omega
    have := hq h zs (by rw [hl]; exact w) (ss_of_SS hss).symm (Step.refl _ _)
    rwa [hl] at this
  · have h2 : ¬ (n : Int) < 2 := by simpa using h2
    rcases w.place with ⟨rfl, rfl, rfl⟩ | ⟨b, cs, rfl, hF, hb, _, _⟩
    · omega
    · refine slices_Compact_int_int.L4.c hs hl hn w hq (n - 1) 1 (by omega) (by omega) ?_
      match zs, hl with
      | [], hl => simp at hl; omega
      | x :: r, _ => simp [SS]
end
end Go.Gb
namespace Go.Gb
open Go.Proofs IntWalk

/-! ## lock: the state -/

/-- Who has which locks (in the order in which they were taken), and who wants which. -/
structure LkS where
  n : Nat
  ow : List (Int × Int)
  wa : Nat → List Int

/-- The owners' map. -/
structure OwM (ow : List (Int × Int)) (l : List (Int × Value × Nat)) (c : Nat) : Prop where
  mi : MI l c
  eq : l.map (fun e => (e.1, e.2.1)) = ow.map fun p => (p.1, Value.int .i64 p.2)

/-- Numbers in an owner's block. -/
def RdF (F : Nat → Prop) (h : Heap) (a : Option Addr) (l : List Int) : Prop := l = [] ∨ ∃ b o, a = some ⟨b, o, none⟩ ∧ F b ∧ ∀ (j : Nat) (x : Int), l[j]? = some x → h.cell b (o + j) = some (.int .i64 x)

structure LkC (F : Nat → Prop) (h : Heap) (L r wb : Nat) (l : List (Int × Value × Nat)) (c : Nat) (vs : List Value) (s : LkS) : Prop where
  n1 : 1 ≤ s.n
  n8 : s.n ≤ 8
  fL : F L
  fr : F r
  fw : F wb
  ne : L ≠ r ∧ L ≠ wb ∧ r ≠ wb
  hL : Blk h L [.map (some r), .slice (some ⟨wb, 0, none⟩) s.n s.n]
  hr : h r = some (mapO (Value.int .i64) l c)
  hw : Blk h wb vs
  vl : vs.length = s.n
  vg : ∀ i, i < s.n → ∃ a cp, vs[i]? = some (.slice a (s.wa i).length cp) ∧ RdF F h a (s.wa i) ∧ (s.wa i).length ≤ cp
  ss : ∀ i, i < s.n → SS (s.wa i)
  sm : ∀ i, i < s.n → (s.wa i).length < 1000000
  om : OwM s.ow l c
  os : s.ow.length < 1000000

def LkD (F : Nat → Prop) (h : Heap) (L : Nat) (s : LkS) : Prop := ∃ r wb l c vs, LkC F h L r wb l c vs s

theorem RdF.keep {F F' : Nat → Prop} {h h' : Heap} {a : Option Addr} {l : List Int} (w : RdF F h a l) (hF : ∀ k, F k → F' k) (e : ∀ k, F k → h k ≠ none → h' k = h k) : RdF F' h' a l := by
  rcases w with rfl | ⟨b, o, rfl, hb, hc⟩
  · exact .inl rfl
  · cases l with
    | nil => exact .inl rfl
    | cons x l =>
      have h0 := hc 0 x rfl
      have hne : h b ≠ none := by intro hn; unfold Heap.cell at h0; rw [hn] at h0; cases h0
      refine .inr ⟨b, o, rfl, hF b hb, fun j y hj => ?_⟩
      have := hc j y hj
      unfold Heap.cell at this ⊢
      rw [e b hb hne]; exact this
/-- The numbers' block is none that holds no number. -/
theorem RdF.put {F : Nat → Prop} {h h' : Heap} {a : Option Addr} {l : List Int} (w : RdF F h a l) {b : Nat} (hb : ∀ o x, h.cell b o ≠ some (.int .i64 x)) (e : ∀ k, k ≠ b → h' k = h k) : RdF F h' a l := by
  rcases w with rfl | ⟨b', o, rfl, hb', hc⟩
  · exact .inl rfl
  · cases l with
    | nil => exact .inl rfl
    | cons x l =>
      have hne : b' ≠ b := fun e => hb _ x (by rw [← e]; exact hc 0 x rfl)
      refine .inr ⟨b', o, rfl, hb', fun j y hj => ?_⟩
      have := hc j y hj
      unfold Heap.cell at this ⊢
      rw [e b' hne]; exact this
theorem RdF.reads {F : Nat → Prop} {h : Heap} {a : Option Addr} {l : List Int} (w : RdF F h a l) : readsAt h a (ints .i64 l) := by
  rcases w with rfl | ⟨b, o, rfl, _, hc⟩
  · exact .inl rfl
  · refine .inr ⟨b, o, rfl, fun j hj => ?_⟩
    rw [ints_length] at hj
    have := hc j l[j] (by simp [hj])
    rw [this, ints_get]; simp [hj]

theorem LkC.keep {F : Nat → Prop} {h h' : Heap} {L r wb c : Nat} {l : List (Int × Value × Nat)} {vs : List Value} {s : LkS} (w : LkC F h L r wb l c vs s) (e : ∀ k, F k → h k ≠ none → h' k = h k) : LkC F h' L r wb l c vs s :=
  ⟨w.n1, w.n8, w.fL, w.fr, w.fw, w.ne, w.hL.keep (e _ w.fL w.hL.ne), by rw [e _ w.fr (by rw [w.hr]; simp), w.hr], w.hw.keep (e _ w.fw w.hw.ne), w.vl,
    fun i hi => let ⟨a, cp, h1, h2, h3⟩ := w.vg i hi; ⟨a, cp, h1, h2.keep (fun _ h => h) e, h3⟩, w.ss, w.sm, w.om, w.os⟩
theorem LkD.keep {F : Nat → Prop} {h h' : Heap} {L : Nat} {s : LkS} (w : LkD F h L s) (e : ∀ k, F k → h k ≠ none → h' k = h k) : LkD F h' L s := by
  obtain ⟨r, wb, l, c, vs, w⟩ := w
  exact ⟨r, wb, l, c, vs, w.keep e⟩

/-! ### pure -/
def LkS.ok (s : LkS) (c : Int) : Prop := 0 ≤ c ∧ c < s.n
instance (s : LkS) (c : Int) : Decidable (s.ok c) := by unfold LkS.ok; infer_instance
def hasL (s : LkS) (c : Int) : List Int := if s.ok c then ss ((s.ow.filter fun p => p.2 == c).map (·.1)) else []
def ownL (ow : List (Int × Int)) (x : Int) : Option Int := (ow.find? fun p => p.1 == x).map (·.2)
def waitL (s : LkS) (c : Int) : Int := if s.ok c then (match s.wa c.toNat with | [] => -1 | x :: _ => (ownL s.ow x).getD (-1)) else -1

section
variable {F : Nat → Prop} {h : Heap} {L : Nat} {s : LkS} {Q : Value → Heap → Prop}

theorem lock_Locks_client.c {c : Int} (w : LkD F h L s) (hq : Q (.int .i64 (if s.ok c then 0 else 2)) h) : C Try.prog 19 #[.pointer (some ⟨L, 0, none⟩), .int .i64 c] h Q := by
  obtain ⟨r, wb, l, mc, vs, w⟩ := w
  apply lock_Locks_client.ok
  refine xsIf_f rfl (xsIf_intro (fun h1 => ?_) (fun h1 => ⟨L, 0, rfl, _, _, _, w.hL.cell _, xsIf_intro (fun h2 => ?_) (fun h2 => ?_)⟩))
  · simp at h1; rw [if_neg (show ¬ s.ok c from fun h => by have := h.1; omega)] at hq; exact hq
  · simp at h1 h2; rw [if_neg (show ¬ s.ok c from fun h => by have := h.2; omega)] at hq; exact hq
  · simp at h1 h2; rw [if_pos (show s.ok c from ⟨by omega, by omega⟩)] at hq; exact hq

def vInt : Value → Int
  | .int _ n => n
  | _ => 0

theorem OwM.val {ow : List (Int × Int)} {l : List (Int × Value × Nat)} {c : Nat} (w : OwM ow l c) {e : Int × Value × Nat} (he : e ∈ l) : e.2.1 = .int .i64 (vInt e.2.1) ∧ (e.1, vInt e.2.1) ∈ ow := by
  have h1 : (e.1, e.2.1) ∈ l.map (fun e => (e.1, e.2.1)) := List.mem_map.2 ⟨e, he, rfl⟩
  rw [w.eq] at h1
  obtain ⟨p, hp, h2⟩ := List.mem_map.1 h1
  injection h2 with h3 h4
  rw [← h4]
  refine ⟨rfl, ?_⟩
  rw [← h3]; exact hp
theorem OwM.ent {ow : List (Int × Int)} {l : List (Int × Value × Nat)} {c : Nat} (w : OwM ow l c) {p : Int × Int} (hp : p ∈ ow) : ∃ b, (p.1, Value.int .i64 p.2, b) ∈ l := by
  have h1 : (p.1, Value.int .i64 p.2) ∈ ow.map fun p => (p.1, Value.int .i64 p.2) := List.mem_map.2 ⟨p, hp, rfl⟩
  rw [← w.eq] at h1
  obtain ⟨e, he, h2⟩ := List.mem_map.1 h1
  injection h2 with h3 h4
  exact ⟨e.2.2, by rw [← h3, ← h4]; exact he⟩
theorem OwM.len {ow : List (Int × Int)} {l : List (Int × Value × Nat)} {c : Nat} (w : OwM ow l c) : l.length = ow.length := by
  have := congrArg List.length w.eq
  simpa using this
theorem OwM.kn {ow : List (Int × Int)} {l : List (Int × Value × Nat)} {c : Nat} (w : OwM ow l c) : (ow.map (·.1)).Nodup := by
  have h1 : l.map (·.1) = ow.map (·.1) := by
    have := congrArg (List.map Prod.fst) w.eq
    simpa [List.map_map, Function.comp_def] using this
  rw [← h1]; exact w.mi.kn
theorem ownL_of {ow : List (Int × Int)} (hn : (ow.map (·.1)).Nodup) {x c : Int} (h : (x, c) ∈ ow) : ownL ow x = some c := by
  unfold ownL
  cases hf : ow.find? fun p => p.1 == x with
  | none =>
    have := List.find?_eq_none.1 hf _ h
    simp at this
  | some p =>
    have h1 := List.mem_of_find?_eq_some hf
    have h2 : p.1 = x := by simpa using List.find?_some hf
    have := nodup_mem hn h1 h h2
    rw [this]; rfl
theorem ownL_none {ow : List (Int × Int)} {x : Int} (h : ∀ c, (x, c) ∉ ow) : ownL ow x = none := by
  unfold ownL
  cases hf : ow.find? fun p => p.1 == x with
  | none => rfl
  | some p =>
    have h1 := List.mem_of_find?_eq_some hf
    have h2 : p.1 = x := by simpa using List.find?_some hf
    exact absurd (by rw [← h2]; exact h1) (h p.2)
theorem ownL_some {ow : List (Int × Int)} {x c : Int} (h : ownL ow x = some c) : (x, c) ∈ ow := by
  unfold ownL at h
  cases hf : ow.find? fun p => p.1 == x with
  | none => rw [hf] at h; cases h
  | some p =>
    rw [hf] at h
    cases h
    have h1 := List.mem_of_find?_eq_some hf
    have h2 : p.1 = x := by simpa using List.find?_some hf
    rw [← h2]; exact h1

theorem lock_Locks_Has.L5.c {client : Int} {t17 r c : Nat} {l : List (Int × Value × Nat)} {ow : List (Int × Int)} {h0 : Heap} (om : OwM ow l c) (hn : l.length < 1000000) (ht : h0 t17 = none) (hm : h0 r = some (mapO (Value.int .i64) l c))
    (hq : ∀ a n cp h', Sl (fun k => h0 k = none) h' 3 1 a n cp (ints .i64 (ss ((ow.filter fun p => p.2 == client).map (·.1)))) → n = (ss ((ow.filter fun p => p.2 == client).map (·.1))).length → Part h0 h' → Q (.slice a n cp) h') :
    ∀ (m : Nat) (seen : List Nat) (h : Heap) (acc : List Int) (a : Option Addr) (cp : Nat), leftK l seen ≤ m → h t17 = some (iterO r c seen c) → Part h0 h → Sl (fun k => h0 k = none ∧ k ≠ t17) h 3 1 a acc.length cp (ints .i64 acc) →
      acc.length + leftK l seen ≤ l.length → acc.Nodup → (∀ x, x ∈ acc ↔ ∃ e ∈ l, e.1 = x ∧ vInt e.2.1 = client ∧ e.2.2 ∈ seen) → lock_Locks_Has.L5 client a acc.length cp t17 h Q := by
  have htr : t17 ≠ r := fun e => by rw [e, hm] at ht; cases ht
  have fin : ∀ (seen : List Nat) (h : Heap) (acc : List Int) (a : Option Addr) (cp : Nat), Part h0 h → Sl (fun k => h0 k = none ∧ k ≠ t17) h 3 1 a acc.length cp (ints .i64 acc) → acc.length < 1000000 → acc.Nodup → (∀ x, x ∈ acc ↔ ∃ e ∈ l, e.1 = x ∧ vInt e.2.1 = client ∧ e.2.2 ∈ seen) →
      (∀ (j : Nat) (n : Int) (v : Value) (b' : Nat), mnth l j = some (n, v, b') → List.elem b' seen = true) → C Try.prog 29 #[.slice a acc.length cp] h fun (r : Value) (h' : Heap) => Q (.slice a acc.length cp) h' := by
    intro seen h acc a cp hp hS hsm hnd hmem hall
    refine sort_sl hS (by omega) fun h' hS' st => ?_
    have hss : sortI acc = ss ((ow.filter fun p => p.2 == client).map (·.1)) := by
      refine (ss_eq ?_ fun x => ?_).symm
      · have h1 := sortI_sorted acc
        have h2 : (sortI acc).Nodup := (List.mergeSort_perm acc _).nodup_iff.2 hnd
        exact List.Pairwise.imp₂ (fun a b h1 h2 => by omega) h1 (List.nodup_iff_pairwise_ne.1 h2)
      · rw [mem_sortI, hmem]
        constructor
        · intro hx
          obtain ⟨p, hp, rfl⟩ := List.mem_map.1 hx
          obtain ⟨hp1, hp2⟩ := List.mem_filter.1 hp
          obtain ⟨b, hb⟩ := om.ent hp1
          obtain ⟨j, hj⟩ := List.getElem?_of_mem hb
          exact ⟨_, hb, rfl, by simpa [vInt] using hp2, List.elem_iff.1 (hall j _ _ _ hj)⟩
        · rintro ⟨e, he, rfl, h2, _⟩
          exact List.mem_map.2 ⟨(e.1, vInt e.2.1), List.mem_filter.2 ⟨(om.val he).2, by simpa using h2⟩, rfl⟩
    have hl : acc.length = (sortI acc).length := (List.length_mergeSort acc).symm
    rw [hss] at hS' hl
    exact hq a _ cp h' (hS'.keep (fun k hk => hk.1) fun _ _ _ => rfl) hl (st.part hp fun k hk e => hk e.1)
  intro m
  induction m with
  | zero =>
    intro seen h acc a cp hle hit hp hS hsz hnd hmem
    apply lock_Locks_Has.L5.ok
    refine ⟨t17, 0, rfl, rfl, r, c, c, seen, hit, l, c, hp _ _ hm, fun j n v b hj => om.mi.born _ (List.mem_of_getElem? hj), Nat.le_refl _, fun j n v b hj hs => ?_, fun hall => fin seen h acc a cp hp hS (by omega) hnd hmem hall⟩
    have := leftK_step (e := (n, v, b)) (List.mem_of_getElem? hj) hs
    omega
  | succ m ih =>
    intro seen h acc a cp hle hit hp hS hsz hnd hmem
    apply lock_Locks_Has.L5.ok
    refine ⟨t17, 0, rfl, rfl, r, c, c, seen, hit, l, c, hp _ _ hm, fun j n v b hj => om.mi.born _ (List.mem_of_getElem? hj), Nat.le_refl _, fun j k v b hj hs => ?_, fun hall => fin seen h acc a cp hp hS (by omega) hnd hmem hall⟩
    have he : (k, v, b) ∈ l := List.mem_of_getElem? hj
    have hv := (om.val he).1
    have hlt := leftK_step (e := (k, v, b)) he hs
    have hlt : leftK l (snoc seen b) < leftK l seen := hlt
    have hns : b ∉ seen := fun hc => by rw [List.elem_iff.2 hc] at hs; cases hs
    have hm1 : upd h t17 (iterO r c (snoc seen b) c) r = some (mapO (Value.int .i64) l c) := by rw [upd_other _ _ htr.symm]; exact hp _ _ hm
    have hp1 : Part h0 (upd h t17 (iterO r c (snoc seen b) c)) := hp.upd' ht _
    have hS1 : Sl (fun k => h0 k = none ∧ k ≠ t17) (upd h t17 (iterO r c (snoc seen b) c)) 3 1 a acc.length cp (ints .i64 acc) := hS.keep (fun _ h => h) fun k hk _ => upd_other _ _ hk.2
    refine ⟨vInt v, hv, t17, 0, rfl, rfl, r, c, c, seen, l, j, k, v, b, by rw [upd_same], hm1, hj, fun i n2 v2 hi => om.mi.bkey hi hj, vInt v, hv, xsIf_intro (fun h1 => ?_) (fun h1 => ?_)⟩
    · have h1 : vInt v = client := of_decide_eq_true h1
      intro b2 hb2
      refine hS1.snoc (new := [.int .i64 k]) hb2 (by kernel_rfl) (by decide) rfl rfl (by kernel_rfl) (by show (2 * (acc.length + 1) + 192) * 8 ≤ 2 ^ 48; omega) fun a' c' F' h' hS2 st hF => ?_
      have hkk : ints .i64 acc ++ [Value.int .i64 k] = ints .i64 (acc ++ [k]) := by simp [ints]
      rw [hkk] at hS2
      have hxk : k ∉ acc := fun hx => by
        obtain ⟨e, he', h2, _, h4⟩ := (hmem k).1 hx
        have := nodup_mem om.mi.kn he' he h2
        subst this
        exact hns h4
      have hl1 : acc.length + 1 = (acc ++ [k]).length := by simp
      rw [hl1] at hS2 ⊢
      refine ih (snoc seen b) h' (acc ++ [k]) a' c' (by omega) ?_ (st.part hp1 fun q hq e => hq e.1) ?_ ?_ ?_ ?_
      · rw [st.keep t17 (fun e => e.2 rfl) (by rw [upd_same]; simp), upd_same]
      · refine hS2.keep (fun q hq => ?_) fun _ _ _ => rfl
        rcases st.sub q hq with h3 | h3
        · exact h3
        · refine ⟨hp1.none h3, fun e => ?_⟩
          rw [e, upd_same] at h3; cases h3
      · rw [← hl1]; omega
      · rw [List.nodup_append]
        exact ⟨hnd, by simp, fun x hx y hy => by rw [List.mem_singleton.1 hy]; exact fun e => hxk (e ▸ hx)⟩
      · intro x
        rw [List.mem_append, hmem, List.mem_singleton]
        constructor
        · rintro (⟨e, he', h2, h3, h4⟩ | rfl)
          · exact ⟨e, he', h2, h3, mem_snoc.2 (.inl h4)⟩
          · exact ⟨_, he, rfl, h1, mem_snoc.2 (.inr rfl)⟩
        · rintro ⟨e, he', h2, h3, h4⟩
          rcases mem_snoc.1 h4 with h5 | h5
          · exact .inl ⟨e, he', h2, h3, h5⟩
          · have := nodup_mem om.mi.bn he' he h5
            subst this
            exact .inr h2.symm
    · have h1 : vInt v ≠ client := by simpa using h1
      refine ih (snoc seen b) _ acc a cp (by omega) (by rw [upd_same]) hp1 hS1 (by omega) hnd fun x => ?_
      rw [hmem]
      constructor
      · rintro ⟨e, he', h2, h3, h4⟩
        exact ⟨e, he', h2, h3, mem_snoc.2 (.inl h4)⟩
      · rintro ⟨e, he', h2, h3, h4⟩
        rcases mem_snoc.1 h4 with h5 | h5
        · exact ⟨e, he', h2, h3, h5⟩
        · have := nodup_mem om.mi.bn he' he h5
          subst this
          exact absurd h3 h1

theorem lock_Locks_Has.c {client : Int} (w : LkD F h L s) (hq : ∀ a n cp h', Sl (fun k => h k = none) h' 3 1 a n cp (ints .i64 (hasL s client)) → n = (hasL s client).length → Part h h' → Q (.slice a n cp) h') :
    C Try.prog 15 #[.pointer (some ⟨L, 0, none⟩), .int .i64 client] h Q := by
  refine lock_Locks_Has.ok (lock_Locks_client.c w ⟨_, rfl, ?_⟩)
  by_cases hc : s.ok client
  · rw [if_pos hc]
    refine xsIf_f rfl ?_
    obtain ⟨r, wb, l, c, vs, w⟩ := w
    refine ⟨L, 0, rfl, _, w.hL.cell _, r, rfl, l, c, w.hr, fun b hb => ?_⟩
    have e : hasL s client = ss ((s.ow.filter fun p => p.2 == client).map (·.1)) := by unfold hasL; rw [if_pos hc]
    rw [e] at hq
    have := w.om.len
    have hos := w.os
    refine lock_Locks_Has.L5.c (acc := []) w.om (by omega) hb w.hr hq (leftK l []) [] _ none 0 (Nat.le_refl _) (by rw [upd_same]) (Part.upd hb _) (Sl.nil _ _ _ _) (by have := leftK_le l []; simpa using this) List.nodup_nil (fun x => ?_)
    simp
  · rw [if_neg hc]
    have e : hasL s client = [] := by unfold hasL; rw [if_neg hc]
    rw [e] at hq
    exact xsIf_t rfl (hq none 0 0 h (Sl.nil _ _ _ _) rfl (Part.refl _))

theorem RdF.cellAt {a : Option Addr} {x : Int} {l : List Int} {K : Nat → Nat → Prop} (w : RdF F h a (x :: l)) (hk : ∀ b o, a = some ⟨b, o, none⟩ → F b → h.cell b (o + 0) = some (.int .i64 x) → K b o) : atBase a K := by
  rcases w with e | ⟨b, o, rfl, hb, hc⟩
  · cases e
  · exact ⟨b, o, rfl, hk b o rfl hb (hc 0 x rfl)⟩

theorem lock_Locks_Waits.c {client : Int} (w : LkD F h L s) (hq : Q (.int .i64 (waitL s client)) h) : C Try.prog 17 #[.pointer (some ⟨L, 0, none⟩), .int .i64 client] h Q := by
  refine lock_Locks_Waits.ok (lock_Locks_client.c w ⟨_, rfl, ?_⟩)
  by_cases hc : s.ok client
  · rw [if_pos hc]
    refine xsIf_f rfl ?_
    obtain ⟨r, wb, l, c, vs, w⟩ := w
    have hcn : client.toNat < s.n := by unfold LkS.ok at hc; omega
    have hc1 : 0 ≤ client := hc.1
    have hc2 : client < (s.n : Int) := hc.2
    obtain ⟨a, cp, hv, hrd, hcp⟩ := w.vg client.toNat hcn
    have hcell : h.cell wb (0 + client.toNat * 1) = some (.slice a (s.wa client.toNat).length cp) := by
      rw [show 0 + client.toNat * 1 = client.toNat by omega, w.hw.cell]; exact hv
    have e : waitL s client = (match s.wa client.toNat with | [] => -1 | x :: _ => (ownL s.ow x).getD (-1)) := by unfold waitL; rw [if_pos hc]
    refine ⟨L, 0, rfl, _, _, _, w.hL.cell _, ⟨hc1, hc2⟩, wb, 0, rfl, _, _, _, hcell, ?_⟩
    cases hwa : s.wa client.toNat with
    | nil =>
      rw [hwa] at e
      rw [e] at hq
      exact xsIf_t rfl hq
    | cons x rest =>
      rw [hwa] at e hrd hcell
      rw [e] at hq
      refine xsIf_f (by simp; omega) (lock_Locks_Waits.J3.ok ⟨L, 0, rfl, L, 0, rfl, _, w.hL.cell _, _, _, _, w.hL.cell _, ⟨hc1, hc2⟩, wb, 0, rfl, _, _, _, hcell, ⟨by decide, by simp⟩, hrd.cellAt fun b o _ _ hx => ⟨x, hx, r, rfl, l, c, w.hr, fun j v b hj => ?_, fun hno => ?_⟩⟩)
      · have hq : Q (.int .i64 ((ownL s.ow x).getD (-1))) h := hq
        have he : (x, v, b) ∈ l := List.mem_of_getElem? hj
        refine ⟨vInt v, (w.om.val he).1, ?_⟩
        rw [ownL_of w.om.kn (show (x, vInt v) ∈ s.ow from (w.om.val he).2)] at hq
        exact hq
      · have hq : Q (.int .i64 ((ownL s.ow x).getD (-1))) h := hq
        rw [ownL_none fun c hc => ?_] at hq
        · exact hq
        · obtain ⟨b, hb⟩ := w.om.ent hc
          obtain ⟨j, hj⟩ := List.getElem?_of_mem hb
          exact hno j _ _ hj
  · rw [if_neg hc]
    have e : waitL s client = -1 := by unfold waitL; rw [if_neg hc]
    rw [e] at hq
    exact xsIf_t rfl hq

end
end Go.Gb
namespace Go.Gb
open Go.Proofs IntWalk

/-! ## lock: New, Drop, Step, Ask -/

def wset (f : Nat → List Int) (i : Nat) (v : List Int) : Nat → List Int := fun j => if j = i then v else f j

def dropL (s : LkS) (c : Int) : Int × LkS := if s.ok c then (0, ⟨s.n, s.ow.filter fun p => !(p.2 == c), wset s.wa c.toNat []⟩) else (2, s)
def stepL (s : LkS) (c : Int) : Bool × Int × LkS :=
  if s.ok c then match s.wa c.toNat with
    | [] => (true, 0, s)
    | x :: r => match ownL s.ow x with
      | some _ => (false, 0, s)
      | none => (r.isEmpty, 0, ⟨s.n, s.ow ++ [(x, c)], wset s.wa c.toNat r⟩)
  else (false, 2, s)
def tooLow (has more : List Int) : Bool := match has.getLast?, more.head? with
  | some y, some x => decide (x ≤ y)
  | _, _ => false
def askL (s : LkS) (c : Int) (locks : List Int) : Int × LkS :=
  if s.ok c then (if s.wa c.toNat ≠ [] then (8, s) else if tooLow (hasL s c) (ss locks) then (8, s) else (0, ⟨s.n, s.ow, wset s.wa c.toNat (ss locks)⟩)) else (2, s)

section
variable {F : Nat → Prop} {h : Heap} {L : Nat} {s : LkS} {Q : Value → Heap → Prop}

theorem lock_New.c {n : Int} (h1 : 1 ≤ n) (h8 : n ≤ 8) (hq : ∀ h' F L, LkD F h' L ⟨n.toNat, [], fun _ => []⟩ → Step (fun _ => False) h F h' → Live F h' → Q (.tuple #[.pointer (some ⟨L, 0, none⟩), .int .i64 0]) h') : C Try.prog 6 #[.int .i64 n] h Q := by
  refine lock_New.ok (xsIf_f (by simp; omega) (xsIf_f (by simp; omega) fun r hr => ?_))
  refine Own.make (h0 := upd h r (.map #[] 0)) (z := .slice none 0 0) (Part.refl _) (by kernel_rfl) (by omega) (by rw [show cellBytes Try.prog 32 = 24 by kernel_rfl]; omega) (by omega) fun a h2 hO L hL => ?_
  rcases hO.place with ⟨_, h0, _⟩ | ⟨wb, cs, rfl, hwb, hb, hsz, _, htk⟩
  · omega
  · have hrw : r ≠ wb := fun e => by rw [← e, upd_same] at hwb; cases hwb
    have hr2 : h2 r = some (.map #[] 0) := hO.part r _ (upd_same _ _ _)
    have hLr : L ≠ r := fun e => by rw [e, hr2] at hL; cases hL
    have hLw : L ≠ wb := fun e => by rw [e, hb] at hL; cases hL
    have hw0 : h wb = none := by rw [upd_other _ _ (Ne.symm hrw)] at hwb; exact hwb
    have hL0 : h L = none := by
      have := hO.part.none hL
      rw [upd_other _ _ hLr] at this; exact this
    have hcs : cs = (List.replicate n.toNat (Value.slice none 0 0)).toArray := by
      apply Array.ext'
      have e : cs.toList.length ≤ n.toNat * 1 := by simp [hsz]
      rw [List.take_of_length_le e] at htk
      simpa using htk
    have hk : ∀ k, k ≠ L → upd h2 L (.cells #[.map (some r), .slice (some ⟨wb, 0, none⟩) n.toNat n.toNat] 55 (0, 0)) k = h2 k := fun k e => upd_other _ _ e
    refine hq _ (fun k => k = L ∨ k = r ∨ k = wb) L ⟨r, wb, [], 0, List.replicate n.toNat (.slice none 0 0), ?_⟩ ?_ ?_
    · refine ⟨by show 1 ≤ n.toNat; omega, by show n.toNat ≤ 8; omega, .inl rfl, .inr (.inl rfl), .inr (.inr rfl), ⟨hLr, hLw, hrw⟩, Blk.new _ _ _ _, ?_, ?_, by simp, fun i hi => ?_, fun i _ => List.Pairwise.nil, fun i _ => by simp, ⟨MI.nil 0, rfl⟩, by simp⟩
      · rw [hk _ (Ne.symm hLr), hr2]; rfl
      · refine ⟨32, ?_⟩
        rw [hk _ (Ne.symm hLw), hb, hcs]
      · exact ⟨none, 0, by simp [show i < n.toNat from hi], .inl rfl, Nat.le_refl _⟩
    · refine ⟨fun k _ hk' => ?_, fun k hk' => ?_, fun k hk' => ?_, fun _ k hk' => ?_⟩
      · have e1 : k ≠ L := fun e => hk' (e ▸ hL0)
        have e2 : k ≠ r := fun e => hk' (e ▸ hr)
        rw [hk _ e1]
        have := part_live hO.part (k := k) (by rw [upd_other _ _ e2]; exact hk')
        rw [this, upd_other _ _ e2]
      · rcases hk' with rfl | rfl | rfl
        · exact .inr hL0
        · exact .inr hr
        · exact .inr hw0
      · have e1 : k ≠ L := fun e => hk' (e ▸ hL0)
        have e2 : k ≠ r := fun e => hk' (e ▸ hr)
        rw [hk _ e1]
        have := part_live hO.part (k := k) (by rw [upd_other _ _ e2]; exact hk')
        rw [this, upd_other _ _ e2]; exact hk'
      · rcases hk' with rfl | rfl | rfl
        · rw [upd_same]; simp
        · rw [hk _ (Ne.symm hLr), hr2]; simp
        · rw [hk _ (Ne.symm hLw), hb]; simp
    · rintro k (rfl | rfl | rfl)
      · rw [upd_same]; simp
      · rw [hk _ (Ne.symm hLr), hr2]; simp
      · rw [hk _ (Ne.symm hLw), hb]; simp

theorem OwM.filter {ow : List (Int × Int)} {l : List (Int × Value × Nat)} {c : Nat} (w : OwM ow l c) (p : Int → Bool) : OwM (ow.filter fun x => p x.2) (l.filter fun e => p (vInt e.2.1)) c := by
  refine ⟨w.mi.sub List.filter_sublist, ?_⟩
  have h1 : (l.filter fun e => p (vInt e.2.1)).map (fun e => (e.1, e.2.1)) = (l.map fun e => (e.1, e.2.1)).filter fun x => p (vInt x.2) := by
    rw [List.filter_map]; rfl
  rw [h1, w.eq, List.filter_map]
  rfl

theorem delete_L1.c {client : Int} {t7 r c b : Nat} {l0 : List (Int × Value × Nat)} {ow : List (Int × Int)} {hb : Heap} (om : OwM ow l0 c) (hB : hb b = some (.cells #[.int .i64 client] 3 (0, 0))) (hbr : b ≠ r) (hbt : b ≠ t7) (htr : t7 ≠ r)
    (hq : ∀ h', h' r = some (mapO (Value.int .i64) (l0.filter fun e => !(vInt e.2.1 == client)) c) → (∀ k, k ≠ r → k ≠ t7 → h' k = hb k) → h' t7 ≠ none → Q (.tuple #[]) h') :
    ∀ (m : Nat) (seen : List Nat) (h : Heap), leftK l0 seen ≤ m → h t7 = some (iterO r c seen c) → h r = some (mapO (Value.int .i64) (l0.filter fun e => !(seen.elem e.2.2 && (vInt e.2.1 == client))) c) → (∀ k, k ≠ r → k ≠ t7 → h k = hb k) →
      maps_DeleteFunc_map_int_int_int_int.L1 (some r) 26 #[] #[.pointer (some ⟨b, 0, none⟩)] t7 h Q := by
  intro m
  induction m with
  | zero =>
    intro seen h hle hit hm hk
    apply maps_DeleteFunc_map_int_int_int_int.L1.ok
    refine ⟨t7, 0, rfl, rfl, r, c, c, seen, hit, _, c, hm, fun j n v b hj => om.mi.born _ (List.mem_filter.1 (List.mem_of_getElem? hj)).1, Nat.le_refl _, fun j n v b hj hs => ?_, fun hall => ?_⟩
    · have := leftK_step (e := (n, v, b)) (List.mem_filter.1 (List.mem_of_getElem? hj)).1 hs
      omega
    · refine hq h ?_ hk (by rw [hit]; simp)
      rw [hm]
      congr 1
      congr 1
      refine List.filter_congr fun e he => ?_
      cases hp : (vInt e.2.1 == client) with
      | false => simp
      | true =>
        cases hse : seen.elem e.2.2 with
        | true => simp
        | false =>
          have hmem : e ∈ l0.filter fun e => !(seen.elem e.2.2 && (vInt e.2.1 == client)) := List.mem_filter.2 ⟨he, by rw [hse]; rfl⟩
          obtain ⟨j, hj⟩ := List.getElem?_of_mem hmem
          have := hall j e.1 e.2.1 e.2.2 hj
          rw [hse] at this; cases this
  | succ m ih =>
    intro seen h hle hit hm hk
    apply maps_DeleteFunc_map_int_int_int_int.L1.ok
    refine ⟨t7, 0, rfl, rfl, r, c, c, seen, hit, _, c, hm, fun j n v b hj => om.mi.born _ (List.mem_filter.1 (List.mem_of_getElem? hj)).1, Nat.le_refl _, fun j n v b' hj hs => ?_, fun hall => ?_⟩
    · have he0 : (n, v, b') ∈ l0.filter fun e => !(seen.elem e.2.2 && (vInt e.2.1 == client)) := List.mem_of_getElem? hj
      have he := (List.mem_filter.1 he0).1
      have hv := (om.val he).1
      have hlt : leftK l0 (snoc seen b') < leftK l0 seen := leftK_step (e := (n, v, b')) he hs
      have hm1 : upd h t7 (iterO r c (snoc seen b') c) r = some (mapO (Value.int .i64) (l0.filter fun e => !(seen.elem e.2.2 && (vInt e.2.1 == client))) c) := by rw [upd_other _ _ htr.symm]; exact hm
      have hcl : (upd h t7 (iterO r c (snoc seen b') c)).cell b 0 = some (.int .i64 client) := by
        unfold Heap.cell; rw [upd_other _ _ hbt, hk b hbr hbt, hB]; rfl
      have hse : ∀ e ∈ l0, (snoc seen b').elem e.2.2 = (seen.elem e.2.2 || (e.2.2 == b')) := by
        intro e he'
        rw [Bool.eq_iff_iff]
        simp only [List.elem_eq_contains, List.contains_iff_mem, Bool.or_eq_true, beq_iff_eq]
        exact mem_snoc
      refine ⟨vInt v, hv, t7, 0, rfl, rfl, r, c, c, seen, _, j, n, v, b', by rw [upd_same], hm1, hj, fun i n2 v2 hi => (om.mi.sub List.filter_sublist).bkey hi hj, vInt v, hv, xsIf_t (by kernel_rfl) ?_⟩
      refine lock_Locks_Drop_1.ok ⟨client, hcl, decide (vInt v = client), rfl, xsIf_intro (fun h1 => ?_) (fun h1 => ?_)⟩
      · have h1 : vInt v = client := of_decide_eq_true h1
        refine ⟨r, rfl, _, c, hm1, fun j2 v2 b2 hj2 => ?_, fun hno => absurd hj (hno j v b')⟩
        have e2 : j2 = j := (om.mi.sub List.filter_sublist).key hj2 hj
        subst e2
        refine ih (snoc seen b') _ (by omega) (by rw [upd_other _ _ htr, upd_same]) ?_ fun k h2 h3 => by rw [upd_other _ _ h2, upd_other _ _ h3]; exact hk k h2 h3
        rw [upd_same]
        congr 1
        congr 1
        show List.eraseIdx _ _ = _
        rw [erase_filter ((om.mi.sub List.filter_sublist).bn) hj, List.filter_filter]
        refine List.filter_congr fun e he' => ?_
        rw [hse e he']
        by_cases e3 : e.2.2 = b'
        · have e4 : e = (n, v, b') := nodup_mem om.mi.bn he' he e3
          subst e4; simp [h1]
        · have e5 : (e.2.2 == b') = false := by simpa using e3
          rw [e5]; simp
      · have h1 : vInt v ≠ client := by simpa using h1
        refine ih (snoc seen b') _ (by omega) (by rw [upd_same]) ?_ fun k h2 h3 => by rw [upd_other _ _ h3]; exact hk k h2 h3
        rw [hm1]
        congr 1
        congr 1
        refine List.filter_congr fun e he' => ?_
        rw [hse e he']
        by_cases e3 : e.2.2 = b'
        · have e4 : e = (n, v, b') := nodup_mem om.mi.bn he' he e3
          subst e4; simp [h1]
        · have e5 : (e.2.2 == b') = false := by simpa using e3
          rw [e5]; simp
    · refine hq h ?_ hk (by rw [hit]; simp)
      rw [hm]
      congr 1
      congr 1
      refine List.filter_congr fun e he => ?_
      cases hp : (vInt e.2.1 == client) with
      | false => simp
      | true =>
        cases hse : seen.elem e.2.2 with
        | true => simp
        | false =>
          have hmem : e ∈ l0.filter fun e => !(seen.elem e.2.2 && (vInt e.2.1 == client)) := List.mem_filter.2 ⟨he, by rw [hse]; rfl⟩
          obtain ⟨j, hj⟩ := List.getElem?_of_mem hmem
          have := hall j e.1 e.2.1 e.2.2 hj
          rw [hse] at this; cases this

theorem LkC.noInt {r wb c : Nat} {l : List (Int × Value × Nat)} {vs : List Value} (w : LkC F h L r wb l c vs s) : (∀ o x, h.cell L o ≠ some (.int .i64 x)) ∧ (∀ o x, h.cell r o ≠ some (.int .i64 x)) ∧ (∀ o x, h.cell wb o ≠ some (.int .i64 x)) := by
  refine ⟨fun o x e => ?_, fun o x e => ?_, fun o x e => ?_⟩
  · rw [w.hL.cell] at e
    rcases o with _ | _ | o
    · cases e
    · cases e
    · simp at e
  · unfold Heap.cell at e
    rw [w.hr] at e; cases e
  · rw [w.hw.cell] at e
    have hlt : o < vs.length := (List.getElem?_eq_some_iff.1 e).1
    rw [w.vl] at hlt
    obtain ⟨a, cp, h1, _⟩ := w.vg o hlt
    rw [h1] at e; cases e

/-- Another list of wants. -/
theorem LkC.setWant {r wb c i : Nat} {l : List (Int × Value × Nat)} {vs : List Value} (w : LkC F h L r wb l c vs s) (hi : i < s.n) {a : Option Addr} {cp : Nat} {v : List Int} (hv : RdF F h a v) (hcp : v.length ≤ cp) (hss : SS v) (hsm : v.length < 1000000) :
    LkC F (h.put wb (0 + i * 1) [.slice a v.length cp]) L r wb l c (vs.set i (.slice a v.length cp)) ⟨s.n, s.ow, wset s.wa i v⟩ := by
  have ei : 0 + i * 1 = i := by omega
  rw [ei]
  have hk : ∀ k, k ≠ wb → h.put wb i [.slice a v.length cp] k = h k := fun k e => put_other _ _ _ e
  refine ⟨w.n1, w.n8, w.fL, w.fr, w.fw, w.ne, w.hL.keep (hk _ w.ne.2.1), by rw [hk _ w.ne.2.2, w.hr], w.hw.put i _, by rw [List.length_set]; exact w.vl, fun j hj => ?_, fun j hj => ?_, fun j hj => ?_, w.om, w.os⟩
  · by_cases e : j = i
    · subst e
      refine ⟨a, cp, ?_, ?_, ?_⟩
      · rw [List.getElem?_set_self (by rw [w.vl]; exact hj)]; simp [wset]
      · have : wset s.wa j v j = v := by simp [wset]
        show RdF F _ a (wset s.wa j v j)
        rw [this]; exact hv.put w.noInt.2.2 hk
      · have : wset s.wa j v j = v := by simp [wset]
        show (wset s.wa j v j).length ≤ cp
        rw [this]; exact hcp
    · obtain ⟨a', cp', h1, h2, h3⟩ := w.vg j hj
      have e2 : wset s.wa i v j = s.wa j := by simp [wset, e]
      refine ⟨a', cp', ?_, ?_, ?_⟩
      · show (vs.set i _)[j]? = some (.slice a' (wset s.wa i v j).length cp')
        rw [e2, List.getElem?_set_ne (Ne.symm e)]; exact h1
      · show RdF F _ a' (wset s.wa i v j)
        rw [e2]; exact h2.put w.noInt.2.2 hk
      · show (wset s.wa i v j).length ≤ cp'
        rw [e2]; exact h3
  · show SS (wset s.wa i v j)
    unfold wset; split
    · exact hss
    · exact w.ss j hj
  · show (wset s.wa i v j).length < _
    unfold wset; split
    · exact hsm
    · exact w.sm j hj

/-- Another map. -/
theorem LkC.setMap {r wb c c' : Nat} {l l' : List (Int × Value × Nat)} {vs : List Value} {ow : List (Int × Int)} {h' : Heap} (w : LkC F h L r wb l c vs s) (hr : h' r = some (mapO (Value.int .i64) l' c')) (hk : ∀ k, F k → k ≠ r → h k ≠ none → h' k = h k) (om : OwM ow l' c') (os : ow.length < 1000000) :
    LkC F h' L r wb l' c' vs ⟨s.n, ow, s.wa⟩ := by
  refine ⟨w.n1, w.n8, w.fL, w.fr, w.fw, w.ne, w.hL.keep (hk _ w.fL w.ne.1 w.hL.ne), hr, w.hw.keep (hk _ w.fw (Ne.symm w.ne.2.2) w.hw.ne), w.vl, fun j hj => ?_, w.ss, w.sm, om, os⟩
  obtain ⟨a, cp, h1, h2, h3⟩ := w.vg j hj
  refine ⟨a, cp, h1, ?_, h3⟩
  show RdF F h' a (s.wa j)
  rcases h2 with e | ⟨b', o, rfl, hb', hc⟩
  · exact .inl e
  · cases hl : s.wa j with
    | nil => exact .inl rfl
    | cons x t =>
      rw [hl] at hc
      have h0 := hc 0 x rfl
      have hne : b' ≠ r := fun e => w.noInt.2.1 _ x (by rw [← e]; exact h0)
      have hn : h b' ≠ none := by intro hn; unfold Heap.cell at h0; rw [hn] at h0; cases h0
      refine .inr ⟨b', o, rfl, hb', fun i y hi => ?_⟩
      have := hc i y hi
      unfold Heap.cell at this ⊢
      rw [hk b' hb' hne hn]; exact this

theorem lock_Locks_Drop.c {client : Int} (w : LkD F h L s) (hq : ∀ h', LkD F h' L (dropL s client).2 → Step F h F h' → Q (.int .i64 (dropL s client).1) h') : C Try.prog 10 #[.pointer (some ⟨L, 0, none⟩), .int .i64 client] h Q := by
  refine lock_Locks_Drop.ok fun b hb => ?_
  have st1 : Step F h F (upd h b (.cells #[.int .i64 client] 3 (0, 0))) := Step.lost hb _
  have hk1 : ∀ k, k ≠ b → upd h b (.cells #[.int .i64 client] 3 (0, 0)) k = h k := fun k e => upd_other _ _ e
  have w1 : LkD F (upd h b (.cells #[.int .i64 client] 3 (0, 0))) L s := w.keep fun k _ hk => hk1 k fun e => hk (e ▸ hb)
  refine ⟨client, (Blk.new h b #[.int .i64 client] 3).cell 0, lock_Locks_client.c w1 ⟨_, rfl, ?_⟩⟩
  by_cases hc : s.ok client
  · rw [if_pos hc]
    have e : dropL s client = (0, ⟨s.n, s.ow.filter fun p => !(p.2 == client), wset s.wa client.toNat []⟩) := by unfold dropL; rw [if_pos hc]
    rw [e] at hq
    refine xsIf_f rfl ?_
    have hbF : ∀ k, h k ≠ none → k ≠ b := fun k hk e => hk (e ▸ hb)
    obtain ⟨r, wb, l, c, vs, w0⟩ := w
    have nb : b ≠ L ∧ b ≠ r ∧ b ≠ wb := ⟨fun e => w0.hL.ne (e ▸ hb), fun e => (by have := w0.hr; rw [← e, hb] at this; cases this), fun e => w0.hw.ne (e ▸ hb)⟩
    have w2 := w0.keep (h' := upd h b (.cells #[.int .i64 client] 3 (0, 0))) fun k _ hk => hk1 k (hbF k hk)
    have hcn : client.toNat < s.n := by unfold LkS.ok at hc; omega
    have w3 := w2.setWant (i := client.toNat) hcn (a := none) (cp := 0) (v := []) (.inl rfl) (Nat.le_refl _) List.Pairwise.nil (by decide)
    have hBb : (upd h b (.cells #[.int .i64 client] 3 (0, 0))) b = some (.cells #[.int .i64 client] 3 (0, 0)) := upd_same _ _ _
    refine ⟨L, 0, rfl, _, _, _, w2.hL.cell _, client, by unfold Heap.cell; rw [hBb]; rfl, ⟨hc.1, hc.2⟩, wb, 0, rfl, w2.hw.can (by rw [w2.vl]; omega), L, 0, rfl, _, w3.hL.cell _, ?_⟩
    refine maps_DeleteFunc_map_int_int_int_int.ok ⟨r, rfl, l, c, w3.hr, fun t7 ht7 => ?_⟩
    have nt : t7 ≠ r := fun e => by have h3 := w3.hr; rw [← e] at h3; exact absurd (h3.symm.trans ht7) (by simp)
    have htw : t7 ≠ wb := fun e => w3.hw.ne (e ▸ ht7)
    have htb : t7 ≠ b := fun e => by rw [e, put_other _ _ _ nb.2.2, hBb] at ht7; cases ht7
    have ht0 : h t7 = none := by rw [put_other _ _ _ htw, hk1 _ htb] at ht7; exact ht7
    refine delete_L1.c (client := client) (hb := upd ((upd h b (.cells #[.int .i64 client] 3 (0, 0))).put wb (0 + client.toNat * 1) [.slice none 0 0]) t7 (iterO r c [] c)) w3.om ?_ nb.2.1 (Ne.symm htb) nt (fun h' hr' hk' ht' => ?_) (leftK l []) [] _ (Nat.le_refl _) (upd_same _ _ _) ?_ fun _ _ _ => rfl
    · rw [upd_other _ _ (Ne.symm htb), put_other _ _ _ nb.2.2]; exact hBb
    · have hkk : ∀ k, k ≠ r → k ≠ t7 → h' k = ((upd h b (.cells #[.int .i64 client] 3 (0, 0))).put wb (0 + client.toNat * 1) [.slice none 0 0]) k := fun k h2 h3 => by rw [hk' k h2 h3, upd_other _ _ h3]
      have w4 := w3.setMap (ow := s.ow.filter fun p => !(p.2 == client)) hr' (fun k _ h2 hk => hkk k h2 fun e => hk (e ▸ ht7)) (w3.om.filter fun x => !(x == client)) (Nat.lt_of_le_of_lt (List.length_filter_le _ _) w3.os)
      refine hq h' ⟨r, wb, _, c, _, w4⟩ ⟨fun k hF hk => ?_, fun k hk => .inl hk, fun k hk => ?_, fun hl k hk => ?_⟩
      · have n1 : k ≠ r := fun e => hF (e ▸ w0.fr)
        have n2 : k ≠ wb := fun e => hF (e ▸ w0.fw)
        rw [hkk k n1 (fun e => hk (e ▸ ht0)), put_other _ _ _ n2, hk1 _ (hbF k hk)]
      · by_cases n1 : k = r
        · rw [n1, hr']; simp
        · rw [hkk k n1 (fun e => hk (e ▸ ht0))]
          exact put_live _ _ (by rw [hk1 _ (hbF k hk)]; exact hk)
      · have hk := hl k hk
        by_cases n1 : k = r
        · rw [n1, hr']; simp
        · rw [hkk k n1 (fun e => hk (e ▸ ht0))]
          exact put_live _ _ (by rw [hk1 _ (hbF k hk)]; exact hk)
    · rw [upd_other _ _ nt.symm]
      refine w3.hr.trans ?_
      congr 1
      congr 1
      exact (List.filter_eq_self.2 fun e _ => rfl).symm
  · rw [if_neg hc]
    have e : dropL s client = (2, s) := by unfold dropL; rw [if_neg hc]
    rw [e] at hq
    exact xsIf_t rfl (hq _ w1 st1)

end
end Go.Gb
namespace Go.Gb
open Go.Proofs IntWalk

section
variable {F : Nat → Prop} {h : Heap} {L : Nat} {s : LkS} {Q : Value → Heap → Prop}

theorem RdF.tail {a : Option Addr} {x : Int} {l : List Int} {cp : Nat} (w : RdF F h a (x :: l)) (hcp : (x :: l).length ≤ cp) : RdF F h (slBase a (cp : Int) 1 1) l := by
  rcases w with e | ⟨b, o, rfl, hb, hc⟩
  · cases e
  · cases l with
    | nil => exact .inl rfl
    | cons y l =>
      simp at hcp
      refine .inr ⟨b, o + 1, ?_, hb, fun j z hj => ?_⟩
      · unfold slBase; rw [if_neg (by omega)]; rfl
      · have := hc (j + 1) z (by rw [List.getElem?_cons_succ]; exact hj)
        rw [show o + 1 + j = o + (j + 1) by omega]; exact this

theorem OwM.add {ow : List (Int × Int)} {l : List (Int × Value × Nat)} {c : Nat} (w : OwM ow l c) {x cl : Int} (hn : ∀ (j : Nat) (v : Value) (b : Nat), ¬ mnth l j = some (x, v, b)) : OwM (ow ++ [(x, cl)]) (madd l (x, .int .i64 cl, c)) (c + 1) := by
  refine ⟨w.mi.add hn, ?_⟩
  show (l ++ [(x, Value.int .i64 cl, c)]).map (fun e => (e.1, e.2.1)) = _
  rw [List.map_append, List.map_append, w.eq]; rfl

theorem lock_Locks_Step.c {client : Int} (w : LkD F h L s) (hos : s.ow.length < 999999) (hq : ∀ h', LkD F h' L (stepL s client).2.2 → Step F h F h' → Q (.tuple #[.bool (stepL s client).1, .int .i64 (stepL s client).2.1]) h') : C Try.prog 12 #[.pointer (some ⟨L, 0, none⟩), .int .i64 client] h Q := by
  refine lock_Locks_Step.ok (lock_Locks_client.c w ⟨_, rfl, ?_⟩)
  by_cases hc : s.ok client
  · rw [if_pos hc]
    refine xsIf_f rfl ?_
    have w' := w
    obtain ⟨r, wb, l, c, vs, w⟩ := w
    have hcn : client.toNat < s.n := by unfold LkS.ok at hc; omega
    have hc1 : 0 ≤ client := hc.1
    have hc2 : client < (s.n : Int) := hc.2
    obtain ⟨a, cp, hv, hrd, hcp⟩ := w.vg client.toNat hcn
    have hcell : h.cell wb (0 + client.toNat * 1) = some (.slice a (s.wa client.toNat).length cp) := by
      rw [show 0 + client.toNat * 1 = client.toNat by omega, w.hw.cell]; exact hv
    refine ⟨L, 0, rfl, _, _, _, w.hL.cell _, ⟨hc1, hc2⟩, wb, 0, rfl, _, _, _, hcell, ?_⟩
    cases hwa : s.wa client.toNat with
    | nil =>
      have e : stepL s client = (true, 0, s) := by unfold stepL; rw [if_pos hc, hwa]
      rw [e] at hq
      rw [hwa] at hcell
      exact xsIf_f rfl ⟨L, 0, rfl, _, _, _, w.hL.cell _, ⟨hc1, hc2⟩, wb, 0, rfl, _, _, _, hcell, hq h w' (Step.refl _ _)⟩
    | cons x rest =>
      rw [hwa] at hcell hrd hcp
      refine xsIf_t (by simp) ⟨L, 0, rfl, ⟨by decide, by simp⟩, hrd.cellAt fun b o ha hFb hx => ⟨r, w.hL.cell _, x, hx, r, rfl, l, c, w.hr, fun j v b' hj => ?_, fun hno => ?_⟩⟩
      · have he : (x, v, b') ∈ l := List.mem_of_getElem? hj
        have e : stepL s client = (false, 0, s) := by
          unfold stepL; rw [if_pos hc, hwa]
          dsimp only
          rw [ownL_of w.om.kn (show (x, vInt v) ∈ s.ow from (w.om.val he).2)]
        rw [e] at hq
        refine ⟨vInt v, (w.om.val he).1, L, 0, rfl, _, _, _, w.hL.cell _, ⟨hc1, hc2⟩, wb, 0, rfl, _, _, _, hcell, ?_⟩
        have := hq h w' (Step.refl _ _)
        rw [decide_eq_false (by simp; omega)]; exact this
      · have e : stepL s client = (rest.isEmpty, 0, ⟨s.n, s.ow ++ [(x, client)], wset s.wa client.toNat rest⟩) := by
          unfold stepL; rw [if_pos hc, hwa]
          dsimp only
          rw [ownL_none fun c hc => ?_]
          obtain ⟨b, hb⟩ := w.om.ent hc
          obtain ⟨j, hj⟩ := List.getElem?_of_mem hb
          exact hno j _ _ hj
        rw [e] at hq
        have w2 : LkC F (upd h r (mapO (Value.int .i64) (madd l (x, .int .i64 client, c)) (c + 1))) L r wb (madd l (x, .int .i64 client, c)) (c + 1) vs ⟨s.n, s.ow ++ [(x, client)], s.wa⟩ :=
          w.setMap (upd_same _ _ _) (fun k _ h2 _ => upd_other _ _ h2) (w.om.add hno) (by rw [List.length_append]; simp; omega)
        have hrd2 := hrd.tail hcp
        have hrd3 : RdF F (upd h r (mapO (Value.int .i64) (madd l (x, .int .i64 client, c)) (c + 1))) (slBase a (cp : Int) 1 1) rest := hrd2.put w.noInt.2.1 fun k hk => upd_other _ _ hk
        have hss := w.ss _ hcn
        have hsm := w.sm _ hcn
        rw [hwa] at hss hsm
        simp only [List.length_cons] at hcp hsm
        have w3 := w2.setWant (i := client.toNat) hcn hrd3 (cp := cp - 1) (by omega) (List.pairwise_cons.1 hss).2 (by omega)
        refine ⟨L, 0, rfl, ⟨by decide, by simp⟩, b, o, ha, r, w.hL.cell _, x, hx, r, rfl, l, c, w.hr, fun j v b' hj => absurd hj (hno j v b'), fun _ => ?_⟩
        refine ⟨L, 0, rfl, ⟨by decide, by simp; omega⟩, _, _, _, w2.hL.cell _, ⟨hc1, hc2⟩, wb, 0, rfl, w2.hw.can (by rw [w2.vl]; show 0 + client.toNat * 1 + 1 ≤ s.n; omega), ?_⟩
        rw [show (((x :: rest).length : Int) - 1).toNat = rest.length by simp, show ((cp : Int) - 1).toNat = cp - 1 by omega]
        have hcell3 : ((upd h r (mapO (Value.int .i64) (madd l (x, .int .i64 client, c)) (c + 1))).put wb (0 + client.toNat * 1) [.slice (slBase a (cp : Int) 1 1) rest.length (cp - 1)]).cell wb (0 + client.toNat * 1) = some (.slice (slBase a (cp : Int) 1 1) rest.length (cp - 1)) := by
          rw [w3.hw.cell, show 0 + client.toNat * 1 = client.toNat by omega, List.getElem?_set_self (by rw [w.vl]; exact hcn)]
        refine ⟨L, 0, rfl, _, _, _, w3.hL.cell _, ⟨hc1, hc2⟩, wb, 0, rfl, _, _, _, hcell3, ?_⟩
        have := hq _ ⟨r, wb, _, _, _, w3⟩ ((Step.set w.fr _).trans (Step.put w.fw _ _))
        have e2 : decide (((rest.length : Nat) : Int) = 0) = rest.isEmpty := by cases rest <;> simp <;> omega
        rw [e2]; exact this
  · rw [if_neg hc]
    have e : stepL s client = (false, 2, s) := by unfold stepL; rw [if_neg hc]
    rw [e] at hq
    exact xsIf_t rfl (hq h w (Step.refl _ _))

theorem tooLow_snoc (l : List Int) (y x : Int) (r : List Int) : tooLow (l ++ [y]) (x :: r) = decide (x ≤ y) := by
  unfold tooLow; simp

theorem lock_Locks_Ask.c {client : Int} {a : Option Addr} {cp : Nat} {locks : List Int} (w : LkD F h L s) (hl : Live F h) (hr : readsAt h a (ints .i64 locks)) (hn : locks.length < 1000000)
    (hq : ∀ h' F', LkD F' h' L (askL s client locks).2 → Step F h F' h' → Q (.int .i64 (askL s client locks).1) h') : C Try.prog 8 #[.pointer (some ⟨L, 0, none⟩), .int .i64 client, .slice a locks.length cp] h Q := by
  refine lock_Locks_Ask.ok (lock_Locks_client.c w ⟨_, rfl, ?_⟩)
  by_cases hc : s.ok client
  · rw [if_pos hc]
    refine xsIf_f rfl (sorted_values.c hr (by omega) fun a1 c1 h1 hS1 p1 => ⟨_, _, _, rfl, ?_⟩)
    refine slices_Compact_int_int.c (sortI_sorted locks) (by omega) hS1 fun h2 more hS2 hmore st2 => ⟨_, _, _, rfl, ?_⟩
    have emore : more = ss locks := by
      rw [hmore]; exact ss_congr fun x => mem_sortI
    subst emore
    have p2 : Part h h2 := st2.part p1 fun k hk e => hk e
    have w2 : LkD F h2 L s := w.keep fun k _ hk => part_live p2 hk
    refine lock_Locks_Has.c w2 fun a3 n3 c3 h3 hS3 hn3 p3 => ⟨_, _, _, rfl, ?_⟩
    have p03 : Part h h3 := p2.trans p3
    have w3 : LkD F h3 L s := w.keep fun k _ hk => part_live p03 hk
    have hSm : Sl (fun k => h k = none) h3 3 1 a1 (ss locks).length c1 (ints .i64 (ss locks)) := hS2.keep (fun _ h => h) fun k _ hk => part_live p3 hk
    have hcn : client.toNat < s.n := by unfold LkS.ok at hc; omega
    have hc1 : 0 ≤ client := hc.1
    have hc2 : client < (s.n : Int) := hc.2
    have w3' := w3
    obtain ⟨r, wb, l, c, vs, w⟩ := w3
    obtain ⟨aw, cw, hv, hrd, hcw⟩ := w.vg client.toNat hcn
    have hcell : h3.cell wb (0 + client.toNat * 1) = some (.slice aw (s.wa client.toNat).length cw) := by
      rw [show 0 + client.toNat * 1 = client.toNat by omega, w.hw.cell]; exact hv
    have stp : Step F h F h3 := Step.of_part p03
    refine ⟨L, 0, rfl, _, _, _, w.hL.cell _, ⟨hc1, hc2⟩, wb, 0, rfl, _, _, _, hcell, xsIf_intro (fun h1' => ?_) (fun h1' => ?_)⟩
    · have hne : s.wa client.toNat ≠ [] := fun e => by rw [e] at h1'; simp at h1'
      have e : askL s client locks = (8, s) := by unfold askL; rw [if_pos hc, if_pos hne]
      rw [e] at hq
      exact hq h3 F w3' stp
    · have hemp : s.wa client.toNat = [] := by
        cases hw : s.wa client.toNat with
        | nil => rfl
        | cons x t => rw [hw] at h1'; simp at h1'
      -- the new wants
      have hsl : (ss locks).length < 1000000 ∧ (ss locks).length ≤ c1 := by
        have hle : (ss locks).length ≤ locks.length := by
          clear hq hr hn hS1 hS2 hSm hmore
          induction locks with
          | nil => simp [ss]
          | cons x t ih =>
            show (ins x (ss t)).length ≤ _
            have : ∀ (l : List Int), (ins x l).length ≤ l.length + 1 := by
              intro l
              induction l with
              | nil => simp [ins]
              | cons y r ih2 => unfold ins; split
                                · simp
                                · split
                                  · simp
                                  · simp; omega
            have := this (ss t)
            simp; omega
        refine ⟨by omega, ?_⟩
        rcases hSm.place with ⟨_, h2, h3⟩ | ⟨_, _, _, _, _, _, h2, _⟩ <;> omega
      have done : (askL s client locks = (0, ⟨s.n, s.ow, wset s.wa client.toNat (ss locks)⟩)) → atBase (some (⟨L, 0, none⟩ : Addr)) fun (b o : Nat) => ∃ (x : Option Addr), ∃ (n : Nat), ∃ (m : Nat), h3.cell b (o + 1) = some (.slice x n m) ∧ (0 ≤ client ∧ client < (n : Int)) ∧
          atBase x fun (b o : Nat) => h3.can b (o + client.toNat * 1) 1 ∧ Q (.int .i64 0) (h3.put b (o + client.toNat * 1) [.slice a1 (ss locks).length c1]) := by
        intro e
        rw [e] at hq
        refine ⟨L, 0, rfl, _, _, _, w.hL.cell _, ⟨hc1, hc2⟩, wb, 0, rfl, w.hw.can (by rw [w.vl]; omega), ?_⟩
        have hkF : ∀ k, h k ≠ none → h3 k = h k := fun k hk => part_live p03 hk
        have hrd : RdF (fun k => F k ∨ ∃ x, a1 = some x ∧ k = x.block) h3 a1 (ss locks) := by
          rcases hSm.place with ⟨_, h2, _⟩ | ⟨b, cs, rfl, hb, hcs, hsz, hle, htk⟩
          · left; exact List.eq_nil_of_length_eq_zero h2
          · refine .inr ⟨b, 0, rfl, .inr ⟨_, rfl, rfl⟩, fun j x hj => ?_⟩
            rw [Nat.zero_add]; exact Sl.cellb (F := fun k => h k = none) hSm hj
        have wG : LkC (fun k => F k ∨ ∃ x, a1 = some x ∧ k = x.block) h3 L r wb l c vs s :=
          ⟨w.n1, w.n8, .inl w.fL, .inl w.fr, .inl w.fw, w.ne, w.hL, w.hr, w.hw, w.vl, fun i hi => let ⟨a, cp, g1, g2, g3⟩ := w.vg i hi; ⟨a, cp, g1, g2.keep (fun _ h => .inl h) (fun _ _ _ => rfl), g3⟩, w.ss, w.sm, w.om, w.os⟩
        have w4 := wG.setWant (i := client.toNat) hcn hrd hsl.2 (SS_ss locks) hsl.1
        refine hq _ _ ⟨r, wb, l, c, _, w4⟩ ⟨fun k hF hk => ?_, fun k hk => ?_, fun k hk => ?_, fun _ k hk => ?_⟩
        · rw [put_other _ _ _ (fun e : k = wb => hF (by rw [e]; exact w.fw)), hkF k hk]
        · rcases hk with h1 | ⟨x, hx, rfl⟩
          · exact .inl h1
          · rcases hSm.place with ⟨e, _⟩ | ⟨b, cs, e, hb, _⟩
            · rw [e] at hx; cases hx
            · rw [e] at hx; cases hx; exact .inr hb
        · exact put_live _ _ (by rw [hkF k hk]; exact hk)
        · refine put_live _ _ ?_
          rcases hk with h1 | ⟨x, hx, rfl⟩
          · have := hl k h1; rw [hkF k this]; exact this
          · rcases hSm.place with ⟨e, _⟩ | ⟨b, cs, e, hb, hcs, _⟩
            · rw [e] at hx; cases hx
            · rw [e] at hx; cases hx; rw [hcs]; simp
      have est : ∀ t, tooLow (hasL s client) (ss locks) = t → askL s client locks = if t then (8, s) else (0, ⟨s.n, s.ow, wset s.wa client.toNat (ss locks)⟩) := by
        intro t ht
        unfold askL; rw [if_pos hc, if_neg (by rw [hemp]; simp), ht]
      refine xsIf_intro (fun g1 => xsIf_intro (fun g2 => ?_) (fun g2 => ?_)) (fun g1 => ?_)
      · have g1 : 0 < n3 := by simpa using g1
        have g2 : 0 < (ss locks).length := by simpa using g2
        obtain ⟨x, rest, hx⟩ : ∃ x rest, ss locks = x :: rest := by
          cases hs : ss locks with
          | nil => rw [hs] at g2; simp at g2
          | cons x r => exact ⟨x, r, rfl⟩
        obtain ⟨pre, y, hy⟩ : ∃ pre y, hasL s client = pre ++ [y] := by
          rcases List.eq_nil_or_concat (hasL s client) with e | ⟨p, y, e⟩
          rotate_left
          · exact ⟨p, y, by rw [e, List.concat_eq_append]⟩
          · rw [e] at hn3; simp at hn3; omega
        have hlen3 : n3 = pre.length + 1 := by rw [hn3, hy]; simp
        have ew : IntKind.wrap .i64 ((n3 : Int) - 1) = ((pre.length : Nat) : Int) := by
          have := w.os
          have hb : n3 ≤ s.ow.length := by
            rw [hn3]; unfold hasL; rw [if_pos hc]
            have : ∀ (m : List Int), (ss m).length ≤ m.length := by
              intro m
              induction m with
              | nil => simp [ss]
              | cons x t ih =>
                show (ins x (ss t)).length ≤ _
                have : ∀ (l : List Int), (ins x l).length ≤ l.length + 1 := by
                  intro l
                  induction l with
                  | nil => simp [ins]
                  | cons y r ih2 => unfold ins; split
                                    · simp
                                    · split
                                      · simp
                                      · simp; omega
                have := this (ss t)
                simp; omega
            refine Nat.le_trans (this _) ?_
            rw [List.length_map]; exact List.length_filter_le _ _
          rw [i64_in _ (by omega)]; omega
        rw [ew]
        rcases hS3.place with ⟨_, h0, _⟩ | ⟨b3, cs3, rfl, _⟩
        · omega
        · rcases hSm.place with ⟨_, h0, _⟩ | ⟨bm, csm, rfl, _⟩
          · omega
          · refine ⟨⟨by omega, by omega⟩, b3, 0, rfl, ⟨by decide, by simpa using g2⟩, bm, 0, rfl, y, ?_, x, ?_, xsIf_intro (fun g3 => ?_) (fun g3 => ?_)⟩
            · rw [show 0 + ((pre.length : Nat) : Int).toNat * 1 = pre.length by omega]
              exact hS3.cellb (by rw [hy]; simp)
            · exact hSm.cellb (j := 0) (by rw [hx]; rfl)
            · have ht : tooLow (hasL s client) (ss locks) = true := by rw [hy, hx, tooLow_snoc]; exact g3
              have e := est _ ht
              rw [if_pos rfl] at e
              rw [e] at hq
              exact hq h3 F w3' stp
            · have ht : tooLow (hasL s client) (ss locks) = false := by rw [hy, hx, tooLow_snoc]; exact g3
              have e := est _ ht
              rw [if_neg (by decide)] at e
              exact done e
      · have hm : ss locks = [] := by
          cases hs : ss locks with
          | nil => rfl
          | cons x r => rw [hs] at g2; simp at g2
        have ht : tooLow (hasL s client) (ss locks) = false := by
          rw [hm]; unfold tooLow; split
          · rename_i h2; cases h2
          · rfl
        have e := est _ ht
        rw [if_neg (by decide)] at e
        exact done e
      · have hm : hasL s client = [] := by
          cases hs : hasL s client with
          | nil => rfl
          | cons x r => rw [hs] at hn3; simp at hn3 g1; omega
        have ht : tooLow (hasL s client) (ss locks) = false := by
          rw [hm]; rfl
        have e := est _ ht
        rw [if_neg (by decide)] at e
        exact done e
  · rw [if_neg hc]
    have e : askL s client locks = (2, s) := by unfold askL; rw [if_neg hc]
    rw [e] at hq
    exact xsIf_t rfl (hq h F w (Step.refl _ _))

end
end Go.Gb
namespace Go.Gb
open Go.Proofs IntWalk

/-! ## gabionref24 -/

/-! ### of -/
section
variable {h : Heap} {Q : Value → Heap → Prop} {client : Int} {P : List (Int × Int)}

theorem ins_length (x : Int) : ∀ (l : List Int), (ins x l).length ≤ l.length + 1
  | [] => by simp [ins]
  | y :: r => by
    unfold ins
    split
    · simp
    · split
      · simp
      · have := ins_length x r; simp; omega

/-! ### without -/
end
end Go.Gb
namespace Go.Gb
open Go.Proofs IntWalk

/-! ## gabionref24: its state -/

/-! ### pure -/
def rOk (n : Nat) (c : Int) : Prop := 0 ≤ c ∧ c < n
instance (n : Nat) (c : Int) : Decidable (rOk n c) := by unfold rOk; infer_instance
end Go.Gb
namespace Go.Gb
open Go.Proofs IntWalk

end Go.Gb
namespace Go.Gb
open Go.Proofs IntWalk

/-! ## wakes; LockMakes -/

/-- Locks beside an elder heap. -/
structure LkI (h0 : Heap) (F : Nat → Prop) (h : Heap) (L : Nat) (s : LkS) : Prop where
  d : LkD F h L s
  lv : Live F h
  part : Part h0 h
  out : ∀ k, h0 k ≠ none → ¬ F k

theorem LkI.step {h0 h h' : Heap} {F F' : Nat → Prop} {L : Nat} {s s' : LkS} (i : LkI h0 F h L s) (w : LkD F' h' L s') (st : Step F h F' h') : LkI h0 F' h' L s' :=
  ⟨w, st.dom i.lv, st.part i.part i.out, fun k hk hF => by
    rcases st.sub k hF with h1 | h1
    · exact i.out k hk h1
    · cases e : h0 k with
      | none => exact hk e
      | some o => rw [i.part k o e] at h1; cases h1⟩
theorem LkI.side {h0 h h' : Heap} {F : Nat → Prop} {L : Nat} {s : LkS} (i : LkI h0 F h L s) (p : Part h h') : LkI h0 F h' L s :=
  ⟨i.d.keep fun k _ hk => part_live p hk, fun k hk => by rw [part_live p (i.lv k hk)]; exact i.lv k hk, i.part.trans p, i.out⟩

section
variable {h : Heap} {Q : Value → Heap → Prop}

theorem lock_New.i {h0 : Heap} {n : Int} (h1 : 1 ≤ n) (h8 : n ≤ 8) (p : Part h0 h) (hq : ∀ h' F L, LkI h0 F h' L ⟨n.toNat, [], fun _ => []⟩ → Part h h' → Q (.tuple #[.pointer (some ⟨L, 0, none⟩), .int .i64 0]) h') : C Try.prog 6 #[.int .i64 n] h Q :=
  lock_New.c h1 h8 fun h' F L w st lv => by
    have hn : ∀ k, F k → h k = none := fun k hk => by
      rcases st.sub k hk with h1 | h1
      · exact h1.elim
      · exact h1
    have pp : Part h h' := st.part (Part.refl _) fun _ _ h => h
    exact hq h' F L ⟨w, lv, p.trans pp, fun k hk hF => by
      cases e : h0 k with
      | none => exact hk e
      | some o => have := hn k hF; rw [p k o e] at this; cases this⟩ pp

def wk0 : LkS := ⟨2, [], fun _ => []⟩
def wk1 : LkS := (askL wk0 0 [2, 1, 2]).2
def wk2 : LkS := (askL wk1 1 [1]).2
def wk3 : LkS := (stepL wk2 0).2.2
def wk4 : LkS := (stepL wk3 1).2.2
def wk5 : LkS := (stepL wk4 0).2.2

theorem gabionlaw24_wakes.c (hq : ∀ h', Part h h' → Q (.bool true) h') : C Try.prog 7 #[] h Q := by
  refine gabionlaw24_wakes.ok (lock_New.i (h0 := h) (by decide) (by decide) (Part.refl _) fun h1 F L i _ => ⟨_, _, rfl, fun b hb => ?_⟩)
  have i1 : LkI h F (upd h1 b (.cells #[.int .i64 2, .int .i64 1, .int .i64 2] 3 (0, 0))) L wk0 := i.side (Part.upd hb _)
  refine lock_Locks_Ask.c (locks := [2, 1, 2]) i1.d i1.lv (readsAt_new _ (ints .i64 [2, 1, 2])) (by decide) fun h2 F2 w2 st2 => ⟨_, rfl, fun b2 hb2 => ?_⟩
  have i2 : LkI h F2 h2 L wk1 := i1.step w2 st2
  have i3 := i2.side (Part.upd hb2 (.cells #[.int .i64 1] 3 (0, 0)))
  refine lock_Locks_Ask.c (locks := [1]) i3.d i3.lv (readsAt_new _ (ints .i64 [1])) (by decide) fun h3 F3 w3 st3 => ⟨_, rfl, ?_⟩
  have i4 : LkI h F3 h3 L wk2 := i3.step w3 st3
  refine lock_Locks_Step.c i4.d (by decide) fun h4 w4 st4 => ⟨_, _, rfl, ?_⟩
  have i5 : LkI h F3 h4 L wk3 := i4.step w4 st4
  refine lock_Locks_Step.c i5.d (by decide) fun h5 w5 st5 => ⟨_, _, rfl, ?_⟩
  have i6 : LkI h F3 h5 L wk4 := i5.step w5 st5
  refine lock_Locks_Step.c i6.d (by decide) fun h6 w6 st6 => ⟨_, _, rfl, ?_⟩
  have i7 : LkI h F3 h6 L wk5 := i6.step w6 st6
  refine xsIf_t rfl (xsIf_t rfl (xsIf_t rfl (xsIf_t rfl (xsIf_t rfl (xsIf_t rfl ?_)))))
  refine lock_Locks_Waits.c i7.d ⟨_, rfl, xsIf_t rfl (lock_Locks_Waits.c i7.d ⟨_, rfl, xsIf_t rfl (lock_Locks_Has.c i7.d fun a n cp h7 _ hn p => ⟨_, _, _, rfl, ?_⟩)⟩)⟩
  have e : n = 2 := hn
  rw [e]
  exact hq h7 (i7.part.trans p)

end
end Go.Gb
namespace Go.Gb

/-! ## LockPlays: the two states agree (pure) -/

theorem step_ow (s : LkS) (c : Int) : (stepL s c).2.2.ow.length ≤ s.ow.length + 1 ∧ (stepL s c).2.2.n = s.n := by
  unfold stepL; split
  · split
    · exact ⟨Nat.le_succ _, rfl⟩
    · split
      · exact ⟨Nat.le_succ _, rfl⟩
      · exact ⟨by simp, rfl⟩
  · exact ⟨Nat.le_succ _, rfl⟩
theorem drop_ow (s : LkS) (c : Int) : (dropL s c).2.ow.length ≤ s.ow.length ∧ (dropL s c).2.n = s.n := by
  unfold dropL; split
  · exact ⟨List.length_filter_le _ _, rfl⟩
  · exact ⟨Nat.le_refl _, rfl⟩
end Go.Gb
namespace Go.Gb
open Go.Proofs IntWalk

/-! ## LockPlays -/


theorem dss_get {sz : Nat} : ∀ (dss : List (List Value)) (i j : Nat) (ds : List Value), (∀ ds ∈ dss, ds.length = sz) → dss[i]? = some ds → j < sz → dss.flatten[i * sz + j]? = ds[j]?
  | [], i, j, ds, _, h, _ => by simp at h
  | x :: r, 0, j, ds, hl, h, hj => by
    simp at h
    subst h
    rw [List.flatten_cons, Nat.zero_mul, Nat.zero_add, List.getElem?_append_left (by rw [hl x (by simp)]; exact hj)]
  | x :: r, i + 1, j, ds, hl, h, hj => by
    rw [List.getElem?_cons_succ] at h
    have hx := hl x (by simp)
    rw [List.flatten_cons, List.getElem?_append_right (by rw [hx, Nat.succ_mul]; omega), hx]
    have : (i + 1) * sz + j - sz = i * sz + j := by rw [Nat.succ_mul]; omega
    rw [this]
    exact dss_get r i j ds (fun d hd => hl d (by simp [hd])) h hj
theorem dss_len {sz : Nat} : ∀ (dss : List (List Value)), (∀ ds ∈ dss, ds.length = sz) → dss.flatten.length = dss.length * sz
  | [], _ => by simp
  | x :: r, hl => by
    rw [List.flatten_cons, List.length_append, hl x (by simp), dss_len r (fun d hd => hl d (by simp [hd])), List.length_cons, Nat.succ_mul, Nat.add_comm]

end Go.Gb
namespace Go.Gb

/-! ## LockRounds: nobody waits in a round; all come to have all (pure) -/

structure LkK (s : LkS) : Prop where
  n : s.n = 6
  kn : (s.ow.map (·.1)).Nodup
  rg : ∀ x c, (x, c) ∈ s.ow → s.ok c
  lt : ∀ x c, (x, c) ∈ s.ow → ∀ y ∈ s.wa c.toNat, x < y
  ss : ∀ c, c < 6 → SS (s.wa c)

/-- How many clients' next locks lie behind one. -/
def rank (s : LkS) (x : Int) : Nat := ((List.range 6).filter fun d => match (s.wa d).head? with | some y => decide (x < y) | none => false).length

theorem rank_lt {s : LkS} {x y : Int} {d : Nat} (hd : d < 6) {t : List Int} (hw : s.wa d = y :: t) (hxy : x < y) : rank s y < rank s x := by
  unfold rank
  have hsub : ((List.range 6).filter fun d => match (s.wa d).head? with | some z => decide (y < z) | none => false) =
      ((List.range 6).filter fun d => match (s.wa d).head? with | some z => decide (x < z) | none => false).filter fun d => match (s.wa d).head? with | some z => decide (y < z) | none => false := by
    rw [List.filter_filter]
    refine List.filter_congr fun e _ => ?_
    cases (s.wa e).head? with
    | none => rfl
    | some z =>
      dsimp only
      rw [Bool.eq_iff_iff]
      simp
      omega
  rw [hsub]
  refine List.length_filter_lt_length_iff_exists.2 ⟨d, List.mem_filter.2 ⟨by simpa using hd, by rw [hw]; simpa using hxy⟩, ?_⟩
  rw [hw]; simp
theorem rank_le {s : LkS} {x : Int} {d : Nat} (hd : d < 6) {t : List Int} (hw : s.wa d = x :: t) : rank s x ≤ 5 := by
  unfold rank
  have := List.length_filter_lt_length_iff_exists (l := List.range 6) (p := fun d => match (s.wa d).head? with | some y => decide (x < y) | none => false) |>.2 ⟨d, by simpa using hd, by rw [hw]; simp⟩
  simp at this
  omega

/-- How many steps the walk may go on still. -/
def walkN (s : LkS) (c : Int) : Nat := match s.wa c.toNat with
  | [] => 0
  | x :: _ => rank s x + 1

theorem LkK.walk {s : LkS} (k : LkK s) {c : Int} (h : s.ok c) : waitL s c ≠ c ∧ (waitL s c = -1 ∨ (s.ok (waitL s c) ∧ walkN s (waitL s c) + 1 ≤ walkN s c)) := by
  have hc1 := h.1
  have hc2 := h.2
  have hn := k.n
  unfold waitL
  rw [if_pos h]
  cases hw : s.wa c.toNat with
  | nil => exact ⟨by show (-1 : Int) ≠ c; omega, .inl rfl⟩
  | cons x t =>
    dsimp only
    cases ho : ownL s.ow x with
    | none => exact ⟨by show (-1 : Int) ≠ c; omega, .inl rfl⟩
    | some d =>
      have h1 := ownL_some ho
      have hd := k.rg x d h1
      have hd1 := hd.1
      have hd2 := hd.2
      refine ⟨fun e => ?_, .inr ⟨hd, ?_⟩⟩
      · have e : d = c := e
        subst e
        have := k.lt x d h1 x (by rw [hw]; simp)
        omega
      · show walkN s d + 1 ≤ walkN s c
        unfold walkN
        rw [hw]
        cases hwd : s.wa d.toNat with
        | nil => simp
        | cons y r =>
          have := k.lt x d h1 y (by rw [hwd]; simp)
          have := rank_lt (s := s) (d := d.toNat) (by omega) hwd this
          dsimp only; omega
theorem LkK.walk0 {s : LkS} (k : LkK s) {c : Int} (h : s.ok c) : walkN s c ≤ 6 := by
  have := h.1; have := h.2; have := k.n
  unfold walkN
  split
  · omega
  · rename_i x t hw
    have := rank_le (s := s) (d := c.toNat) (by omega) hw
    omega

theorem stepL_cases (s : LkS) {c : Int} (h : s.ok c) : (s.wa c.toNat = [] ∧ stepL s c = (true, 0, s)) ∨ (∃ x t d, s.wa c.toNat = x :: t ∧ ownL s.ow x = some d ∧ stepL s c = (false, 0, s)) ∨
    (∃ x t, s.wa c.toNat = x :: t ∧ ownL s.ow x = none ∧ stepL s c = (t.isEmpty, 0, ⟨s.n, s.ow ++ [(x, c)], wset s.wa c.toNat t⟩)) := by
  unfold stepL
  rw [if_pos h]
  cases hw : s.wa c.toNat with
  | nil => exact .inl ⟨rfl, rfl⟩
  | cons x t =>
    right
    dsimp only
    cases ho : ownL s.ow x with
    | some d => exact .inl ⟨x, t, d, rfl, ho, rfl⟩
    | none => exact .inr ⟨x, t, rfl, ho, rfl⟩

theorem LkK.step {s : LkS} (k : LkK s) {c : Int} (h : s.ok c) : LkK (stepL s c).2.2 := by
  rcases stepL_cases s h with ⟨_, e⟩ | ⟨_, _, _, _, _, e⟩ | ⟨x, t, hw, ho, e⟩
  · rw [e]; exact k
  · rw [e]; exact k
  · rw [e]
    have hc1 := h.1
    have hss := k.ss c.toNat (by have := h.2; have := k.n; omega)
    rw [hw] at hss
    have hss' := List.pairwise_cons.1 hss
    have hno : ∀ d, (x, d) ∉ s.ow := fun d hd => by rw [ownL_of k.kn hd] at ho; cases ho
    refine ⟨k.n, ?_, fun y d hy => ?_, fun y d hy z hz => ?_, fun d hd => ?_⟩
    · show ((s.ow ++ [(x, c)]).map (·.1)).Nodup
      rw [List.map_append, List.nodup_append]
      refine ⟨k.kn, by simp, fun a ha b hb e => ?_⟩
      simp at hb
      obtain ⟨p, hp, rfl⟩ := List.mem_map.1 ha
      exact hno p.2 (by rw [← hb, ← e]; exact hp)
    · have hy : (y, d) ∈ s.ow ++ [(x, c)] := hy
      rcases List.mem_append.1 hy with h1 | h1
      · exact k.rg y d h1
      · have : (y, d) = (x, c) := by simpa using h1
        injection this with _ e2
        rw [e2]; exact h
    · have hy : (y, d) ∈ s.ow ++ [(x, c)] := hy
      have hz2 : z ∈ (if d.toNat = c.toNat then t else s.wa d.toNat) := hz
      clear hz
      rcases List.mem_append.1 hy with h1 | h1
      · split at hz2
        · rename_i e1
          exact k.lt y d h1 z (by rw [e1, hw]; simp [hz2])
        · exact k.lt y d h1 z hz2
      · have : (y, d) = (x, c) := by simpa using h1
        injection this with e1 e2
        rw [e2, if_pos rfl] at hz2
        rw [e1]
        exact hss'.1 z hz2
    · show SS (wset s.wa c.toNat t d)
      unfold wset; split
      · exact hss'.2
      · exact k.ss d hd

theorem LkK.drop {s : LkS} (k : LkK s) (c : Int) : LkK (dropL s c).2 := by
  unfold dropL
  split
  · refine ⟨k.n, (List.filter_sublist.map _).nodup k.kn, fun y d hy => k.rg y d (List.mem_filter.1 hy).1, fun y d hy z hz => ?_, fun d hd => ?_⟩
    · have hz : z ∈ wset s.wa c.toNat [] d.toNat := hz
      unfold wset at hz
      split at hz
      · cases hz
      · exact k.lt y d (List.mem_filter.1 hy).1 z hz
    · show SS (wset s.wa c.toNat [] d)
      unfold wset; split
      · exact List.Pairwise.nil
      · exact k.ss d hd
  · exact k

/-! ### the end -/
structure LkE (s : LkS) (dn : Nat → Bool) : Prop where
  k : LkK s
  d : ∀ c, c < 6 → dn c = true → s.wa c = [] ∧ ∀ x, (x, (c : Int)) ∉ s.ow

def dset (dn : Nat → Bool) (c : Nat) : Nat → Bool := fun j => if j = c then true else dn j
/-- What is done with a client. -/
def opL (s : LkS) (dn : Nat → Bool) (c : Nat) : LkS × (Nat → Bool) := if (stepL s c).1 then ((dropL (stepL s c).2.2 c).2, dset dn c) else ((stepL s c).2.2, dn)
def fP (s : LkS) (dn : Nat → Bool) (c : Nat) : Nat := (s.wa c).length + if dn c then 0 else 1
def sum6 (f : Nat → Nat) : Nat := f 0 + f 1 + f 2 + f 3 + f 4 + f 5
theorem sum6_lt {f g : Nat → Nat} {c : Nat} (hc : c < 6) (h : ∀ j, j ≠ c → g j = f j) (hl : g c < f c) : sum6 g < sum6 f := by
  unfold sum6
  match c, hc with
  | 0, _ => rw [h 1 (by decide), h 2 (by decide), h 3 (by decide), h 4 (by decide), h 5 (by decide)]; omega
  | 1, _ => rw [h 0 (by decide), h 2 (by decide), h 3 (by decide), h 4 (by decide), h 5 (by decide)]; omega
  | 2, _ => rw [h 0 (by decide), h 1 (by decide), h 3 (by decide), h 4 (by decide), h 5 (by decide)]; omega
  | 3, _ => rw [h 0 (by decide), h 1 (by decide), h 2 (by decide), h 4 (by decide), h 5 (by decide)]; omega
  | 4, _ => rw [h 0 (by decide), h 1 (by decide), h 2 (by decide), h 3 (by decide), h 5 (by decide)]; omega
  | 5, _ => rw [h 0 (by decide), h 1 (by decide), h 2 (by decide), h 3 (by decide), h 4 (by decide)]; omega

def blocked (s : LkS) (c : Nat) : Prop := ∃ x t d, s.wa c = x :: t ∧ ownL s.ow x = some d

theorem dset_same (dn : Nat → Bool) {c : Nat} (h : dn c = true) : dset dn c = dn := by
  funext j; unfold dset; split
  · rename_i e; rw [e, h]
  · rfl

theorem LkE.op {s : LkS} {dn : Nat → Bool} (e : LkE s dn) {c : Nat} (hc : c < 6) : LkE (opL s dn c).1 (opL s dn c).2 ∧ (sum6 (fP (opL s dn c).1 (opL s dn c).2) < sum6 (fP s dn) ∨ (opL s dn c = (s, dn) ∧ (dn c = true ∨ blocked s c))) := by
  have hn := e.k.n
  have ok : s.ok (c : Int) := ⟨by omega, by omega⟩
  have hcc : ((c : Int)).toNat = c := by omega
  -- a client that has all
  have allDone : ∀ s1 : LkS, LkK s1 → (∀ j, j < 6 → j ≠ c → s1.wa j = s.wa j) → (∀ j, j ≠ c → ∀ x, (x, (j : Int)) ∈ s1.ow → (x, (j : Int)) ∈ s.ow) → LkE (dropL s1 c).2 (dset dn c) := by
    intro s1 k1 hwa how
    have ok1 : s1.ok (c : Int) := ⟨by omega, by have := k1.n; omega⟩
    have ed : (dropL s1 (c : Int)).2 = ⟨s1.n, s1.ow.filter fun p => !(p.2 == (c : Int)), wset s1.wa c []⟩ := by unfold dropL; rw [if_pos ok1, hcc]
    refine ⟨k1.drop c, fun j hj hd => ?_⟩
    rw [ed]
    by_cases ej : j = c
    · subst ej
      refine ⟨by simp [wset], fun x hx => ?_⟩
      have := (List.mem_filter.1 hx).2
      simp at this
    · unfold dset at hd
      rw [if_neg ej] at hd
      obtain ⟨d1, d2⟩ := e.d j hj hd
      refine ⟨?_, fun x hx => d2 x (how j ej x (List.mem_filter.1 hx).1)⟩
      show wset s1.wa c [] j = []
      unfold wset
      rw [if_neg ej, hwa j hj ej]; exact d1
  have wdrop : ∀ s1 : LkS, LkK s1 → (∀ j, j ≠ c → (dropL s1 c).2.wa j = s1.wa j) ∧ (dropL s1 c).2.wa c = [] := by
    intro s1 k1
    have ok1 : s1.ok (c : Int) := ⟨by omega, by have := k1.n; omega⟩
    have ed : (dropL s1 (c : Int)).2 = ⟨s1.n, s1.ow.filter fun p => !(p.2 == (c : Int)), wset s1.wa c []⟩ := by unfold dropL; rw [if_pos ok1, hcc]
    rw [ed]
    exact ⟨fun j hj => by simp [wset, hj], by simp [wset]⟩
  rcases stepL_cases s ok with ⟨hw, es⟩ | ⟨x, t, d, hw, ho, es⟩ | ⟨x, t, hw, ho, es⟩
  · -- all is had
    rw [hcc] at hw
    have eo : opL s dn c = ((dropL s c).2, dset dn c) := by unfold opL; rw [es]; rfl
    rw [eo]
    refine ⟨allDone s e.k (fun _ _ _ => rfl) (fun _ _ _ h => h), ?_⟩
    by_cases hd : dn c = true
    · right
      obtain ⟨d1, d2⟩ := e.d c hc hd
      refine ⟨?_, .inl hd⟩
      rw [dset_same dn hd]
      congr 1
      unfold dropL
      rw [if_pos ok, hcc]
      have e1 : s.ow.filter (fun p => !(p.2 == (c : Int))) = s.ow := List.filter_eq_self.2 fun p hp => by
        have : p.2 ≠ (c : Int) := fun h => d2 p.1 (by rw [← h]; exact hp)
        simpa using this
      have e2 : wset s.wa c [] = s.wa := by
        funext j; unfold wset; split
        · rename_i e; rw [e, d1]
        · rfl
      rw [e1, e2]
    · left
      obtain ⟨w1, w2⟩ := wdrop s e.k
      refine sum6_lt hc (fun j hj => ?_) ?_
      · unfold fP; rw [w1 j hj]; simp [dset, hj]
      · unfold fP; rw [w2]; simp [dset, hd]
  · rw [hcc] at hw
    have eo : opL s dn c = (s, dn) := by unfold opL; rw [es]; rfl
    rw [eo]
    exact ⟨e, .inr ⟨rfl, .inr ⟨x, t, d, hw, ho⟩⟩⟩
  · have k1 := e.k.step ok
    rw [es] at k1
    rw [hcc] at hw es k1
    have hsame : ∀ j, j < 6 → j ≠ c → (⟨s.n, s.ow ++ [(x, (c : Int))], wset s.wa c t⟩ : LkS).wa j = s.wa j := fun j _ hj => by simp [wset, hj]
    have how : ∀ j, j ≠ c → ∀ y, (y, (j : Int)) ∈ (⟨s.n, s.ow ++ [(x, (c : Int))], wset s.wa c t⟩ : LkS).ow → (y, (j : Int)) ∈ s.ow := by
      intro j hj y hy
      rcases List.mem_append.1 (show (y, (j : Int)) ∈ s.ow ++ [(x, (c : Int))] from hy) with h1 | h1
      · exact h1
      · have : (y, (j : Int)) = (x, (c : Int)) := by simpa using h1
        injection this with _ e2
        omega
    have hdn : dn c ≠ true := fun hd => by rw [(e.d c hc hd).1] at hw; cases hw
    cases ht : t.isEmpty with
    | true =>
      have et : t = [] := by simpa using ht
      have eo : opL s dn c = ((dropL ⟨s.n, s.ow ++ [(x, (c : Int))], wset s.wa c t⟩ c).2, dset dn c) := by unfold opL; rw [es]; rw [ht]; rfl
      rw [eo]
      refine ⟨allDone _ k1 hsame how, .inl ?_⟩
      obtain ⟨w1, w2⟩ := wdrop _ k1
      refine sum6_lt hc (fun j hj => ?_) ?_
      · unfold fP; rw [w1 j hj]; simp [dset, hj, wset]
      · unfold fP; rw [w2]; simp [dset, hdn]
    | false =>
      have eo : opL s dn c = (⟨s.n, s.ow ++ [(x, (c : Int))], wset s.wa c t⟩, dn) := by unfold opL; rw [es]; rw [ht]; rfl
      rw [eo]
      refine ⟨⟨k1, fun j hj hd => ?_⟩, .inl ?_⟩
      · have ej : j ≠ c := fun h => hdn (by rw [← h]; exact hd)
        obtain ⟨d1, d2⟩ := e.d j hj hd
        exact ⟨by rw [hsame j hj ej]; exact d1, fun y hy => d2 y (how j ej y hy)⟩
      · refine sum6_lt hc (fun j hj => ?_) ?_
        · unfold fP; simp [wset, hj]
        · unfold fP; simp [wset, hw, hdn]

/-- Not all that are not done can be blocked. -/
theorem LkE.free {s : LkS} {dn : Nat → Bool} (e : LkE s dn) (h : ∀ c, c < 6 → dn c = true ∨ blocked s c) : ∀ c, c < 6 → dn c = true := by
  have key : ∀ (m c : Nat), c < 6 → ∀ x t, s.wa c = x :: t → rank s x ≤ m → blocked s c → False := by
    intro m
    induction m with
    | zero =>
      intro c hc x t hw hr hb
      obtain ⟨x', t', d, hw', ho⟩ := hb
      rw [hw] at hw'
      injection hw' with e1 e2
      subst e1
      have h1 := ownL_some ho
      have hd := e.k.rg x d h1
      have hd1 := hd.1
      have hd2 := hd.2
      have hn := e.k.n
      have hdn : (((d.toNat : Nat)) : Int) = d := by omega
      rcases h d.toNat (by omega) with h3 | ⟨y, r, d', hwd, _⟩
      · exact (e.d d.toNat (by omega) h3).2 x (by rw [hdn]; exact h1)
      · have := rank_lt (s := s) (d := d.toNat) (by omega) hwd (e.k.lt x d h1 y (by rw [hwd]; simp))
        omega
    | succ m ih =>
      intro c hc x t hw hr hb
      obtain ⟨x', t', d, hw', ho⟩ := hb
      rw [hw] at hw'
      injection hw' with e1 e2
      subst e1
      have h1 := ownL_some ho
      have hd := e.k.rg x d h1
      have hd1 := hd.1
      have hd2 := hd.2
      have hn := e.k.n
      have hdn : (((d.toNat : Nat)) : Int) = d := by omega
      rcases h d.toNat (by omega) with h3 | ⟨y, r, d', hwd, hod⟩
      · exact (e.d d.toNat (by omega) h3).2 x (by rw [hdn]; exact h1)
      · have := rank_lt (s := s) (d := d.toNat) (by omega) hwd (e.k.lt x d h1 y (by rw [hwd]; simp))
        exact ih d.toNat (by omega) y r hwd (by omega) ⟨y, r, d', hwd, hod⟩
  intro c hc
  rcases h c hc with h1 | ⟨x, t, d, hw, ho⟩
  · exact h1
  · exact (key (rank s x) c hc x t hw (Nat.le_refl _) ⟨x, t, d, hw, ho⟩).elim

theorem opL_ow (s : LkS) (dn : Nat → Bool) (c : Nat) : (opL s dn c).1.ow.length ≤ s.ow.length + 1 ∧ (opL s dn c).1.n = s.n := by
  obtain ⟨g1, g2⟩ := step_ow s c
  obtain ⟨g3, g4⟩ := drop_ow (stepL s c).2.2 c
  unfold opL; split
  · exact ⟨Nat.le_trans g3 g1, g4.trans g2⟩
  · exact ⟨g1, g2⟩
end Go.Gb
namespace Go.Gb
open Go.Proofs IntWalk

/-! ## LockRounds -/

def dnV (dn : Nat → Bool) : List Value := (List.range 6).map fun c => .bool (dn c)
theorem dnV_get (dn : Nat → Bool) {c : Nat} (hc : c < 6) : lget (dnV dn) c = some (.bool (dn c)) := by
  show (dnV dn)[c]? = _
  simp [dnV, hc]
theorem dnV_set (dn : Nat → Bool) {c : Nat} (hc : c < 6) : lput (dnV dn) c [.bool true] = dnV (dset dn c) := by
  show (dnV dn).set c (.bool true) = _
  apply List.ext_getElem?
  intro j
  rw [List.getElem?_set]
  by_cases hj : j < 6
  · have h1 : (dnV (dset dn c))[j]? = some (.bool (dset dn c j)) := dnV_get _ hj
    have h2 : (dnV dn)[j]? = some (.bool (dn j)) := dnV_get _ hj
    rw [h1, h2]
    by_cases e : c = j
    · subst e; rw [if_pos rfl, if_pos (by simpa [dnV] using hj)]; simp [dset]
    · rw [if_neg e]; simp [dset, Ne.symm e]
  · have h1 : (dnV (dset dn c))[j]? = none := List.getElem?_eq_none (by simp [dnV]; omega)
    have h2 : (dnV dn)[j]? = none := List.getElem?_eq_none (by simp [dnV]; omega)
    rw [h1, h2]
    by_cases e : c = j
    · rw [if_pos e, if_neg (by simp [dnV]; omega)]
    · rw [if_neg e]

section
variable {h0 : Heap}

theorem LockRounds.L30.c {L t : Nat} {s0 : LkS} {dn0 : Nat → Bool} {F : Nat → Prop} (ht : t < 36) (e0 : LkE s0 dn0) (hs : sum6 (fP s0 dn0) + t ≤ 36 ∨ ∀ c, c < 6 → dn0 c = true)
    (next : ∀ (h : Heap) (s : LkS) (dn : Nat → Bool), LkI h0 F h L s → LkE s dn → s.ow.length ≤ 60 + 6 * (t + 1) → (sum6 (fP s dn) + (t + 1) ≤ 36 ∨ ∀ c, c < 6 → dn c = true) → gabionlaw24_LockRounds.L28 (some ⟨L, 0, none⟩) ((t + 1 : Nat) : Int) (dnV dn) h fun v h' => v = .bool true ∧ Part h0 h') :
    ∀ (k c : Nat) (h : Heap) (s : LkS) (dn : Nat → Bool), c + k = 6 → LkI h0 F h L s → LkE s dn → s.ow.length ≤ 60 + 6 * t + c → (∀ j, dn0 j = true → dn j = true) → (sum6 (fP s dn) < sum6 (fP s0 dn0) ∨ ((s, dn) = (s0, dn0) ∧ ∀ j, j < c → dn0 j = true ∨ blocked s0 j)) →
      gabionlaw24_LockRounds.L30 (some ⟨L, 0, none⟩) (t : Int) (c : Int) (dnV dn) h fun v h' => v = .bool true ∧ Part h0 h' := by
  intro k
  induction k with
  | zero =>
    intro c h s dn hc i e ho hm hp
    apply gabionlaw24_LockRounds.L30.ok
    refine xsIf_f (by simp; omega) ?_
    rw [i64_succ (n := 100) (by omega) (by decide)]
    refine next h s dn i e (by omega) ?_
    rcases hs with hs | hs
    · rcases hp with hp | ⟨hp, hb⟩
      · left; omega
      · right
        injection hp with e1 e2
        subst e1 e2
        exact e0.free fun c hc' => hb c (by omega)
    · exact .inr fun c hc => hm c (hs c hc)
  | succ k ih =>
    intro c h s dn hc i e ho hm hp
    have hc6 : c < 6 := by omega
    have hcc : ((c : Int)).toNat = c := by omega
    obtain ⟨eop, hop⟩ := e.op hc6
    obtain ⟨g1, _⟩ := opL_ow s dn c
    have ok : s.ok (c : Int) := ⟨by omega, by have := e.k.n; omega⟩
    have hzero : (stepL s (c : Int)).2.1 = 0 := by
      rcases stepL_cases s ok with ⟨_, e⟩ | ⟨_, _, _, _, _, e⟩ | ⟨_, _, _, _, e⟩ <;> rw [e]
    have hm' : ∀ j, dn0 j = true → (opL s dn c).2 j = true := by
      intro j hj
      unfold opL; split
      · show dset dn c j = true
        unfold dset; split
        · rfl
        · exact hm j hj
      · exact hm j hj
    have hp' : sum6 (fP (opL s dn c).1 (opL s dn c).2) < sum6 (fP s0 dn0) ∨ (((opL s dn c).1, (opL s dn c).2) = (s0, dn0) ∧ ∀ j, j < c + 1 → dn0 j = true ∨ blocked s0 j) := by
      rcases hp with hp | ⟨hp, hb⟩
      · left
        rcases hop with h1 | ⟨h1, _⟩
        · omega
        · rw [h1]; exact hp
      · injection hp with e1 e2
        subst e1 e2
        rcases hop with h1 | ⟨h1, h2⟩
        · exact .inl h1
        · right
          rw [h1]
          refine ⟨rfl, fun j hj => ?_⟩
          by_cases ej : j = c
          · rw [ej]; exact h2
          · exact hb j (by omega)
    apply gabionlaw24_LockRounds.L30.ok
    refine xsIf_t (by simp; omega) (lock_Locks_Step.c i.d (by omega) fun h1 w1 st1 => ⟨_, _, rfl, ?_⟩)
    have i1 := i.step w1 st1
    rw [hzero]
    refine xsIf_f rfl (xsIf_intro (fun ha => ?_) (fun ha => ?_))
    · have eo : opL s dn c = ((dropL (stepL s c).2.2 c).2, dset dn c) := by unfold opL; rw [if_pos ha]
      refine ⟨⟨by omega, by show (c : Int) < (6 : Int); omega⟩, by simp [dnV]; omega, lock_Locks_Drop.c i1.d fun h2 w2 st2 => ⟨_, rfl, ?_⟩⟩
      have i2 := i1.step w2 st2
      rw [i64_succ (n := 100) (by omega) (by decide), show 0 + (c : Int).toNat * 1 = c by omega, dnV_set dn hc6]
      rw [eo] at eop hm' hp' g1
      dsimp only at g1
      exact ih (c + 1) h2 _ _ (by omega) i2 eop (by omega) hm' hp'
    · have eo : opL s dn c = ((stepL s c).2.2, dn) := by unfold opL; rw [if_neg (by rw [ha]; decide)]
      rw [i64_succ (n := 100) (by omega) (by decide)]
      rw [eo] at eop hm' hp' g1
      dsimp only at g1
      exact ih (c + 1) h1 _ _ (by omega) i1 eop (by omega) hm' hp'

theorem LockRounds.L28.c {L : Nat} {F : Nat → Prop} : ∀ (k t : Nat) (h : Heap) (s : LkS) (dn : Nat → Bool), t + k = 36 → LkI h0 F h L s → LkE s dn → s.ow.length ≤ 60 + 6 * t → (sum6 (fP s dn) + t ≤ 36 ∨ ∀ c, c < 6 → dn c = true) →
    gabionlaw24_LockRounds.L28 (some ⟨L, 0, none⟩) (t : Int) (dnV dn) h fun v h' => v = .bool true ∧ Part h0 h' := by
  intro k
  induction k with
  | zero =>
    intro t h s dn ht i e ho hs
    apply gabionlaw24_LockRounds.L28.ok
    have all : ∀ c, c < 6 → dn c = true := by
      rcases hs with hs | hs
      · intro c hc
        have h0 : sum6 (fP s dn) = 0 := by omega
        unfold sum6 at h0
        have hz : fP s dn c = 0 := by
          match c, hc with
          | 0, _ => omega
          | 1, _ => omega
          | 2, _ => omega
          | 3, _ => omega
          | 4, _ => omega
          | 5, _ => omega
        unfold fP at hz
        cases hd : dn c with
        | true => rfl
        | false => rw [hd] at hz; simp at hz
      · exact hs
    refine xsIf_f (by simp; omega) ⟨by simp [dnV], _, dnV_get dn (by decide), _, dnV_get dn (by decide), _, dnV_get dn (by decide), _, dnV_get dn (by decide), _, dnV_get dn (by decide), _, dnV_get dn (by decide), ?_, i.part⟩
    rw [all 0 (by decide), all 1 (by decide), all 2 (by decide), all 3 (by decide), all 4 (by decide), all 5 (by decide)]
    rfl
  | succ k ih =>
    intro t h s dn ht i e ho hs
    apply gabionlaw24_LockRounds.L28.ok
    refine xsIf_t (by simp; omega) ?_
    exact LockRounds.L30.c (F := F) (by omega) e hs (fun h2 s2 dn2 i2 e2 ho2 hs2 => ih (t + 1) h2 s2 dn2 (by omega) i2 e2 ho2 hs2) 6 0 h s dn (by omega) i e (by omega) (fun _ h => h) (.inr ⟨rfl, fun j hj => absurd hj (Nat.not_lt_zero _)⟩)

theorem LockRounds.L19.c {L : Nat} {F : Nat → Prop} {s : LkS} {h : Heap} {Q : Value → Heap → Prop} {t57 : Option Addr} {tn tc : Nat} {t58 t59 : Int} {c : Nat} (i : LkI h0 F h L s) (k : LkK s) (hc : c < 6)
    (next : gabionlaw24_LockRounds.L15 (some ⟨L, 0, none⟩) t57 tn tc t58 t59 ((c + 1 : Nat) : Int) h Q) :
    ∀ (m steps : Nat) (at0 : Int), steps + m = 8 → (at0 = -1 ∨ (s.ok at0 ∧ steps + walkN s at0 ≤ 6)) → gabionlaw24_LockRounds.L19 (some ⟨L, 0, none⟩) at0 (steps : Int) t57 tn tc t58 t59 (c : Int) h Q := by
  have stop : ∀ steps : Nat, gabionlaw24_LockRounds.L19 (some ⟨L, 0, none⟩) (-1) (steps : Int) t57 tn tc t58 t59 (c : Int) h Q := by
    intro steps
    apply gabionlaw24_LockRounds.L19.ok
    refine xsIf_f (by simp) ?_
    rw [i64_succ (n := 100) (by omega) (by decide)]
    exact next
  intro m
  induction m with
  | zero =>
    intro steps at0 hm hor
    rcases hor with rfl | ⟨_, hle⟩
    · exact stop steps
    · omega
  | succ m ih =>
    intro steps at0 hm hor
    rcases hor with rfl | ⟨ok, hle⟩
    · exact stop steps
    · have h1 := ok.1
      obtain ⟨w1, w2⟩ := k.walk ok
      apply gabionlaw24_LockRounds.L19.ok
      refine xsIf_t (by simp; omega) (xsIf_f (by simp; omega) (lock_Locks_Waits.c i.d ⟨_, rfl, xsIf_f (by simpa using w1) (gabionlaw24_LockRounds.J23.ok (lock_Locks_Waits.c i.d ⟨_, rfl, ?_⟩))⟩))
      rw [i64_succ (n := 100) (by omega) (by decide)]
      refine ih (steps + 1) _ (by omega) ?_
      rcases w2 with w2 | ⟨w2, w3⟩
      · exact .inl w2
      · exact .inr ⟨w2, by omega⟩

theorem LockRounds.L15.c {L : Nat} {F : Nat → Prop} {s : LkS} {h : Heap} {Q : Value → Heap → Prop} {t57 : Option Addr} {tn tc : Nat} {t58 : Int} {j : Nat} (i : LkI h0 F h L s) (k : LkK s) (hj : j < 100)
    (next : gabionlaw24_LockRounds.L11 (some ⟨L, 0, none⟩) t57 tn tc t58 ((j + 1 : Nat) : Int) h Q) :
    ∀ (m c : Nat), c + m = 6 → gabionlaw24_LockRounds.L15 (some ⟨L, 0, none⟩) t57 tn tc t58 (j : Int) (c : Int) h Q := by
  intro m
  induction m with
  | zero =>
    intro c hc
    apply gabionlaw24_LockRounds.L15.ok
    refine xsIf_f (by simp; omega) ?_
    rw [i64_succ (n := 100) hj (by decide)]
    exact next
  | succ m ih =>
    intro c hc
    have ok : s.ok (c : Int) := ⟨by omega, by have := k.n; omega⟩
    apply gabionlaw24_LockRounds.L15.ok
    refine xsIf_t (by simp; omega) ?_
    exact LockRounds.L19.c i k (by omega) (ih (c + 1) (by omega)) 8 0 (c : Int) (by omega) (.inr ⟨ok, by have := k.walk0 ok; omega⟩)

theorem LockRounds.L11.c {L : Nat} {F : Nat → Prop} {t57 : Option Addr} {tn tc : Nat} {ps : List Int} (hr : readsAt h0 t57 (ints .u8 ps)) (hrg : ∀ x ∈ ps, 0 ≤ x ∧ x ≤ 255) (hn : ps.length ≤ 60) (htn : ps.length ≤ tn) :
    ∀ (m j : Nat) (h : Heap) (s : LkS), j + m = ps.length → LkI h0 F h L s → LkK s → s.ow.length ≤ j → (∀ c, c < 6 → (s.wa c).length ≤ 5) →
      gabionlaw24_LockRounds.L11 (some ⟨L, 0, none⟩) t57 tn tc (ps.length : Int) (j : Int) h fun v h' => v = .bool true ∧ Part h0 h' := by
  intro m
  induction m with
  | zero =>
    intro j h s hj i k ho hw
    apply gabionlaw24_LockRounds.L11.ok
    refine xsIf_f (by simp; omega) ?_
    refine LockRounds.L28.c (F := F) 36 0 h s (fun _ => false) (by omega) i ⟨k, fun c _ hd => by cases hd⟩ (by omega) (.inl ?_)
    unfold sum6 fP
    have a0 := hw 0 (by decide)
    have a1 := hw 1 (by decide)
    have a2 := hw 2 (by decide)
    have a3 := hw 3 (by decide)
    have a4 := hw 4 (by decide)
    have a5 := hw 5 (by decide)
    simp
    omega
  | succ m ih =>
    intro j h s hj i k ho hw
    have hlt : j < ps.length := by omega
    have hx : ps[j]? = some ps[j] := by simp [hlt]
    obtain ⟨x0, x1⟩ := hrg ps[j] (List.mem_of_getElem? hx)
    have er : irem ps[j] 6 = ps[j] % 6 := by unfold irem; rw [Int.tmod_eq_emod_of_nonneg (by omega)]
    have ok : s.ok (ps[j] % 6) := ⟨by omega, by have := k.n; omega⟩
    apply gabionlaw24_LockRounds.L11.ok
    refine xsIf_t (by simp; omega) ⟨⟨by omega, by omega⟩, reads_ints (i := j) (readsAt_part hr i.part) hlt fun b o hc => ⟨ps[j], by rw [Int.toNat_natCast]; exact hc j _ hx, ?_⟩⟩
    rw [er, i64_in _ (by omega)]
    refine lock_Locks_Step.c i.d (by omega) fun h1 w1 st1 => ⟨_, _, rfl, ?_⟩
    have i1 := i.step w1 st1
    have k1 := k.step ok
    obtain ⟨g1, _⟩ := step_ow s (ps[j] % 6)
    refine LockRounds.L15.c i1 k1 (by omega) (ih (j + 1) h1 _ (by omega) i1 k1 (by omega) fun c hc => ?_) 6 0 (by omega)
    rcases stepL_cases s ok with ⟨_, e⟩ | ⟨_, _, _, _, _, e⟩ | ⟨x, t, hwa, _, e⟩
    · rw [e]; exact hw c hc
    · rw [e]; exact hw c hc
    · rw [e]
      show (wset s.wa (ps[j] % 6).toNat t c).length ≤ 5
      unfold wset; split
      · have := hw (ps[j] % 6).toNat (by omega)
        rw [hwa] at this
        simp at this; omega
      · exact hw c hc

theorem ss_length (l : List Int) : (ss l).length ≤ l.length := by
  induction l with
  | nil => simp [ss]
  | cons x t ih => show (ins x (ss t)).length ≤ _; have := ins_length x (ss t); simp; omega

theorem LockRounds.L5.c {L : Nat} {picks : Option Addr} {pn pc : Nat} {t36 : Option Addr} {tn tc : Nat} {al : List (List Int)} {ps : List Int} (hp : ps.length = pn) (hpc : pn ≤ pc) (hpr : readsAt h0 picks (ints .u8 ps)) (hrg : ∀ x ∈ ps, 0 ≤ x ∧ x ≤ 255)
    (hr : ∀ i (hi : i < al.length), ∃ b o a n c, t36 = some ⟨b, o, none⟩ ∧ h0.cell b (o + i * 1) = some (.slice a n c) ∧ (al[i]'hi).length = n ∧ n ≤ c ∧ readsAt h0 a (ints .i64 (al[i]'hi))) (h6 : al.length ≤ 6) (htn : al.length ≤ tn) :
    ∀ (m j : Nat) (h : Heap) (F : Nat → Prop) (s : LkS), j + m = al.length → LkI h0 F h L s → LkK s → s.ow = [] → (∀ c, (s.wa c).length ≤ 5) → (∀ c, j ≤ c → s.wa c = []) →
      gabionlaw24_LockRounds.L5 picks pn pc (some ⟨L, 0, none⟩) t36 tn tc (al.length : Int) (j : Int) h fun v h' => v = .bool true ∧ Part h0 h' := by
  intro m
  induction m with
  | zero =>
    intro j h F s hj i k ho hw he
    apply gabionlaw24_LockRounds.L5.ok
    have hmin : imin (pn : Int) 60 = ((min pn 60 : Nat) : Int) := by rw [imin_eq]; omega
    refine xsIf_f (by simp; omega) ⟨⟨by rw [hmin]; omega, by rw [hmin]; omega⟩, ?_⟩
    have el : (ps.take 60).length = min pn 60 := by rw [List.length_take, hp]; omega
    rw [hmin, slBase0', show (((min pn 60 : Nat) : Int) - 0).toNat = (ps.take 60).length by rw [el]; omega]
    have hr6 : readsAt h0 picks (ints .u8 (ps.take 60)) := by
      rcases hpr with e | ⟨b1, o1, rfl, hc⟩
      · left
        have : ps = [] := List.eq_nil_of_length_eq_zero (by have := congrArg List.length e; rw [ints_length] at this; exact this)
        rw [this]; rfl
      · refine .inr ⟨b1, o1, rfl, fun j hj => ?_⟩
        rw [ints_length, List.length_take] at hj
        rw [hc j (by rw [ints_length]; omega), ints_get, ints_get, List.getElem?_take, if_pos (by omega)]
    exact LockRounds.L11.c hr6 (fun x hx => hrg x (List.mem_of_mem_take hx)) (by rw [el]; omega) (Nat.le_refl _) (ps.take 60).length 0 h s (by omega) i k (by rw [ho]; simp) fun c _ => hw c
  | succ m ih =>
    intro j h F s hj i k ho hw he
    have hlt : j < al.length := by omega
    obtain ⟨bb, oo, la, ln, lc, ht, e1, e2, e3, e4⟩ := hr j hlt
    have ok : s.ok (j : Int) := ⟨by omega, by have := k.n; omega⟩
    have hjj : ((j : Int)).toNat = j := by omega
    have hmin : imin (ln : Int) 5 = ((min ln 5 : Nat) : Int) := by rw [imin_eq]; omega
    have hsub : (imin (ln : Int) 5 - 0).toNat = ((al[j]'hlt).take 5).length := by rw [hmin, List.length_take, e2]; omega
    have hr5 : readsAt h0 la (ints .i64 ((al[j]'hlt).take 5)) := by
      rcases e4 with e | ⟨b1, o1, rfl, hc⟩
      · left
        have : al[j]'hlt = [] := List.eq_nil_of_length_eq_zero (by have := congrArg List.length e; rw [ints_length] at this; exact this)
        rw [this]; rfl
      · refine .inr ⟨b1, o1, rfl, fun q hq => ?_⟩
        rw [ints_length, List.length_take] at hq
        rw [hc q (by rw [ints_length]; omega), ints_get, ints_get, List.getElem?_take, if_pos (by omega)]
    have h5 : ((al[j]'hlt).take 5).length ≤ 5 := by rw [List.length_take]; omega
    have eask : askL s (j : Int) ((al[j]'hlt).take 5) = (0, ⟨s.n, s.ow, wset s.wa j (ss ((al[j]'hlt).take 5))⟩) := by
      unfold askL
      rw [if_pos ok, hjj, if_neg (by rw [he j (Nat.le_refl _)]; simp)]
      have : hasL s (j : Int) = [] := by unfold hasL; rw [if_pos ok, ho]; rfl
      rw [this]
      have : tooLow [] (ss ((al[j]'hlt).take 5)) = false := rfl
      rw [this]; rfl
    apply gabionlaw24_LockRounds.L5.ok
    refine xsIf_t (by simp; omega) ⟨⟨by omega, by omega⟩, bb, oo, ht, la, ln, lc, by rw [Int.toNat_natCast]; exact i.part.cell e1, ⟨by rw [hmin]; omega, by rw [hmin]; omega⟩, ?_⟩
    rw [hsub, slBase0']
    refine lock_Locks_Ask.c i.d i.lv (readsAt_part hr5 i.part) (by omega) fun h1 F1 w1 st1 => ⟨_, rfl, ?_⟩
    have i1 := i.step w1 st1
    rw [eask] at i1 ⊢
    refine xsIf_f rfl ?_
    rw [i64_succ (n := 100) (by omega) (by decide)]
    refine ih (j + 1) h1 F1 _ (by omega) i1 ⟨k.n, by rw [ho]; exact List.nodup_nil, fun x c hx => (by have hx : (x, c) ∈ s.ow := hx; rw [ho] at hx; cases hx), fun x c hx => (by have hx : (x, c) ∈ s.ow := hx; rw [ho] at hx; cases hx), fun c hc => ?_⟩ ho (fun c => ?_) fun c hc => ?_
    · show SS (wset s.wa j _ c)
      unfold wset; split
      · exact SS_ss _
      · exact k.ss c hc
    · show (wset s.wa j _ c).length ≤ 5
      unfold wset; split
      · exact Nat.le_trans (ss_length _) h5
      · exact hw c
    · show wset s.wa j _ c = []
      unfold wset; rw [if_neg (by omega)]
      exact he c (by omega)

theorem gabionlaw24_LockRounds.law (v0 v1 : Value) (h : Heap) (hv0 : Okc Try.prog h 8 49 [v0]) (hv1 : Okc Try.prog h 8 50 [v1]) :
    C Try.prog 5 #[v0, v1] h fun v h' => v = .bool true ∧ Part h h' := by
  obtain ⟨a, n, cp, dss, rfl, hncp, hcap, hdl, hds, hrd⟩ := okc_slice (d := 7) (e := 32) (sz := 1) Try.underlying49 (by kernel_rfl) (by decide) hv0
  obtain ⟨pa, pn, pc, ps, rfl, hpc, _, hpl, hprg, hpr⟩ := okc_ints (k := .u8) Try.underlying50 Try.underlying5 (by kernel_rfl) hv1
  have hask : ∀ ds ∈ dss, ∃ (l : List Int) (la : Option Addr) (ln lc : Nat), ds = [.slice la ln lc] ∧ l.length = ln ∧ ln ≤ lc ∧ readsAt h la (ints .i64 l) := by
    intro ds hd
    obtain ⟨hl, ho⟩ := hds ds hd
    match ds, hl with
    | [x0], _ =>
      obtain ⟨la, ln, lc, l, rfl, h1, _, h3, _, h5⟩ := okc_ints (k := .i64) Try.underlying32 Try.underlying3 (by kernel_rfl) ho
      exact ⟨l, la, ln, lc, rfl, h3, h1, h5⟩
  refine gabionlaw24_LockRounds.ok (lock_New.i (h0 := h) (by decide) (by decide) (Part.refl _) fun h1 F L i1 _ => ⟨_, _, rfl, gabionlaw24_wakes.c fun h3 p3 => ⟨_, rfl, xsIf_f rfl (xsIf_f rfl (xsIf_f rfl ?_))⟩⟩)
  have i3 := i1.side p3
  apply gabionlaw24_LockRounds.J4.ok
  have hmin : imin (n : Int) 6 = ((min n 6 : Nat) : Int) := by rw [imin_eq]; omega
  refine ⟨⟨by rw [hmin]; omega, by rw [hmin]; omega⟩, ?_⟩
  rw [hmin, slBase0', show (((min n 6 : Nat) : Int) - 0).toNat = min n 6 by omega]
  have hx : ∃ al : List (List Int), al.length = min n 6 ∧ ∀ i (hi : i < al.length), ∃ b o la ln lc, a = some ⟨b, o, none⟩ ∧ h.cell b (o + i * 1) = some (.slice la ln lc) ∧ (al[i]'hi).length = ln ∧ ln ≤ lc ∧ readsAt h la (ints .i64 (al[i]'hi)) := by
    have hex : ∀ i, i < n → ∃ l : List Int, ∃ b o la ln lc, a = some ⟨b, o, none⟩ ∧ h.cell b (o + i * 1) = some (.slice la ln lc) ∧ l.length = ln ∧ ln ≤ lc ∧ readsAt h la (ints .i64 l) := by
      intro i hi
      have hds' : dss[i]? = some (dss[i]'(by omega)) := List.getElem?_eq_getElem _
      obtain ⟨l, la, ln, lc, e1, e2, e3, e4⟩ := hask _ (List.mem_of_getElem? hds')
      have hfl := dss_get dss i 0 _ (fun ds hd => (hds ds hd).1) hds' (by decide)
      have hflen : dss.flatten.length = n * 1 := by rw [dss_len dss fun ds hd => (hds ds hd).1, hdl]
      rcases hrd with e | ⟨b, o, rfl, hc⟩
      · rw [e] at hflen; simp at hflen; omega
      · refine ⟨l, b, o, la, ln, lc, rfl, ?_, e2, e3, e4⟩
        have := hc (i * 1) (by omega)
        rw [Nat.add_zero] at hfl
        rw [this, hfl, e1]; rfl
    refine ⟨(List.range (min n 6)).attach.map fun i => Classical.choose (hex i.1 (by have := List.mem_range.1 i.2; omega)), by simp, fun i hi => ?_⟩
    have hi' : i < min n 6 := by simpa using hi
    have := Classical.choose_spec (hex i (by omega))
    simpa using this
  obtain ⟨al, hal, has⟩ := hx
  rw [← hal]
  refine LockRounds.L5.c hpl hpc hpr (fun x hx => ?_) has (by omega) (Nat.le_refl _) al.length 0 h3 F _ (by omega) i3 ⟨rfl, List.nodup_nil, fun x c hx => (by cases hx), fun x c hx => (by cases hx), fun c _ => List.Pairwise.nil⟩ rfl (fun c => Nat.zero_le _) fun c _ => rfl
  have := hprg x hx
  have e1 : IntKind.min .u8 = 0 := by decide
  have e2 : IntKind.max .u8 = 255 := by decide
  omega
end
end Go.Gb
