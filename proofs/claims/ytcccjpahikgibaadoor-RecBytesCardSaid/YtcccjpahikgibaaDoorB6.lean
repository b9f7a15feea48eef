/- Own texts for the seat: Pa5 Bd1 Rc0 Pa6 Pa7 Pa8 Pa9. -/
import Derived.Test.YtcccjpahikgibaaDoorB5
import Derived.Test.YtcccjpahikgibaaDoorLayJ
import Derived.Test.YtcccjpahikgibaaDoorA12
import Derived.Test.YtcccjpahikgibaaDoorA7
import Derived.Test.YtcccjpahikgibaaDoorA9
import Derived.Test.YtcccjpahikgibaaDoorA13
import Derived.Test.YtcccjpahikgibaaDoorB2
import Derived.Test.YtcccjpahikgibaaDoorW
import Derived.Test.YtcccjpahikgibaaDoorB3
set_option linter.unusedVariables false
set_option linter.unusedSimpArgs false
set_option linter.unnecessarySimpa false
set_option linter.deprecated false
namespace Go.Gb
open Go.Proofs Go.RowKit Go.Shelf IntWalk

/-! ## Text, and the document's Parse and Text -/

theorem Tryd.joinX : Builder.Extra Tryd.prog Tryd.join_ren where
  sizeBuilder := by kernel_rfl
  liesBuilder := by kernel_rfl
  t5 := Tryd.underlying5
  a5 := Tryd.isAgg5
  z5 := Tryd.sizeOf5
  v5 := Tryd.zeroValue5
  infoByte := by kernel_rfl
  cellsByte := by kernel_rfl
  sizeByte := by kernel_rfl
  neB5 := by decide

def joinL (l : List ByteArray) : List UInt8 := Lib.join (l.map (·.data.toList)) [47]

theorem Pts.at {h : Heap} {a : Option Addr} {n c : Nat} {l : List ByteArray} {K : Nat → Nat → Prop} (p : Pts h a n c l) {i : Nat} (hi : i < l.length) (hk : ∀ b o, h.cell b (o + i * 1) = some (.string l[i]) → K b o) : atBase a K := by
  refine reads_base p.reads (by rw [List.length_map]; omega) fun b o hc => hk b o ?_
  rw [hc i (by rw [List.length_map]; exact hi), List.getElem?_map, List.getElem?_eq_getElem hi]; rfl

theorem join.c {h : Heap} {a : Option Addr} {n c : Nat} {l : List ByteArray} {Q : Value → Heap → Prop} (p : Pts h a n c l) (hn : n ≤ 1000000) (hl : (joinL l).length ≤ 1000000) (hq : Q (.string (mkB (joinL l))) h) :
    C Tryd.prog 33 #[.slice a n c, .string slashB] h Q := by
  intro w hs
  have hlen := p.len
  have done : ∀ (e : Ending) (w' : World), e = .returned (.string (mkB (joinL l))) → Below w.heap.size w w' → ∃ v h', e = .returned v ∧ Q v h' ∧ Post h w h' w' := fun e w' he hb => (⟨.string (mkB (joinL l)), h, he, hq, fun k o e => (hb.block k ((Array.getElem?_eq_some_iff.1 (hs k o e)).1)).trans (hs k o e), hb.size, fun k hk _ => hb.block k hk, fun k hk => .inl hk, hb.os, hb.output, hb.tape⟩)
  by_cases h0 : n = 0
  · subst h0
    have e0 : l = [] := List.eq_nil_of_length_eq_zero hlen
    subst e0
    refine (Any.strings_Join_none Tryd.join Tryd.joinX a c slashB w).mono ?_
    rintro e w' ⟨rfl, rfl⟩
    exact done _ _ rfl (Below.refl _ _)
  · rcases p.reads with hr | ⟨b, o, rfl, hc⟩
    · have : l = [] := by simpa using hr
      rw [this] at hlen; simp at hlen; omega
    · have hcell : ∀ (j : Nat) x, l[j]? = some x → w.cell? ⟨b, o + j, none⟩ = some (.string x) := by
        intro j x hj
        have hlt : j < l.length := (List.getElem?_eq_some_iff.1 hj).1
        have := hc j (by rw [List.length_map]; exact hlt)
        rw [List.getElem?_map, hj] at this
        exact cell?_sub hs this
      have hbk : b < w.heap.size := by
        have := hcell 0 l[0] (by rw [List.getElem?_eq_getElem])
        unfold World.cell? at this
        split at this
        · rename_i hx; exact (Array.getElem?_eq_some_iff.1 hx).1
        · cases this
      have := Any.strings_Join Tryd.join Tryd.joinX b o c l slashB w hcell hbk (by omega) (by have := p.le; omega) (by show (joinL l).length ≤ _; omega)
      rw [hlen] at this
      refine this.mono ?_
      rintro e w' ⟨rfl, hb⟩
      exact done _ _ rfl hb

theorem mkB_size (l : List UInt8) : (mkB l).size = l.length := by show l.toArray.size = _; simp

end Go.Gb
namespace Go.Gb
open Go.Proofs Go.RowKit Go.Shelf IntWalk

/-! ## strings.Builder -/

def bytesV (l : List UInt8) : List Value := l.map fun x => Value.int .u8 x.toNat
theorem bytesV_length (l : List UInt8) : (bytesV l).length = l.length := by simp [bytesV]
theorem bytesV_append (l m : List UInt8) : bytesV l ++ bytesV m = bytesV (l ++ m) := by simp [bytesV]
theorem bytesV_one (l : List UInt8) : oneCells (bytesV l) = true := oneCells_of fun v hv => by obtain ⟨x, _, rfl⟩ := List.mem_map.1 hv; rfl

/-- A builder with these bytes; F: where its bytes may lie. -/
structure Bd (F : Nat → Prop) (h : Heap) (b : Nat) (l : List UInt8) : Prop where
  nF : ¬ F b
  at' : ∃ (p : Option Addr) (a : Option Addr) (c : Nat), (p = none ∨ p = some ⟨b, 0, none⟩) ∧ (a = none ∨ l ≠ []) ∧ h b = some (.cells #[.pointer p, .slice a l.length c] 90 (0, 0)) ∧ Sl F h 5 1 a l.length c (bytesV l)

theorem Bd.new {h : Heap} {b : Nat} (F : Nat → Prop) (hF : ¬ F b) : Bd F (upd h b (.cells #[.pointer none, .slice none 0 0] 90 (0, 0))) b [] :=
  ⟨hF, none, none, 0, .inl rfl, .inl rfl, upd_same _ _ _, Sl.nil _ _ _ _⟩

theorem Bd.keep {F : Nat → Prop} {h h' : Heap} {b : Nat} {l : List UInt8} (w : Bd F h b l) (e : ∀ k, h k ≠ none → h' k = h k) : Bd F h' b l := by
  obtain ⟨hF, p, a, c, hp, hnz, hb, hs⟩ := w
  exact ⟨hF, p, a, c, hp, hnz, by rw [e b (by rw [hb]; simp), hb], hs.keep (fun _ h => h) fun k _ hn => e k hn⟩

theorem Tryd.b72 : Builder.X72 Tryd.prog Tryd.join_ren := Tryd.joinX.toX72

/-- copyCheck: behind it the builder knows where it is. -/
theorem copyCheck.c {F : Nat → Prop} {h : Heap} {b : Nat} {l : List UInt8} {Q : Value → Heap → Prop} (w : Bd F h b l)
    (hq : ∀ a c h', h' b = some (.cells #[.pointer (some ⟨b, 0, none⟩), .slice a l.length c] 90 (0, 0)) → Sl F h' 5 1 a l.length c (bytesV l) → (∀ k, k ≠ b → h' k = h k) → Q (.tuple #[]) h') :
    C Tryd.prog 70 #[.pointer (some ⟨b, 0, none⟩)] h Q := by
  obtain ⟨hF, p, a, c, hp, hnz, hb, hs⟩ := w
  intro w0 hsub
  have hw := hsub _ _ hb
  rcases hp with rfl | rfl
  · refine (Any.Builder_copyCheck_fresh { Tryd.join with } Tryd.b72 b w0 (by rw [cell?_of hw]; rfl) (by simp [World.shape?, hw]; rfl) (by simp [World.frozen?, hw])).mono ?_
    rintro e w' ⟨rfl, rfl⟩
    have hlt := (Array.getElem?_eq_some_iff.1 hw).1
    refine ⟨_, upd h b (.cells #[.pointer (some ⟨b, 0, none⟩), .slice a l.length c] 90 (0, 0)), rfl, hq a c _ (upd_same _ _ _) (hs.keep (fun _ h => h) fun k hk _ => upd_other _ _ fun e => hF (by rw [← e]; exact hk)) (fun k hk => upd_other _ _ hk), ?_⟩
    refine ⟨?_, by show w0.heap.size ≤ (w0.heap.modify _ _).size; rw [Array.size_modify]; exact Nat.le_refl _, ?_, ?_, rfl, rfl, rfl⟩
    · intro k o hk
      by_cases e : k = b
      · subst e
        rw [upd_same] at hk; cases hk
        show (w0.heap.modify k _)[k]? = _
        rw [Array.getElem?_modify, if_pos rfl, hw]
        rfl
      · rw [upd_other _ _ e] at hk
        rw [Below.heap_setCell _ _ _ _ e]; exact hsub k o hk
    · intro k hk hn
      exact Below.heap_setCell _ _ _ _ fun e => by rw [e, hb] at hn; cases hn
    · intro k hk
      by_cases e : k = b
      · left; rw [e, hb]; simp
      · rw [upd_other _ _ e] at hk; exact .inl hk
  · refine (Any.Builder_copyCheck_used { Tryd.join with } Tryd.b72 b w0 (by rw [cell?_of hw]; rfl)).mono ?_
    rintro e w' ⟨rfl, rfl⟩
    exact ⟨_, h, rfl, hq a c h hb hs (fun _ _ => rfl), hsub, Nat.le_refl _, fun _ _ _ => rfl, fun k hk => .inl hk, rfl, rfl, rfl⟩

/-- append of a text's bytes to an owner's bytes. -/
theorem Sl.appendS {F : Nat → Prop} {h : Heap} {T : TypeId} {n c : Nat} {a : Option Addr} {l : List UInt8} {s : ByteArray} {K : Option Addr → Nat → Nat → Heap → Prop} (w : Sl F h T 1 a n c (bytesV l))
    (hsz : cellSize Tryd.prog T = 1) (hz : (cellZero Tryd.prog T).length = 1) (hcap : (2 * (n + s.size) + 192) * cellBytes Tryd.prog T ≤ 2 ^ 48)
    (hk : ∀ a' c' F' h', Sl F' h' T 1 a' (n + s.size) c' (bytesV (l ++ s.data.toList)) → Step F h F' h' → K a' (n + s.size) c' h') : xsAppS Tryd.prog T h a n c s K := by
  have hlen : (bytesV s.data.toList).length = s.size * 1 := by rw [bytesV_length, bytes_len, Nat.mul_one]
  have wlen := w.len
  refine ⟨bytesV s.data.toList, rfl, by rw [hsz]; exact hlen, bytesV_one _, ?_, ?_⟩
  · intro hc
    rw [hsz]
    rcases w.place with ⟨rfl, rfl, rfl⟩ | ⟨b, cs, rfl, h1, h2, h3, h4, h5⟩
    · left
      have hm : s.size = 0 := by omega
      have hn : s.data.toList = [] := List.eq_nil_of_length_eq_zero (by rw [bytes_len]; exact hm)
      refine ⟨rfl, hm, ?_⟩
      rw [hm] at hk ⊢
      exact hk _ _ _ _ (by rw [hn, List.append_nil]; exact w) (Step.refl _ _)
    · right
      refine ⟨b, 0, rfl, ⟨cs, T, 0, 0, h2, by omega, .inr (Nat.zero_le _)⟩, hk _ _ _ _ ⟨by rw [← bytesV_append, List.length_append, wlen, hlen]; omega, .inr ⟨b, _, rfl, h1, by simp [Heap.put, h2, putObj]; rfl, ?_, hc, ?_⟩⟩ (Step.put h1 _ _)⟩
      · simp [setL_length, h3]
      · rw [← bytesV_append, ← h5]
        have := setL_append (bytesV s.data.toList) cs.toList (0 + n * 1) (by rw [hlen]; simp; omega)
        rw [hlen] at this
        have e1 : (n + s.size) * 1 = 0 + n * 1 + s.size * 1 := by omega
        rw [e1]
        simpa using this
  · intro hc
    rw [hsz]
    refine ⟨?_, bytesV l, by rw [wlen], w.reads, ?_⟩
    · exact Nat.le_trans (Nat.mul_le_mul_right _ (nextcap_le hc)) hcap
    · intro b c' hb hc'
      refine hk _ _ (fun k => F k ∨ k = b) _ ⟨by rw [← bytesV_append, List.length_append, wlen, hlen]; omega, .inr ⟨b, _, rfl, .inr rfl, upd_same _ _ _, ?_, hc', ?_⟩⟩ (Step.new hb _)
      · have hzl : (zeros Tryd.prog T (c' - (n + s.size))).length = c' - (n + s.size) := by
          unfold zeros; simp [hz]
        simp only [List.size_toArray, List.length_append, wlen, hlen, hzl]
        omega
      · have e1 : (n + s.size) * 1 = (bytesV l ++ bytesV s.data.toList).length := by rw [List.length_append, wlen, hlen]; omega
        rw [e1, ← bytesV_append]
        simp only [List.take_append_of_le_length (Nat.le_refl _), List.take_length]

theorem u8_facts : cellSize Tryd.prog 5 = 1 ∧ (cellZero Tryd.prog 5).length = 1 ∧ cellBytes Tryd.prog 5 = 1 := ⟨by kernel_rfl, by kernel_rfl, by kernel_rfl⟩

/-- What a writing call leaves: the builder with more bytes; all else as it was. -/
abbrev Wrote (F : Nat → Prop) (h : Heap) (b : Nat) (l : List UInt8) (h' : Heap) : Prop := (∃ F', (∀ k, F' k → F k ∨ h k = none) ∧ Bd F' h' b l) ∧ ∀ k, ¬ F k → k ≠ b → h k ≠ none → h' k = h k

theorem writeString.c {F : Nat → Prop} {h : Heap} {b : Nat} {l : List UInt8} {s : ByteArray} {Q : Value → Heap → Prop} (w : Bd F h b l) (hpos : 0 < s.size) (hn : l.length + s.size ≤ 1000000)
    (hq : ∀ h', Wrote F h b (l ++ s.data.toList) h' → Q (.tuple #[.int .i64 s.size, Value.nilIface]) h') : C Tryd.prog 52 #[.pointer (some ⟨b, 0, none⟩), .string s] h Q := by
  have hF := w.nF
  have hbn : h b ≠ none := by obtain ⟨_, p, a, c, _, _, hb, _⟩ := w; rw [hb]; simp
  refine strings_Builder_WriteString.ok (copyCheck.c w fun a c h1 hb hs hk0 => ⟨b, 0, rfl, a, l.length, c, by unfold Heap.cell; rw [hb]; rfl, ?_⟩)
  obtain ⟨z1, z2, z3⟩ := u8_facts
  refine hs.appendS z1 z2 (by rw [z3]; omega) fun a' c' F' h2 w2 st => ⟨b, 0, rfl, ?_, hq _ ?_⟩
  · exact ⟨_, _, 0, 0, (st.keep b hF (by rw [hb]; simp)).trans hb, by simp, .inr (Nat.zero_le _)⟩
  have hb2 : h2 b = some (.cells #[.pointer (some ⟨b, 0, none⟩), .slice a l.length c] 90 (0, 0)) := (st.keep b hF (by rw [hb]; simp)).trans hb
  have hF' : ¬ F' b := fun e => by
    rcases st.sub b e with h3 | h3
    · exact hF h3
    · rw [hb] at h3; cases h3
  have hput : (h2.put b (0 + 1) [.slice a' (l.length + s.size) c']) b = some (.cells #[.pointer (some ⟨b, 0, none⟩), .slice a' (l ++ s.data.toList).length c'] 90 (0, 0)) := by
    rw [List.length_append, bytes_len]
    simp [Heap.put, hb2, putObj, setL]
  refine ⟨⟨F', fun k hk => ?_, hF', some ⟨b, 0, none⟩, a', c', .inr rfl, .inr (fun e => by have := bytes_len s; rw [(List.append_eq_nil_iff.1 e).2] at this; simp at this; omega), hput, ?_⟩, fun k hk hkb hn => ?_⟩
  · rcases st.sub k hk with h3 | h3
    · exact .inl h3
    · refine .inr ?_
      by_cases e : k = b
      · rw [e] at h3; rw [hb] at h3; cases h3
      · rw [← hk0 k e]; exact h3
  · rw [List.length_append, bytes_len]
    exact w2.keep (fun _ h => h) fun k hk _ => put_other _ _ _ fun e => hF' (by rw [← e]; exact hk)
  · rw [put_other _ _ _ hkb, st.keep k hk (by rw [hk0 k hkb]; exact hn), hk0 k hkb]

theorem writeByte.c {F : Nat → Prop} {h : Heap} {b : Nat} {l : List UInt8} {x : UInt8} {Q : Value → Heap → Prop} (w : Bd F h b l) (hn : l.length + 1 ≤ 1000000)
    (hq : ∀ h', Wrote F h b (l ++ [x]) h' → Q Value.nilIface h') : C Tryd.prog 57 #[.pointer (some ⟨b, 0, none⟩), .int .u8 (x.toNat : Int)] h Q := by
  have hF := w.nF
  refine strings_Builder_WriteByte.ok (copyCheck.c w fun a c h1 hb hs hk0 => ⟨b, 0, rfl, a, l.length, c, by unfold Heap.cell; rw [hb]; rfl, fun b2 hb2 => ?_⟩)
  obtain ⟨z1, z2, z3⟩ := u8_facts
  refine hs.snoc (new := [.int .u8 x.toNat]) hb2 z1 (by decide) rfl rfl z2 (by rw [z3]; omega) fun a' c' F' h2 w2 st hFF => ⟨b, 0, rfl, ?_, hq _ ?_⟩
  · exact ⟨_, _, 0, 0, (st.keep b hF (by rw [hb]; simp)).trans hb, by simp, .inr (Nat.zero_le _)⟩
  have hb2 : h2 b = some (.cells #[.pointer (some ⟨b, 0, none⟩), .slice a l.length c] 90 (0, 0)) := (st.keep b hF (by rw [hb]; simp)).trans hb
  have hF' : ¬ F' b := fun e => by
    rcases st.sub b e with h3 | h3
    · exact hF h3
    · rw [hb] at h3; cases h3
  have hput : (h2.put b (0 + 1) [.slice a' (l.length + 1) c']) b = some (.cells #[.pointer (some ⟨b, 0, none⟩), .slice a' (l ++ [x]).length c'] 90 (0, 0)) := by
    rw [List.length_append, List.length_singleton]
    simp [Heap.put, hb2, putObj, setL]
  refine ⟨⟨F', fun k hk => ?_, hF', some ⟨b, 0, none⟩, a', c', .inr rfl, .inr (by simp), hput, ?_⟩, fun k hk hkb hn => ?_⟩
  · rcases st.sub k hk with h3 | h3
    · exact .inl h3
    · refine .inr ?_
      by_cases e : k = b
      · rw [e] at h3; rw [hb] at h3; cases h3
      · rw [← hk0 k e]; exact h3
  · rw [List.length_append, List.length_singleton, ← bytesV_append]
    exact w2.keep (fun _ h => h) fun k hk _ => put_other _ _ _ fun e => hF' (by rw [← e]; exact hk)
  · rw [put_other _ _ _ hkb, st.keep k hk (by rw [hk0 k hkb]; exact hn), hk0 k hkb]

theorem string.c {F : Nat → Prop} {h : Heap} {b : Nat} {l : List UInt8} {Q : Value → Heap → Prop} (w : Bd F h b l) (hn : l.length ≤ 1000000) (hq : ∀ h', (∀ k, ¬ F k → h' k = h k) → Q (.string (mkB l)) h') :
    C Tryd.prog 53 #[.pointer (some ⟨b, 0, none⟩)] h Q := by
  obtain ⟨hF, p, a, c, hp, hnz, hb, hs⟩ := w
  have hc : h.cell b (0 + 1) = some (.slice a l.length c) := by unfold Heap.cell; rw [hb]; rfl
  have us : ∀ p : Option Addr, p = a → xsUs 5 h p (l.length : Int) fun (s : ByteArray) (h' : Heap) => Q (.string s) h' := by
    rintro p rfl
    refine ⟨fun e => ?_, fun e => ?_⟩
    · have hl : l = [] := List.eq_nil_of_length_eq_zero (by omega)
      have := hq h (fun _ _ => rfl)
      rw [hl] at this; exact this
    · have hpos : 0 < l.length := by omega
      rcases hs.place with ⟨_, h0, _⟩ | ⟨g, cs, hg, hFg, hgb, hsz, hle, htk⟩
      · omega
      · refine ⟨g, l, cs, hg, rfl, by omega, hgb, by omega, fun j x hj => ?_, hq _ fun k hk => Heap.del_ne fun e => hk (by rw [e]; exact hFg)⟩
        have hjl : j < l.length := (List.getElem?_eq_some_iff.1 hj).1
        have h1 : (cs.toList.take (l.length * 1))[j]? = (bytesV l)[j]? := by rw [htk]
        rw [List.getElem?_take, if_pos (by omega)] at h1
        rw [← Array.getElem?_toList, h1]
        unfold bytesV
        rw [List.getElem?_map, hj]; rfl
  have sd : ∀ K : Option Addr → Prop, K a → xsSd a c K := by
    intro K hK
    refine ⟨fun e => by rw [e] at hK; exact hK, fun e => ⟨?_, hK⟩⟩
    rcases hs.place with ⟨h0, _, _⟩ | ⟨g, cs, hg, hFg, hgb, hsz, hle, htk⟩
    · exact absurd h0 e
    · have : 0 < l.length := List.length_pos_iff.2 (hnz.resolve_left e)
      omega
  refine strings_Builder_String.ok ⟨b, 0, rfl, b, 0, rfl, ⟨a, l.length, c, hc, sd _ ⟨a, l.length, c, hc, us a rfl⟩, a, l.length, c, hc, sd _ (us a rfl)⟩, a, l.length, c, hc, a, l.length, c, hc, sd _ (us a rfl)⟩

/-- A builder of a call that began at h0. -/
structure BdP (h0 h : Heap) (b : Nat) (l : List UInt8) : Prop where
  part : Part h0 h
  b0 : h0 b = none
  bd : Bd (fun k => h0 k = none ∧ k ≠ b) h b l

theorem BdP.new {h0 h : Heap} {b : Nat} (p : Part h0 h) (hb : h b = none) : BdP h0 (upd h b (.cells #[.pointer none, .slice none 0 0] 90 (0, 0))) b [] :=
  ⟨p.upd' (p.none hb) _, p.none hb, Bd.new _ fun e => e.2 rfl⟩

theorem BdP.wrote {h0 h h' : Heap} {b : Nat} {l l' : List UInt8} (w : BdP h0 h b l) (v : Wrote (fun k => h0 k = none ∧ k ≠ b) h b l' h') : BdP h0 h' b l' := by
  obtain ⟨⟨F', hF, w'⟩, hk⟩ := v
  have hbn : h b ≠ none := by obtain ⟨_, p, a, c, _, _, hb, _⟩ := w.bd; rw [hb]; simp
  refine ⟨fun k o ho => ?_, w.b0, ?_⟩
  · have h1 : k ≠ b := fun e => by rw [e, w.b0] at ho; cases ho
    have h2 := w.part k o ho
    rw [hk k (fun e => by rw [e.1] at ho; cases ho) h1 (by rw [h2]; simp)]; exact h2
  · obtain ⟨h1, p, a, c, hp, hnz, hb, hs⟩ := w'
    refine ⟨fun e => e.2 rfl, p, a, c, hp, hnz, hb, hs.keep (fun k hk => ?_) fun _ _ _ => rfl⟩
    have hne : k ≠ b := fun e => h1 (by rw [← e]; exact hk)
    rcases hF k hk with h3 | h3
    · exact h3
    · exact ⟨w.part.none h3, hne⟩

theorem BdP.more {h0 h h' : Heap} {b : Nat} {l : List UInt8} (w : BdP h0 h b l) (p : Part h h') : BdP h0 h' b l :=
  ⟨w.part.trans p, w.b0, w.bd.keep fun k hk => by
    obtain ⟨o, ho⟩ := Option.ne_none_iff_exists'.1 hk
    rw [ho]; exact p _ _ ho⟩

theorem BdP.str {h0 h : Heap} {b : Nat} {l : List UInt8} {s : ByteArray} {Q : Value → Heap → Prop} (w : BdP h0 h b l) (hpos : 0 < s.size) (hn : l.length + s.size ≤ 1000000)
    (hq : ∀ h', BdP h0 h' b (l ++ s.data.toList) → Q (.tuple #[.int .i64 s.size, Value.nilIface]) h') : C Tryd.prog 52 #[.pointer (some ⟨b, 0, none⟩), .string s] h Q :=
  writeString.c w.bd hpos hn fun h' v => hq h' (w.wrote v)
theorem BdP.byte {h0 h : Heap} {b : Nat} {l : List UInt8} {x : UInt8} {Q : Value → Heap → Prop} (w : BdP h0 h b l) (hn : l.length + 1 ≤ 1000000)
    (hq : ∀ h', BdP h0 h' b (l ++ [x]) → Q Value.nilIface h') : C Tryd.prog 57 #[.pointer (some ⟨b, 0, none⟩), .int .u8 (x.toNat : Int)] h Q :=
  writeByte.c w.bd hn fun h' v => hq h' (w.wrote v)
theorem BdP.done {h0 h : Heap} {b : Nat} {l : List UInt8} {Q : Value → Heap → Prop} (w : BdP h0 h b l) (hn : l.length ≤ 1000000) (hq : ∀ h', Part h0 h' → Q (.string (mkB l)) h') :
    C Tryd.prog 53 #[.pointer (some ⟨b, 0, none⟩)] h Q :=
  string.c w.bd hn fun h' hk => hq h' fun k o ho => by
    rw [hk k fun e => by rw [e.1] at ho; cases ho]; exact w.part k o ho
end Go.Gb
namespace Go.Gb
open Go.Proofs IntWalk

/-! ## Words with marks (no program in sight) -/

def word7 (s : List UInt8) (m : UInt8) : List UInt8 := s.take 7 ++ List.replicate (7 - min s.length 7) 0 ++ [m]
theorem word7_length (s : List UInt8) (m : UInt8) : (word7 s m).length = 8 := by
  unfold word7; simp; omega

def mkF : Nat → List UInt8 → UInt8 → UInt8 → List UInt8
  | 0, _, _, _ => []
  | n + 1, s, m, d => if s = [] then [] else word7 s m ++ mkF n (s.drop 7) (m + d) d

theorem mkF_eq : ∀ (n n' : Nat) (s : List UInt8) (m d : UInt8), s.length ≤ n → s.length ≤ n' → mkF n s m d = mkF n' s m d
  | 0, 0, _, _, _, _, _ => rfl
  | 0, n' + 1, s, m, d, h, _ => by
    have : s = [] := List.eq_nil_of_length_eq_zero (by omega)
    subst this; rfl
  | n + 1, 0, s, m, d, _, h => by
    have : s = [] := List.eq_nil_of_length_eq_zero (by omega)
    subst this; rfl
  | n + 1, n' + 1, s, m, d, h, h' => by
    unfold mkF
    by_cases e : s = []
    · rw [if_pos e, if_pos e]
    · have hl : 0 < s.length := List.length_pos_iff.2 e
      rw [if_neg e, if_neg e, mkF_eq n n' (s.drop 7) (m + d) d (by rw [List.length_drop]; omega) (by rw [List.length_drop]; omega)]

/-- marked -/
def mk (s : List UInt8) (m d : UInt8) : List UInt8 := mkF s.length s m d
theorem mk_nil (m d : UInt8) : mk [] m d = [] := rfl
theorem mk_cons {s : List UInt8} (h : s ≠ []) (m d : UInt8) : mk s m d = word7 s m ++ mk (s.drop 7) (m + d) d := by
  have hl : 0 < s.length := List.length_pos_iff.2 h
  unfold mk
  obtain ⟨n, hn⟩ : ∃ n, s.length = n + 1 := ⟨s.length - 1, by omega⟩
  rw [hn, mkF, if_neg h]
  congr 1
  exact mkF_eq _ _ _ _ _ (by rw [List.length_drop]; omega) (Nat.le_refl _)

theorem mk_length : ∀ (n : Nat) (s : List UInt8) (m d : UInt8), s.length ≤ n → (mk s m d).length = 8 * ((s.length + 6) / 7)
  | 0, s, m, d, h => by
    have : s = [] := List.eq_nil_of_length_eq_zero (by omega)
    subst this; rfl
  | n + 1, s, m, d, h => by
    by_cases e : s = []
    · subst e; rfl
    · have hl : 0 < s.length := List.length_pos_iff.2 e
      rw [mk_cons e, List.length_append, word7_length, mk_length n _ _ _ (by rw [List.length_drop]; omega), List.length_drop]
      omega

def plF : Nat → List UInt8 → List UInt8
  | 0, _ => []
  | n + 1, s => if 8 ≤ s.length then s.take 7 ++ plF n (s.drop 8) else []
theorem plF_eq : ∀ (n n' : Nat) (s : List UInt8), s.length ≤ n → s.length ≤ n' → plF n s = plF n' s
  | 0, 0, _, _, _ => rfl
  | 0, n' + 1, s, h, _ => by unfold plF; rw [if_neg (by omega)]
  | n + 1, 0, s, _, h => by unfold plF; rw [if_neg (by omega)]
  | n + 1, n' + 1, s, h, h' => by
    unfold plF
    split
    · rw [plF_eq n n' (s.drop 8) (by rw [List.length_drop]; omega) (by rw [List.length_drop]; omega)]
    · rfl
/-- plain -/
def pl (s : List UInt8) : List UInt8 := plF s.length s
theorem pl_short {s : List UInt8} (h : s.length < 8) : pl s = [] := by
  unfold pl
  cases hs : s.length with
  | zero => rfl
  | succ n => unfold plF; rw [if_neg (by omega)]
theorem pl_cons {s : List UInt8} (h : 8 ≤ s.length) : pl s = s.take 7 ++ pl (s.drop 8) := by
  unfold pl
  obtain ⟨n, hn⟩ : ∃ n, s.length = n + 1 := ⟨s.length - 1, by omega⟩
  rw [hn, plF, if_pos h]
  congr 1
  exact plF_eq _ _ _ (by rw [List.length_drop]; omega) (Nat.le_refl _)
theorem pl_word (w r : List UInt8) (h : w.length = 8) : pl (w ++ r) = w.take 7 ++ pl r := by
  rw [pl_cons (by rw [List.length_append]; omega), List.take_append_of_le_length (by omega), List.drop_append_of_le_length (by omega), List.drop_eq_nil_of_le (by omega)]; rfl

def padTo (s : List UInt8) : List UInt8 := s ++ List.replicate (7 * ((s.length + 6) / 7) - s.length) 0
theorem pl_mk : ∀ (n : Nat) (s : List UInt8) (m d : UInt8), s.length ≤ n → pl (mk s m d) = padTo s
  | 0, s, m, d, h => by
    have : s = [] := List.eq_nil_of_length_eq_zero (by omega)
    subst this; rfl
  | n + 1, s, m, d, h => by
    by_cases e : s = []
    · subst e; rfl
    · have hl : 0 < s.length := List.length_pos_iff.2 e
      have hw : (word7 s m).take 7 = s.take 7 ++ List.replicate (7 - min s.length 7) 0 := by
        unfold word7
        rw [List.take_append_of_le_length (by simp; omega), List.take_of_length_le (by simp; omega)]
      rw [mk_cons e, pl_word _ _ (word7_length _ _), pl_mk n _ _ _ (by rw [List.length_drop]; omega), hw]
      unfold padTo
      by_cases h7 : s.length ≤ 7
      · rw [List.take_of_length_le h7, List.drop_eq_nil_of_le h7]
        have e1 : 7 * ((s.length + 6) / 7) = 7 := by omega
        rw [e1, Nat.min_eq_left h7]
        simp
      · rw [Nat.min_eq_right (by omega), List.length_drop]
        have e1 : 7 * ((s.length + 6) / 7) - s.length = 7 * ((s.length - 7 + 6) / 7) - (s.length - 7) := by omega
        rw [e1, Nat.sub_self, List.replicate_zero, List.append_nil, ← List.append_assoc, List.take_append_drop]
end Go.Gb
namespace Go.Gb
open Go.Proofs IntWalk

/-! ## The document's Parse -/

/-- A piece goes on behind what was read of it. -/
def pre (part : List UInt8) : List (List UInt8) → List (List UInt8)
  | [] => [part]
  | p :: ps => (part ++ p) :: ps

theorem mkB_append (a b : List UInt8) : mkB a ++ mkB b = mkB (a ++ b) := by
  apply ByteArray.ext
  simp [mkB, ByteArray.data_append]

theorem mkB_nil_iff (l : List UInt8) : mkB l = ⟨#[]⟩ ↔ l = [] := by
  constructor
  · intro h
    have := congrArg (fun b : ByteArray => b.data.toList) h
    simpa using this
  · rintro rfl; rfl


end Go.Gb
namespace Go.Gb
open Go.Proofs IntWalk

/-! ## The document's Text; what a parsed way is; same; wakes -/

end Go.Gb
namespace Go.Gb
open Go.Proofs IntWalk

/-! ## The way of a way's text (no program in sight) -/

/-! A path of names. -/
end Go.Gb
namespace Go.Gb
open Go.Proofs IntWalk

/-! ## PathParses, PathBack, PathNames -/

def wsame (v v' : Wy) : Bool := decide (v.abs = v'.abs ∧ v.dir = v'.dir ∧ v.parts = v'.parts)

theorem same4.c {h : Heap} {a a' : Option Addr} {c c' : Nat} {l l' : List ByteArray} {d0 d1 d2 d3 : Bool} {Q : Value → Heap → Prop} (p : Pts h a l.length c l) (p' : Pts h a' l.length c' l') (hl : l.length ≤ 1000)
    (hq : Q (.bool (decide (l = l'))) h) : ∀ (n i : Nat), i + n = l.length → l.take i = l'.take i → gabionlaw18_same.L4 (l.length : Int) (i : Int) d0 a l.length c d1 d2 a' l.length c' d3 h Q := by
  have hl' := p'.len
  intro n
  induction n with
  | zero =>
    intro i hi ht
    refine gabionlaw18_same.L4.ok (xsIf_f (by simp; omega) ?_)
    rw [List.take_of_length_le (by omega), List.take_of_length_le (by omega)] at ht
    rw [decide_eq_true ht] at hq; exact hq
  | succ n ih =>
    intro i hi ht
    have h1 : i < l.length := by omega
    have h2 : i < l'.length := by omega
    refine gabionlaw18_same.L4.ok (xsIf_t (by simp; omega) ⟨⟨by omega, by omega⟩, p.at h1 fun b o hc => ⟨⟨by omega, by omega⟩, p'.at h2 fun b' o' hc' => ⟨l[i], by rw [Int.toNat_natCast]; exact hc, l'[i], by rw [Int.toNat_natCast]; exact hc', xsIf_intro (fun e => ?_) fun e => ?_⟩⟩⟩)
    · have e : l[i] ≠ l'[i] := by simpa using e
      have : l ≠ l' := fun h => by subst h; exact e rfl
      rw [decide_eq_false this] at hq; exact hq
    · have e : l[i] = l'[i] := by simpa using e
      rw [i64_in _ (by omega)]
      refine ih (i + 1) (by omega) ?_
      rw [List.take_succ, List.take_succ, ht, List.getElem?_eq_getElem h1, List.getElem?_eq_getElem h2, e]

theorem same.c {h : Heap} {v v' : Wy} {a a' : Option Addr} {c c' : Nat} {Q : Value → Heap → Prop} (p : Pts h a v.parts.length c v.parts) (p' : Pts h a' v'.parts.length c' v'.parts) (hl : v.parts.length ≤ 1000)
    (hq : Q (.bool (wsame v v')) h) : C Tryd.prog 14 #[.agg #[.bool v.abs, .slice a v.parts.length c, .bool v.dir], .agg #[.bool v'.abs, .slice a' v'.parts.length c', .bool v'.dir]] h Q := by
  unfold wsame at hq
  have no : ¬ (v.abs = v'.abs ∧ v.dir = v'.dir ∧ v.parts = v'.parts) → Q (.bool false) h := fun hn => by rw [decide_eq_false hn] at hq; exact hq
  refine gabionlaw18_same.ok (xsIf_intro (fun e1 => no ?_) fun e1 => xsIf_intro (fun e2 => no ?_) fun e2 => xsIf_intro (fun e3 => no ?_) fun e3 => ?_)
  · rintro ⟨h1, _, _⟩; rw [h1] at e1; simp at e1
  · rintro ⟨_, h1, _⟩; rw [h1] at e2; simp at e2
  · rintro ⟨_, _, h1⟩; rw [h1] at e3; simp at e3
  · have e1 : v.abs = v'.abs := by simpa using e1
    have e2 : v.dir = v'.dir := by simpa using e2
    have e3 : v.parts.length = v'.parts.length := by
      have : (v.parts.length : Int) = v'.parts.length := by simpa using e3
      omega
    refine gabionlaw18_same.J3.ok ?_
    rw [← e3] at p' ⊢
    refine same4.c p p' hl ?_ v.parts.length 0 (by omega) rfl
    have : decide (v.parts = v'.parts) = decide (v.abs = v'.abs ∧ v.dir = v'.dir ∧ v.parts = v'.parts) := by simp [e1, e2]
    rw [this]; exact hq

end Go.Gb
