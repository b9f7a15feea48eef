/- Own texts for the seat: Pa5 Pa6 Pa7 Pa8 Pa9. -/
import Derived.Test.YtcccjpahikgibaaDoorB3
import Derived.Test.YtcccjpahikgibaaDoorLayJ
import Derived.Test.YtcccjpahikgibaaDoorA13
import Derived.Test.YtcccjpahikgibaaDoorB1
set_option linter.unusedVariables false
set_option linter.unusedSimpArgs false
set_option linter.unnecessarySimpa false
set_option linter.deprecated false
namespace Go.Gb
open Go.Proofs Go.RowKit Go.Shelf IntWalk

/-! ## Text, and the document's Parse and Text -/

theorem Tryd.joinX : Builder.Extra Tryd.prog Tryd.join_ren where
  sizeBuilder := by kernel_rfl
  liesBuilder := by kernel_rfl
  t5 := Tryd.underlying5
  a5 := Tryd.isAgg5
  z5 := Tryd.sizeOf5
  v5 := Tryd.zeroValue5
  infoByte := by kernel_rfl
  cellsByte := by kernel_rfl
  sizeByte := by kernel_rfl
  neB5 := by decide

def joinL (l : List ByteArray) : List UInt8 := Lib.join (l.map (·.data.toList)) [47]

theorem joinL_snoc (l : List ByteArray) (x : ByteArray) : joinL (l ++ [x]) = if l = [] then x.data.toList else joinL l ++ 47 :: x.data.toList := by
  unfold joinL
  cases l with
  | nil => simp [Lib.join_one]
  | cons y r =>
    rw [if_neg (by simp), List.cons_append, List.map_cons, List.map_append, Lib.join_cons, show List.map (fun x : ByteArray => x.data.toList) (y :: r) = y.data.toList :: r.map (fun x : ByteArray => x.data.toList) from rfl, Lib.join_cons]
    unfold Lib.joinTail
    simp

theorem Pts.at {h : Heap} {a : Option Addr} {n c : Nat} {l : List ByteArray} {K : Nat → Nat → Prop} (p : Pts h a n c l) {i : Nat} (hi : i < l.length) (hk : ∀ b o, h.cell b (o + i * 1) = some (.string l[i]) → K b o) : atBase a K := by
  refine reads_base p.reads (by rw [List.length_map]; omega) fun b o hc => hk b o ?_
  rw [hc i (by rw [List.length_map]; exact hi), List.getElem?_map, List.getElem?_eq_getElem hi]; rfl

theorem join.c {h : Heap} {a : Option Addr} {n c : Nat} {l : List ByteArray} {Q : Value → Heap → Prop} (p : Pts h a n c l) (hn : n ≤ 1000000) (hl : (joinL l).length ≤ 1000000) (hq : Q (.string (mkB (joinL l))) h) :
    C Tryd.prog 33 #[.slice a n c, .string slashB] h Q := by
  intro w hs
  have hlen := p.len
  have done : ∀ (e : Ending) (w' : World), e = .returned (.string (mkB (joinL l))) → Below w.heap.size w w' → ∃ v h', e = .returned v ∧ Q v h' ∧ Post h w h' w' := fun e w' he hb => (⟨.string (mkB (joinL l)), h, he, hq, fun k o e => (hb.block k ((Array.getElem?_eq_some_iff.1 (hs k o e)).1)).trans (hs k o e), hb.size, fun k hk _ => hb.block k hk, fun k hk => .inl hk, hb.os, hb.output, hb.tape⟩)
  by_cases h0 : n = 0
  · subst h0
    have e0 : l = [] := List.eq_nil_of_length_eq_zero hlen
    subst e0
    refine (Any.strings_Join_none Tryd.join Tryd.joinX a c slashB w).mono ?_
    rintro e w' ⟨rfl, rfl⟩
    exact done _ _ rfl (Below.refl _ _)
  · rcases p.reads with hr | ⟨b, o, rfl, hc⟩
    · have : l = [] := by simpa using hr
      rw [this] at hlen; simp at hlen; omega
    · have hcell : ∀ (j : Nat) x, l[j]? = some x → w.cell? ⟨b, o + j, none⟩ = some (.string x) := by
        intro j x hj
        have hlt : j < l.length := (List.getElem?_eq_some_iff.1 hj).1
        have := hc j (by rw [List.length_map]; exact hlt)
        rw [List.getElem?_map, hj] at this
        exact cell?_sub hs this
      have hbk : b < w.heap.size := by
        have := hcell 0 l[0] (by rw [List.getElem?_eq_getElem])
        unfold World.cell? at this
        split at this
        · rename_i hx; exact (Array.getElem?_eq_some_iff.1 hx).1
        · cases this
      have := Any.strings_Join Tryd.join Tryd.joinX b o c l slashB w hcell hbk (by omega) (by have := p.le; omega) (by show (joinL l).length ≤ _; omega)
      rw [hlen] at this
      refine this.mono ?_
      rintro e w' ⟨rfl, hb⟩
      exact done _ _ rfl hb

/-- P18.2 -/
def ptext (w : Wy) : ByteArray :=
  let x := mkB (joinL w.parts)
  if w.abs = true then if x ≠ ⟨#[]⟩ ∧ w.dir = true then slashB ++ x ++ slashB else slashB ++ x
  else if x = ⟨#[]⟩ then hereB else if w.dir = true then x ++ slashB else x

theorem mkB_size (l : List UInt8) : (mkB l).size = l.length := by show l.toArray.size = _; simp

theorem text.c {h : Heap} {w : Wy} {a : Option Addr} {n c : Nat} {Q : Value → Heap → Prop} (p : Pts h a n c w.parts) (hn : n ≤ 1000000) (hl : (joinL w.parts).length ≤ 1000000) (hq : Q (.string (ptext w)) h) :
    C Tryd.prog 15 #[.agg #[.bool w.abs, .slice a n c, .bool w.dir]] h Q := by
  refine path_Way_Text.ok (join.c p hn hl ⟨_, rfl, ?_⟩)
  have hx : (mkB (joinL w.parts)).size ≤ 1000000 := by rw [mkB_size]; exact hl
  have hx2 : (slashB ++ mkB (joinL w.parts)).size ≤ 1000001 := by rw [ByteArray.size_append]; show 1 + _ ≤ _; omega
  unfold ptext at hq
  dsimp only at hq
  generalize hX : mkB (joinL w.parts) = x at hq hx hx2
  have b1 : ((1 + x.size : Nat) : Int) ≤ 9223372036854775807 := by omega
  have b2 : ((x.size + 1 : Nat) : Int) ≤ 9223372036854775807 := by omega
  have b3 : (((slashB ++ x).size + 1 : Nat) : Int) ≤ 9223372036854775807 := by omega
  obtain ⟨ab, ps, d⟩ := w
  show xsIf ab (xsIf (decide (x ≠ ⟨#[]⟩)) (xsIf d _ _) _) _
  cases ab with
  | true =>
    refine xsIf_t rfl ?_
    by_cases hx0 : x = ⟨#[]⟩
    · refine xsIf_f (by simpa using hx0) (xsIf_t rfl ⟨b1, ?_⟩)
      rw [if_pos rfl, if_neg (fun h => h.1 hx0)] at hq; exact hq
    · refine xsIf_t (by simpa using hx0) ?_
      cases d with
      | true =>
        refine xsIf_t rfl ⟨b1, b3, ?_⟩
        rw [if_pos rfl, if_pos ⟨hx0, rfl⟩] at hq; exact hq
      | false =>
        refine xsIf_f rfl (xsIf_t rfl ⟨b1, ?_⟩)
        rw [if_pos rfl, if_neg (fun h => by cases h.2)] at hq; exact hq
  | false =>
    refine xsIf_f rfl (xsIf_f rfl ?_)
    rw [if_neg (by simp)] at hq
    by_cases hx0 : x = ⟨#[]⟩
    · refine xsIf_t (by simpa using hx0) ?_
      rw [if_pos hx0] at hq; exact hq
    · refine xsIf_f (by simpa using hx0) ?_
      rw [if_neg hx0] at hq
      cases d with
      | true => exact xsIf_t rfl ⟨b2, by rw [if_pos rfl] at hq; exact hq⟩
      | false => exact xsIf_f rfl (by rw [if_neg (by simp)] at hq; exact hq)
end Go.Gb
namespace Go.Gb
open Go.Proofs IntWalk

/-! ## The document's Parse -/

/-- A piece goes on behind what was read of it. -/
def pre (part : List UInt8) : List (List UInt8) → List (List UInt8)
  | [] => [part]
  | p :: ps => (part ++ p) :: ps

theorem pre_step (part : List UInt8) (b : UInt8) (l : List UInt8) (hb : b ≠ 47) : pre part (cutL (b :: l)) = pre (part ++ [b]) (cutL l) := by
  rw [cutL, if_neg hb]
  cases h : cutL l with
  | nil => have := (cutL_len l).1; rw [h] at this; simp at this
  | cons p ps => simp [pre]
theorem pre_cut (part l : List UInt8) : pre part (cutL (47 :: l)) = part :: pre [] (cutL l) := by
  rw [cutL, if_pos rfl]
  cases h : cutL l with
  | nil => have := (cutL_len l).1; rw [h] at this; simp at this
  | cons p ps => simp [pre]
theorem pre_nil (part : List UInt8) : pre part (cutL []) = [part] := by simp [cutL, pre]

theorem sext_one (s : ByteArray) {i : Nat} (hi : i < s.size) : sext s (i : Int) ((i + 1 : Nat) : Int) = mkB [s.get! i] := by
  rw [sext_mk]
  congr 1
  rw [List.take_succ, get_bytes hi, List.drop_append_of_le_length (by rw [List.length_take, bytes_len]; omega), List.drop_take]
  simp

theorem mkB_append (a b : List UInt8) : mkB a ++ mkB b = mkB (a ++ b) := by
  apply ByteArray.ext
  simp [mkB, ByteArray.data_append]

theorem drop_get {s : ByteArray} {i : Nat} (hi : i < s.size) : s.data.toList.drop i = s.get! i :: s.data.toList.drop (i + 1) := by
  have h1 := get_bytes hi
  have h2 : i < s.data.toList.length := by rw [bytes_len]; exact hi
  rw [List.drop_eq_getElem_cons h2]
  rw [List.getElem?_eq_getElem h2] at h1
  rw [Option.some.inj h1]

theorem mkB_nil_iff (l : List UInt8) : mkB l = ⟨#[]⟩ ↔ l = [] := by
  constructor
  · intro h
    have := congrArg (fun b : ByteArray => b.data.toList) h
    simpa using this
  · rintro rfl; rfl

section
variable {s : ByteArray} {h0 : Heap} {Q : Value → Heap → Prop} {R : Except Int Wy}

theorem rl9 (hs : s.size ≤ 256) (hq : ∀ (a : Option Addr) (c : Nat) (h' : Heap), Pts h' a (pend R).1.parts.length c (pend R).1.parts → Part h0 h' → Q (.tuple #[.agg #[.bool (pend R).1.abs, .slice a (pend R).1.parts.length c, .bool (pend R).1.dir], .int .i64 (pend R).2]) h') :
    ∀ (n i : Nat) (part : List UInt8) (v : Wy) (a : Option Addr) (c : Nat) (h : Heap), i + n = s.size + 1 → part.length ≤ i → v.parts.length ≤ i → Part h0 h →
      Sl (fun k => h0 k = none) h 9 1 a v.parts.length c (v.parts.map Value.string) →
      (0 < n → pall ((pre part (cutL (s.data.toList.drop i))).map mkB) v = R) → (n = 0 → R = .ok v) →
      gabionref18_Parse.L9 s (mkB part) (i : Int) false none 0 0 false false none 0 0 false v.abs a v.parts.length c v.dir h Q := by
  intro n
  induction n with
  | zero =>
    intro i part v a c h hn hp hv hP hS hR hE
    refine gabionref18_Parse.L9.ok (xsIf_f (by simp; omega) ?_)
    have hR' := hE rfl
    subst hR'
    exact hq a c h (Pts.of_sl hS rfl) hP
  | succ n ih =>
    intro i part v a c h hn hp hv hP hS hR _
    have hR := hR (by omega)
    have hi : i ≤ s.size := by omega
    -- a piece's end
    have fin : ∀ (hrest : pall (mkB part :: if i < s.size then (pre [] (cutL (s.data.toList.drop (i + 1)))).map mkB else []) v = R),
        gabionref18_Parse.J13 s (mkB part) (i : Int) false none 0 0 false false none 0 0 false v.abs a v.parts.length c v.dir h Q := by
      intro hrest
      have go : ∀ (v' : Wy) (a' : Option Addr) (c' : Nat) (h' : Heap), pstep v (mkB part) = .ok v' → v'.parts.length ≤ i + 1 → Part h0 h' → Sl (fun k => h0 k = none) h' 9 1 a' v'.parts.length c' (v'.parts.map Value.string) →
          gabionref18_Parse.L9 s ⟨#[]⟩ (IntKind.i64.wrap ((i : Int) + 1)) false none 0 0 false false none 0 0 false v'.abs a' v'.parts.length c' v'.dir h' Q := by
        intro v' a' c' h' hst hl' hP' hS'
        rw [i64_in _ (by omega)]
        rw [pall_ok hst] at hrest
        refine ih (i + 1) [] v' a' c' h' (by omega) (by simp) hl' hP' hS' (fun h0 => ?_) fun h0 => ?_
        · rw [if_pos (by omega)] at hrest; exact hrest
        · rw [if_neg (by omega)] at hrest; exact hrest.symm
      refine gabionref18_Parse.J13.ok (xsIf_intro (fun e1 => xsIf_intro (fun e2 => ?_) fun e2 => ?_) fun e1 => ?_)
      · have e1 : mkB part ≠ ⟨#[]⟩ := by simpa using e1
        have e2 : mkB part ≠ hereB := by simpa using e2
        have hne : ¬ (mkB part = ⟨#[]⟩ ∨ mkB part = hereB) := fun h => h.elim e1 e2
        have app : ¬ (nameE (mkB part) ≠ 0 ∧ mkB part ≠ upB) → gabionref18_Parse.J17 s (mkB part) (i : Int) false none 0 0 false false none 0 0 false v.abs a v.parts.length c v.dir h Q := by
          intro hok
          refine gabionref18_Parse.J17.ok fun b hb => ?_
          refine hS.snoc (new := [.string (mkB part)]) hb (by kernel_rfl) (by decide) rfl rfl (by kernel_rfl) (by rw [show cellBytes Tryd.prog 9 = 16 from by kernel_rfl]; omega) fun a' c' F' h' hS2 st hF => ?_
          have hst : pstep v (mkB part) = .ok ⟨v.abs, v.parts ++ [mkB part], false⟩ := by unfold pstep; rw [if_neg hne, if_neg hok]
          refine gabionref18_Parse.J18.ok (xsIf_f (by simpa using e1) ?_)
          have := go ⟨v.abs, v.parts ++ [mkB part], false⟩ a' c' h' hst (by show (v.parts ++ [mkB part]).length ≤ _; rw [List.length_append, List.length_singleton]; omega) (st.part hP fun k hk e => hk e) (by
            show Sl _ _ _ 1 a' (v.parts ++ [mkB part]).length c' ((v.parts ++ [mkB part]).map Value.string)
            rw [List.length_append, List.map_append]
            refine hS2.keep (fun k hk => ?_) fun _ _ _ => rfl
            rcases st.sub k hk with h1 | h1
            · exact h1
            · exact hP.none h1)
          have e3 : decide (mkB part = hereB) = false := by simpa using e2
          show gabionref18_Parse.L9 s ⟨#[]⟩ _ false none 0 0 false false none 0 0 false v.abs a' (v.parts.length + 1) c' (decide (mkB part = hereB)) h' Q
          rw [e3]
          have e4 : (v.parts ++ [mkB part]).length = v.parts.length + 1 := by rw [List.length_append, List.length_singleton]
          show gabionref18_Parse.L9 s ⟨#[]⟩ _ false none 0 0 false false none 0 0 false v.abs a' (v.parts.length + 1) c' false h' Q
          rw [← e4]; exact this
        refine ref_Name.c ⟨_, rfl, xsIf_intro (fun e3 => xsIf_intro (fun e4 => ?_) fun e4 => app ?_) fun e3 => app ?_⟩
        · have e3 : nameE (mkB part) ≠ 0 := by simpa using e3
          have e4 : mkB part ≠ upB := by simpa using e4
          have hr : R = .error (nameE (mkB part)) := by
            rw [← hrest]
            exact pall_err (by unfold pstep; rw [if_neg hne, if_pos ⟨e3, e4⟩])
          have := hq none 0 h (by rw [hr]; exact Pts.nil _) hP
          rw [hr] at this; exact this
        · simp only [decide_eq_false_iff_not] at e4; exact fun h => e4 h.2
        · simp only [decide_eq_false_iff_not] at e3; exact fun h => e3 h.1
      · have e2 : mkB part = hereB := by simpa using e2
        have e1 : mkB part ≠ ⟨#[]⟩ := by simpa using e1
        refine gabionref18_Parse.J18.ok (xsIf_f (by simpa using e1) ?_)
        have := go { v with dir := true } a c h (by unfold pstep; rw [if_pos (.inr e2)]) (by show v.parts.length ≤ _; omega) hP hS
        show gabionref18_Parse.L9 s ⟨#[]⟩ _ false none 0 0 false false none 0 0 false v.abs a v.parts.length c (decide (mkB part = hereB)) h Q
        rw [show decide (mkB part = hereB) = true from by simpa using e2]
        exact this
      · have e1 : mkB part = ⟨#[]⟩ := by simpa using e1
        refine gabionref18_Parse.J18.ok (xsIf_t (by simpa using e1) ?_)
        exact go { v with dir := true } a c h (by unfold pstep; rw [if_pos (.inl e1)]) (by show v.parts.length ≤ _; omega) hP hS
    refine gabionref18_Parse.L9.ok (xsIf_t (by simp; omega) (xsIf_intro (fun h1 => ?_) fun h1 => ?_))
    · have h1 : i < s.size := by have : (i : Int) < s.size := by simpa using h1
                                 omega
      have hg : bget s i = some (s.get! i) := by rw [bget_get h1, ← get_bytes h1, List.getElem?_eq_getElem]
      rw [drop_get h1] at hR
      refine ⟨s.get! i, by omega, hg, xsIf_intro (fun h2 => ?_) fun h2 => ?_⟩
      · have h2 : (s.get! i) ≠ 47 := by
          intro e; rw [e] at h2; simp at h2
        rw [pre_step _ _ _ h2] at hR
        have e1 : IntKind.i64.wrap ((i : Int) + 1) = ((i + 1 : Nat) : Int) := by rw [i64_in _ (by omega)]; omega
        have e2 : sext s (i : Int) (IntKind.i64.wrap ((i : Int) + 1)) = mkB [s.get! i] := by rw [e1]; exact sext_one s h1
        refine ⟨by rw [e1]; omega, by rw [e1]; omega, ?_, ?_⟩
        · rw [e2, mkB_size, mkB_size]; simp; omega
        · rw [e2, e1, mkB_append]
          exact ih (i + 1) (part ++ [s.get! i]) v a c h (by omega) (by simp; omega) (by omega) hP hS (fun _ => hR) fun h0 => by omega
      · have h2 : (s.get! i) = 47 := by
          have h2 : ¬ ((s.get! i).toNat : Int) ≠ 47 := by simpa using h2
          rw [← UInt8.toNat_inj]
          show (s.get! i).toNat = 47
          omega
        rw [h2, pre_cut] at hR
        refine fin ?_
        rw [if_pos h1]
        exact hR
    · have h1 : i = s.size := by have : ¬ (i : Int) < s.size := by simpa using h1
                                 omega
      have e0 : s.data.toList.drop i = [] := List.drop_eq_nil_of_le (by rw [bytes_len]; omega)
      rw [e0, pre_nil] at hR
      refine fin ?_
      rw [if_neg (by omega)]
      exact hR
end

theorem ref_Parse.c {s : ByteArray} {h : Heap} {Q : Value → Heap → Prop} (hs : s.size < 1000000) (hq : ParsedQ s h Q) : C Tryd.prog 12 #[.string s] h Q := by
  have h0 : (s.size : Int) = 0 ↔ s = ⟨#[]⟩ := by
    constructor
    · intro e
      have : s.data = #[] := Array.eq_empty_of_size_eq_zero (by show s.size = 0; omega)
      cases s; simp_all
    · rintro rfl; rfl
  refine gabionref18_Parse.ok (xsIf_intro (fun e1 => ?_) fun e1 => xsIf_intro (fun e2 => ?_) fun e2 => ?_)
  · exact hq noWy 13 none 0 h (by unfold pparse; rw [if_pos (h0.1 (by simpa using e1))]) (Pts.nil _) (Part.refl _)
  · have e1 : s ≠ ⟨#[]⟩ := fun e => by rw [decide_eq_false_iff_not] at e1; exact e1 (h0.2 e)
    have e2 : 256 < s.size := by have : (256 : Int) < s.size := by simpa using e2
                                 omega
    exact hq noWy 9 none 0 h (by unfold pparse; rw [if_neg e1, if_pos e2]) (Pts.nil _) (Part.refl _)
  · have e1 : s ≠ ⟨#[]⟩ := fun e => by rw [decide_eq_false_iff_not] at e1; exact e1 (h0.2 e)
    have e2 : s.size ≤ 256 := by have : ¬ (256 : Int) < s.size := by simpa using e2
                                 omega
    have hpos : 0 < s.size := by
      rcases Nat.eq_zero_or_pos s.size with e | e
      · exact absurd (h0.1 (by omega)) e1
      · exact e
    have hg : bget s 0 = some (s.get! 0) := by rw [bget_get hpos, ← get_bytes hpos, List.getElem?_eq_getElem]
    have hab : decide (((s.get! 0).toNat : Int) = 47) = pabs s := by
      unfold pabs
      have := drop_get hpos
      rw [List.drop_zero] at this
      rw [this, Bool.eq_iff_iff, decide_eq_true_eq, decide_eq_true_eq]
      show _ ↔ [47] <+: _
      rw [List.cons_prefix_cons]
      constructor
      · intro e; exact ⟨(by rw [← UInt8.toNat_inj]; show 47 = (s.get! 0).toNat; omega), by simp⟩
      · rintro ⟨e, -⟩; rw [← e]; rfl
    refine ⟨s.get! 0, by decide, hg, ?_⟩
    rw [hab]
    obtain ⟨R, hR⟩ : ∃ R, pall (piecesL s.data.toList) ⟨pabs s, [], false⟩ = R := ⟨_, rfl⟩
    have hpe : pparse s = pend R := by unfold pparse; rw [if_neg e1, if_neg (by omega), hR]
    refine rl9 (R := R) (h0 := h) e2 (fun a c h' p q => hq _ _ a c h' hpe p q) (s.size + 1) 0 [] ⟨pabs s, [], false⟩ none 0 h (by omega) (by simp) (by simp) (Part.refl _) (Sl.nil _ _ _ _) (fun _ => ?_) fun h => by omega
    rw [List.drop_zero, ← hR]
    unfold piecesL
    congr 1
    cases hc : cutL s.data.toList with
    | nil => have := (cutL_len s.data.toList).1; rw [hc] at this; simp at this
    | cons p ps => simp [pre]
end Go.Gb
namespace Go.Gb
open Go.Proofs IntWalk

/-! ## The document's Text; what a parsed way is; same; wakes -/

/-- A part of a way. -/
def PartOk (p : ByteArray) : Prop := p.size ≤ 300 ∧ p ≠ ⟨#[]⟩ ∧ p ≠ hereB ∧ (nameE p = 0 ∨ p = upB)
structure WyOk (v : Wy) : Prop where
  len : v.parts.length ≤ 300
  ok : ∀ p ∈ v.parts, PartOk p

theorem pall_inv : ∀ (l : List ByteArray) (v v' : Wy), pall l v = .ok v' → (∀ p ∈ l, p.size ≤ 300) → (∀ p ∈ v.parts, PartOk p) → v'.parts.length ≤ v.parts.length + l.length ∧ ∀ p ∈ v'.parts, PartOk p
  | [], v, v', h, _, hv => by cases h; exact ⟨by simp, hv⟩
  | x :: l, v, v', h, hl, hv => by
    have hx := hl x (by simp)
    have hl' : ∀ p ∈ l, p.size ≤ 300 := fun p hp => hl p (by simp [hp])
    by_cases h1 : x = ⟨#[]⟩ ∨ x = hereB
    · rw [pall_ok (v := { v with dir := true }) (by unfold pstep; rw [if_pos h1])] at h
      obtain ⟨q1, q2⟩ := pall_inv l _ v' h hl' hv
      exact ⟨by simp at q1 ⊢; omega, q2⟩
    · by_cases h2 : nameE x ≠ 0 ∧ x ≠ upB
      · rw [pall_err (e := nameE x) (by unfold pstep; rw [if_neg h1, if_pos h2])] at h; cases h
      · rw [pall_ok (v := ⟨v.abs, v.parts ++ [x], false⟩) (by unfold pstep; rw [if_neg h1, if_neg h2])] at h
        obtain ⟨q1, q2⟩ := pall_inv l _ v' h hl' (fun p hp => by
          rcases List.mem_append.1 hp with hp | hp
          · exact hv p hp
          · have : p = x := by simpa using hp
            subst this
            refine ⟨hx, fun e => h1 (.inl e), fun e => h1 (.inr e), ?_⟩
            by_cases e : nameE p = 0
            · exact .inl e
            · exact .inr (Classical.byContradiction fun e2 => h2 ⟨e, e2⟩))
        exact ⟨by simp at q1 ⊢; omega, q2⟩

theorem noWy_ok : WyOk noWy := ⟨by decide, fun p hp => by cases hp⟩

theorem pparse_ok {s : ByteArray} {v : Wy} {e : Int} (h : pparse s = (v, e)) : WyOk v := by
  unfold pparse at h
  split at h
  · cases h; exact noWy_ok
  · split at h
    · cases h; exact noWy_ok
    · rename_i h2
      cases hp : pall (piecesL s.data.toList) ⟨pabs s, [], false⟩ with
      | error e => rw [hp] at h; cases h; exact noWy_ok
      | ok w =>
        rw [hp] at h; cases h
        have hl := piecesL_len s.data.toList
        rw [bytes_len] at hl
        obtain ⟨q1, q2⟩ := pall_inv _ _ _ hp (fun p hp => by have := piecesL_mem hp; rw [bytes_len] at this; omega) (fun p hp => by cases hp)
        exact ⟨by simp at q1; omega, q2⟩

theorem joinL_len : ∀ (l : List ByteArray), (∀ p ∈ l, p.size ≤ 300) → (joinL l).length ≤ 301 * l.length := by
  intro l
  cases l with
  | nil => intro _; simp [joinL, Lib.join_nil]
  | cons y r =>
    intro h
    unfold joinL
    rw [List.map_cons, Lib.join_cons, List.length_append, Lib.joinTail_length, List.length_map]
    have hy : y.data.toList.length ≤ 300 := by rw [bytes_len]; exact h y (by simp)
    have hr : Lib.lens (r.map fun x : ByteArray => x.data.toList) ≤ 300 * r.length := by
      have hr' : ∀ p ∈ r, p.size ≤ 300 := fun p hp => h p (by simp [hp])
      clear h hy
      induction r with
      | nil => simp [Lib.lens]
      | cons z r ih =>
        have := ih fun p hp => hr' p (by simp [hp])
        have hz : z.data.toList.length ≤ 300 := by rw [bytes_len]; exact hr' z (by simp)
        simp only [Lib.lens, List.map_cons, List.sum_cons, List.length_cons] at this ⊢
        omega
    have e1 : [(47 : UInt8)].length * r.length = r.length := by simp
    rw [e1, List.length_cons]
    omega

theorem WyOk.join {v : Wy} (w : WyOk v) : (joinL v.parts).length ≤ 1000000 := by
  have := joinL_len v.parts fun p hp => (w.ok p hp).1
  have := w.len
  omega

theorem joinL_nil_iff {l : List ByteArray} (h : ∀ p ∈ l, p ≠ ⟨#[]⟩) : joinL l = [] ↔ l = [] := by
  constructor
  · intro e
    cases l with
    | nil => rfl
    | cons y r =>
      exfalso
      unfold joinL at e
      rw [List.map_cons, Lib.join_cons] at e
      have : y.data.toList = [] := (List.append_eq_nil_iff.1 e).1
      exact h y (by simp) (by rw [← mkB_toList y, this])
  · rintro rfl; rfl

theorem rtext5.c {h : Heap} {v : Wy} {a : Option Addr} {c : Nat} {Q : Value → Heap → Prop} {s0 : List UInt8} (w : WyOk v) (h0 : s0.length ≤ 1) (p : Pts h a v.parts.length c v.parts)
    (hq : Q (.string (let s := s0 ++ joinL v.parts; let s := if v.dir = true ∧ v.parts ≠ [] then s ++ [47] else s; if s = [] then hereB else mkB s)) h) :
    ∀ (n i : Nat), i + n = v.parts.length → gabionref18_Text.L5 (mkB (s0 ++ joinL (v.parts.take i))) (i : Int) v.abs a v.parts.length c v.dir h Q := by
  have hlen := w.len
  have hb : ∀ i, (s0 ++ joinL (v.parts.take i)).length ≤ 100000 := by
    intro i
    have := joinL_len (v.parts.take i) fun p hp => (w.ok p (List.mem_of_mem_take hp)).1
    have h2 : (v.parts.take i).length ≤ 300 := by rw [List.length_take]; omega
    rw [List.length_append]; omega
  intro n
  induction n with
  | zero =>
    intro i hi
    have hbi := hb i
    have : v.parts.take i = v.parts := List.take_of_length_le (by omega)
    rw [this] at hbi ⊢
    dsimp only at hq
    refine gabionref18_Text.L5.ok (xsIf_f (by simp; omega) ?_)
    have nn : ∀ (K : Prop → Prop), True := fun _ => trivial
    have simple : ¬ (v.dir = true ∧ v.parts ≠ []) → xsIf (decide (mkB (s0 ++ joinL v.parts) = ⟨#[]⟩)) (Q (.string ⟨#[UInt8.ofNat 46]⟩) h) (Q (.string (mkB (s0 ++ joinL v.parts))) h) := by
      intro hc
      have hc' : (if v.dir = true ∧ v.parts ≠ [] then s0 ++ joinL v.parts ++ [47] else s0 ++ joinL v.parts) = s0 ++ joinL v.parts := if_neg hc
      rw [hc'] at hq
      refine xsIf_intro (fun e => ?_) fun e => ?_
      · rw [if_pos ((mkB_nil_iff _).1 (by simpa using e))] at hq; exact hq
      · rw [if_neg (fun h => by rw [decide_eq_false_iff_not] at e; exact e ((mkB_nil_iff _).2 h))] at hq; exact hq
    refine xsIf_intro (fun e1 => xsIf_intro (fun e2 => ?_) fun e2 => simple ?_) fun e1 => simple ?_
    · have e2 : v.parts ≠ [] := fun e => by rw [e] at e2; simp at e2
      have hc : (if v.dir = true ∧ v.parts ≠ [] then s0 ++ joinL v.parts ++ [47] else s0 ++ joinL v.parts) = s0 ++ joinL v.parts ++ [47] := if_pos ⟨e1, e2⟩
      rw [hc, if_neg (by simp)] at hq
      refine ⟨by rw [mkB_size]; omega, xsIf_f ?_ ?_⟩
      · rw [show ({ data := #[47] } : ByteArray) = mkB [47] from rfl, mkB_append, decide_eq_false_iff_not, mkB_nil_iff]; simp
      · show Q (.string (mkB (s0 ++ joinL v.parts) ++ mkB [47])) h
        rw [mkB_append]; exact hq
    · intro hc
      have : 0 < v.parts.length := List.length_pos_iff.2 hc.2
      simp at e2; exact hc.2 e2
    · intro hc; rw [hc.1] at e1; cases e1
  | succ n ih =>
    intro i hi
    have hlt : i < v.parts.length := by omega
    have hbi := hb i
    have hbi2 := hb (i + 1)
    have et : v.parts.take (i + 1) = v.parts.take i ++ [v.parts[i]] := by rw [List.take_succ, List.getElem?_eq_getElem hlt]; rfl
    rw [et, joinL_snoc] at hbi2
    have ih := ih (i + 1) (by omega)
    rw [et, joinL_snoc] at ih
    have hx : v.parts[i] = mkB v.parts[i].data.toList := (mkB_toList _).symm
    refine gabionref18_Text.L5.ok (xsIf_t (by simp; omega) (xsIf_intro (fun e1 => ?_) fun e1 => ?_))
    · have e1 : 0 < i := by have : (0 : Int) < i := by simpa using e1
                            omega
      have e2 : v.parts.take i ≠ [] := fun e => by
        have : (v.parts.take i).length = 0 := by rw [e]; rfl
        rw [List.length_take] at this; omega
      rw [if_neg e2] at ih hbi2
      refine ⟨by rw [mkB_size]; omega, gabionref18_Text.J9.ok ⟨by omega, p.at hlt fun b o hc => ⟨v.parts[i], by rw [Int.toNat_natCast]; exact hc, ?_, ?_⟩⟩⟩
      · rw [show ({ data := #[UInt8.ofNat 47] } : ByteArray) = mkB [47] from rfl, mkB_append, mkB_size]
        have := (w.ok _ (List.getElem_mem hlt)).1
        simp only [List.length_append, List.length_singleton] at hbi ⊢
        omega
      · show gabionref18_Text.L5 (mkB (s0 ++ joinL (v.parts.take i)) ++ mkB [47] ++ v.parts[i]) _ _ _ _ _ _ _ _
        rw [hx, mkB_append, mkB_append, i64_in _ (by omega)]
        have e : s0 ++ joinL (v.parts.take i) ++ [47] ++ v.parts[i].data.toList = s0 ++ (joinL (v.parts.take i) ++ 47 :: v.parts[i].data.toList) := by simp
        rw [e]; exact ih
    · have e1 : i = 0 := by have : ¬ (0 : Int) < i := by simpa using e1
                            omega
      subst e1
      rw [List.take_zero, if_pos rfl] at ih
      refine gabionref18_Text.J9.ok ⟨by omega, p.at hlt fun b o hc => ⟨v.parts[0], by exact hc, ?_, ?_⟩⟩
      · have := (w.ok _ (List.getElem_mem hlt)).1
        rw [mkB_size]; omega
      · rw [i64_in _ (by omega)]
        have e : mkB (s0 ++ joinL (v.parts.take 0)) ++ v.parts[0] = mkB (s0 ++ v.parts[0].data.toList) := by
          rw [show joinL (v.parts.take 0) = [] from rfl, List.append_nil]
          conv => lhs; rw [hx]
          rw [mkB_append]
        rw [e]; exact ih

theorem ref_Text.c {h : Heap} {v : Wy} {a : Option Addr} {c : Nat} {Q : Value → Heap → Prop} (w : WyOk v) (p : Pts h a v.parts.length c v.parts) (hq : Q (.string (ptext v)) h) :
    C Tryd.prog 16 #[.agg #[.bool v.abs, .slice a v.parts.length c, .bool v.dir]] h Q := by
  have key := joinL_nil_iff (l := v.parts) fun p hp => (w.ok p hp).2.1
  have fin : ∀ s0 : List UInt8, s0 = (if v.abs = true then [47] else []) → Q (.string (let s := s0 ++ joinL v.parts; let s := if v.dir = true ∧ v.parts ≠ [] then s ++ [47] else s; if s = [] then hereB else mkB s)) h := by
    rintro s0 rfl
    have e : (let s := (if v.abs = true then [47] else []) ++ joinL v.parts; let s := if v.dir = true ∧ v.parts ≠ [] then s ++ [47] else s; if s = [] then hereB else mkB s) = ptext v := by
      unfold ptext
      dsimp only
      have m1 : mkB (joinL v.parts) = ⟨#[]⟩ ↔ v.parts = [] := (mkB_nil_iff _).trans key
      simp only [ne_eq, m1, show slashB = mkB [47] from rfl, mkB_append]
      cases v.abs <;> cases v.dir <;> by_cases hp : v.parts = [] <;> simp [hp, joinL, Lib.join_nil, key]
      · exact fun e => absurd (key.1 e) hp
    rw [e]; exact hq
  refine gabionref18_Text.ok (xsIf_intro (fun e1 => ?_) fun e1 => ?_)
  · exact gabionref18_Text.J4.ok (rtext5.c (s0 := [47]) w (by simp) p (fin _ (by rw [if_pos e1])) v.parts.length 0 (by omega))
  · exact gabionref18_Text.J4.ok (rtext5.c (s0 := []) w (by simp) p (fin _ (by rw [e1]; rfl)) v.parts.length 0 (by omega))
end Go.Gb
namespace Go.Gb
open Go.Proofs IntWalk

/-! ## The way of a way's text (no program in sight) -/

def noSl (l : List UInt8) : Prop := ∀ b ∈ l, b ≠ 47

theorem noSl_of {p : ByteArray} (h : badS p = false) : noSl p.data.toList := by
  intro b hb e
  unfold badS at h
  have := List.any_eq_false.1 h b hb
  rw [e] at this
  exact this (by decide)

theorem nameE_zero {p : ByteArray} (h : nameE p = 0) : p ≠ ⟨#[]⟩ ∧ p.size ≤ 32 ∧ p ≠ hereB ∧ p ≠ upB ∧ badS p = false := by
  unfold nameE at h
  split at h
  · cases h
  · rename_i hn
    refine ⟨fun e => hn (.inl e), ?_, fun e => hn (.inr (.inr (.inl e))), fun e => hn (.inr (.inr (.inr (.inl e)))), ?_⟩
    · exact Nat.le_of_not_lt fun e => hn (.inr (.inl e))
    · cases e : badS p with
      | false => rfl
      | true => exact absurd (.inr (.inr (.inr (.inr e)))) hn

theorem PartOk.sl {p : ByteArray} (h : PartOk p) : noSl p.data.toList := by
  rcases h.2.2.2 with h | rfl
  · exact noSl_of (nameE_zero h).2.2.2.2
  · exact noSl_of (by decide)

theorem PartOk.step {p : ByteArray} (h : PartOk p) (v : Wy) : pstep v p = .ok ⟨v.abs, v.parts ++ [p], false⟩ := by
  unfold pstep
  rw [if_neg (fun e => e.elim h.2.1 h.2.2.1), if_neg]
  rintro ⟨h1, h2⟩
  exact h.2.2.2.elim h1 h2

/-! A path of names. -/
end Go.Gb
namespace Go.Gb
open Go.Proofs IntWalk

/-! ## PathParses, PathBack, PathNames -/

def wsame (v v' : Wy) : Bool := decide (v.abs = v'.abs ∧ v.dir = v'.dir ∧ v.parts = v'.parts)

theorem same4.c {h : Heap} {a a' : Option Addr} {c c' : Nat} {l l' : List ByteArray} {d0 d1 d2 d3 : Bool} {Q : Value → Heap → Prop} (p : Pts h a l.length c l) (p' : Pts h a' l.length c' l') (hl : l.length ≤ 300)
    (hq : Q (.bool (decide (l = l'))) h) : ∀ (n i : Nat), i + n = l.length → l.take i = l'.take i → gabionlaw18_same.L4 (l.length : Int) (i : Int) d0 a l.length c d1 d2 a' l.length c' d3 h Q := by
  have hl' := p'.len
  intro n
  induction n with
  | zero =>
    intro i hi ht
    refine gabionlaw18_same.L4.ok (xsIf_f (by simp; omega) ?_)
    rw [List.take_of_length_le (by omega), List.take_of_length_le (by omega)] at ht
    rw [decide_eq_true ht] at hq; exact hq
  | succ n ih =>
    intro i hi ht
    have h1 : i < l.length := by omega
    have h2 : i < l'.length := by omega
    refine gabionlaw18_same.L4.ok (xsIf_t (by simp; omega) ⟨⟨by omega, by omega⟩, p.at h1 fun b o hc => ⟨⟨by omega, by omega⟩, p'.at h2 fun b' o' hc' => ⟨l[i], by rw [Int.toNat_natCast]; exact hc, l'[i], by rw [Int.toNat_natCast]; exact hc', xsIf_intro (fun e => ?_) fun e => ?_⟩⟩⟩)
    · have e : l[i] ≠ l'[i] := by simpa using e
      have : l ≠ l' := fun h => by subst h; exact e rfl
      rw [decide_eq_false this] at hq; exact hq
    · have e : l[i] = l'[i] := by simpa using e
      rw [i64_in _ (by omega)]
      refine ih (i + 1) (by omega) ?_
      rw [List.take_succ, List.take_succ, ht, List.getElem?_eq_getElem h1, List.getElem?_eq_getElem h2, e]

theorem same.c {h : Heap} {v v' : Wy} {a a' : Option Addr} {c c' : Nat} {Q : Value → Heap → Prop} (p : Pts h a v.parts.length c v.parts) (p' : Pts h a' v'.parts.length c' v'.parts) (hl : v.parts.length ≤ 300)
    (hq : Q (.bool (wsame v v')) h) : C Tryd.prog 14 #[.agg #[.bool v.abs, .slice a v.parts.length c, .bool v.dir], .agg #[.bool v'.abs, .slice a' v'.parts.length c', .bool v'.dir]] h Q := by
  unfold wsame at hq
  have no : ¬ (v.abs = v'.abs ∧ v.dir = v'.dir ∧ v.parts = v'.parts) → Q (.bool false) h := fun hn => by rw [decide_eq_false hn] at hq; exact hq
  refine gabionlaw18_same.ok (xsIf_intro (fun e1 => no ?_) fun e1 => xsIf_intro (fun e2 => no ?_) fun e2 => xsIf_intro (fun e3 => no ?_) fun e3 => ?_)
  · rintro ⟨h1, _, _⟩; rw [h1] at e1; simp at e1
  · rintro ⟨_, h1, _⟩; rw [h1] at e2; simp at e2
  · rintro ⟨_, _, h1⟩; rw [h1] at e3; simp at e3
  · have e1 : v.abs = v'.abs := by simpa using e1
    have e2 : v.dir = v'.dir := by simpa using e2
    have e3 : v.parts.length = v'.parts.length := by
      have : (v.parts.length : Int) = v'.parts.length := by simpa using e3
      omega
    refine gabionlaw18_same.J3.ok ?_
    rw [← e3] at p' ⊢
    refine same4.c p p' hl ?_ v.parts.length 0 (by omega) rfl
    have : decide (v.parts = v'.parts) = decide (v.abs = v'.abs ∧ v.dir = v'.dir ∧ v.parts = v'.parts) := by simp [e1, e2]
    rw [this]; exact hq

theorem wakes18.c {h : Heap} {Q : Value → Heap → Prop} (hq : ∀ h', Part h h' → Q (.bool true) h') : C Tryd.prog 13 #[] h Q := by
  refine gabionlaw18_wakes.ok (path_Parse.c (by decide) fun v e a c h' hp p q => ?_)
  have hv : (v, e) = ((⟨true, [mkB [97], mkB [98]], true⟩ : Wy), (0 : Int)) := hp.symm.trans rfl
  have hv1 : v = ⟨true, [mkB [97], mkB [98]], true⟩ := congrArg Prod.fst hv
  have hv2 : e = 0 := congrArg Prod.snd hv
  subst hv1 hv2
  refine ⟨true, a, 2, c, true, 0, rfl, xsIf_t rfl (xsIf_t rfl (xsIf_t rfl (xsIf_t rfl ⟨by decide, p.at (i := 1) (by decide) fun b o hc => ⟨mkB [98], hc, xsIf_t rfl ?_⟩⟩)))⟩
  exact text.c (w := ⟨true, [mkB [97], mkB [98]], true⟩) p (by decide) (by decide) ⟨_, rfl, hq _ q⟩

theorem cut300 (s : ByteArray) (hs : s.size ≤ 140737488351232) (n : Nat) (hn : n ≤ 1000) : (0 ≤ imin (s.size : Int) n ∧ imin (s.size : Int) n ≤ s.size) ∧ (sext s 0 (imin (s.size : Int) n)).size ≤ n := by
  rw [imin_eq]
  refine ⟨by omega, ?_⟩
  unfold sext
  rw [ByteArray.size_extract]
  omega

theorem gabionlaw18_PathParses.law (s : ByteArray) (hs : s.size ≤ 140737488351232) (h : Heap) : C Tryd.prog 3 #[.string s] h fun v h' => v = .bool true ∧ Part h h' := by
  obtain ⟨h1, h2⟩ := cut300 s hs 300 (by omega)
  refine gabionlaw18_PathParses.ok ⟨h1, path_Parse.c (Nat.lt_of_le_of_lt h2 (by decide)) fun v e a c g hp p q => ⟨_, _, _, _, _, _, rfl, ref_Parse.c (Nat.lt_of_le_of_lt h2 (by decide)) fun v' e' a' c' g' hp' p' q' => ⟨_, _, _, _, _, _, rfl, wakes18.c fun g2 q2 => ⟨_, rfl, xsIf_t rfl ?_⟩⟩⟩⟩
  have hv : (v, e) = (v', e') := hp.symm.trans hp'
  have hv1 : v = v' := congrArg Prod.fst hv
  have hv2 : e = e' := congrArg Prod.snd hv
  subst hv1 hv2
  have w := pparse_ok hp
  have p1 := (p.part q').part q2
  have p2 := p'.part q2
  refine same.c p1 p2 w.len ⟨_, rfl, xsIf_t (by unfold wsame; simp) (xsIf_t (by simp) (text.c p1 (by have := w.len; omega) w.join ⟨_, rfl, ref_Text.c w p2 ⟨_, rfl, by simp, (q.trans q').trans q2⟩⟩))⟩

end Go.Gb
