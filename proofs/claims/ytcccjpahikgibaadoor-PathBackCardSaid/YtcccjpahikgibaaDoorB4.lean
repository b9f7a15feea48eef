/- Own texts for the seat: Pa5 Pa6 Pa7 Pa8 Pa9. -/
import Derived.Test.YtcccjpahikgibaaDoorB3
import Derived.Test.YtcccjpahikgibaaDoorLayJ
import Derived.Test.YtcccjpahikgibaaDoorA13
import Derived.Test.YtcccjpahikgibaaDoorB1
set_option linter.unusedVariables false
set_option linter.unusedSimpArgs false
set_option linter.unnecessarySimpa false
set_option linter.deprecated false
namespace Go.Gb
open Go.Proofs Go.RowKit Go.Shelf IntWalk

/-! ## Text, and the document's Parse and Text -/

theorem Tryd.joinX : Builder.Extra Tryd.prog Tryd.join_ren where
  sizeBuilder := by kernel_rfl
  liesBuilder := by kernel_rfl
  t5 := Tryd.underlying5
  a5 := Tryd.isAgg5
  z5 := Tryd.sizeOf5
  v5 := Tryd.zeroValue5
  infoByte := by kernel_rfl
  cellsByte := by kernel_rfl
  sizeByte := by kernel_rfl
  neB5 := by decide

def joinL (l : List ByteArray) : List UInt8 := Lib.join (l.map (·.data.toList)) [47]

theorem Pts.at {h : Heap} {a : Option Addr} {n c : Nat} {l : List ByteArray} {K : Nat → Nat → Prop} (p : Pts h a n c l) {i : Nat} (hi : i < l.length) (hk : ∀ b o, h.cell b (o + i * 1) = some (.string l[i]) → K b o) : atBase a K := by
  refine reads_base p.reads (by rw [List.length_map]; omega) fun b o hc => hk b o ?_
  rw [hc i (by rw [List.length_map]; exact hi), List.getElem?_map, List.getElem?_eq_getElem hi]; rfl

theorem join.c {h : Heap} {a : Option Addr} {n c : Nat} {l : List ByteArray} {Q : Value → Heap → Prop} (p : Pts h a n c l) (hn : n ≤ 1000000) (hl : (joinL l).length ≤ 1000000) (hq : Q (.string (mkB (joinL l))) h) :
    C Tryd.prog 33 #[.slice a n c, .string slashB] h Q := by
  intro w hs
  have hlen := p.len
  have done : ∀ (e : Ending) (w' : World), e = .returned (.string (mkB (joinL l))) → Below w.heap.size w w' → ∃ v h', e = .returned v ∧ Q v h' ∧ Post h w h' w' := fun e w' he hb => (⟨.string (mkB (joinL l)), h, he, hq, fun k o e => (hb.block k ((Array.getElem?_eq_some_iff.1 (hs k o e)).1)).trans (hs k o e), hb.size, fun k hk _ => hb.block k hk, fun k hk => .inl hk, hb.os, hb.output, hb.tape⟩)
  by_cases h0 : n = 0
  · subst h0
    have e0 : l = [] := List.eq_nil_of_length_eq_zero hlen
    subst e0
    refine (Any.strings_Join_none Tryd.join Tryd.joinX a c slashB w).mono ?_
    rintro e w' ⟨rfl, rfl⟩
    exact done _ _ rfl (Below.refl _ _)
  · rcases p.reads with hr | ⟨b, o, rfl, hc⟩
    · have : l = [] := by simpa using hr
      rw [this] at hlen; simp at hlen; omega
    · have hcell : ∀ (j : Nat) x, l[j]? = some x → w.cell? ⟨b, o + j, none⟩ = some (.string x) := by
        intro j x hj
        have hlt : j < l.length := (List.getElem?_eq_some_iff.1 hj).1
        have := hc j (by rw [List.length_map]; exact hlt)
        rw [List.getElem?_map, hj] at this
        exact cell?_sub hs this
      have hbk : b < w.heap.size := by
        have := hcell 0 l[0] (by rw [List.getElem?_eq_getElem])
        unfold World.cell? at this
        split at this
        · rename_i hx; exact (Array.getElem?_eq_some_iff.1 hx).1
        · cases this
      have := Any.strings_Join Tryd.join Tryd.joinX b o c l slashB w hcell hbk (by omega) (by have := p.le; omega) (by show (joinL l).length ≤ _; omega)
      rw [hlen] at this
      refine this.mono ?_
      rintro e w' ⟨rfl, hb⟩
      exact done _ _ rfl hb

/-- P18.2 -/
def ptext (w : Wy) : ByteArray :=
  let x := mkB (joinL w.parts)
  if w.abs = true then if x ≠ ⟨#[]⟩ ∧ w.dir = true then slashB ++ x ++ slashB else slashB ++ x
  else if x = ⟨#[]⟩ then hereB else if w.dir = true then x ++ slashB else x

theorem mkB_size (l : List UInt8) : (mkB l).size = l.length := by show l.toArray.size = _; simp

theorem text.c {h : Heap} {w : Wy} {a : Option Addr} {n c : Nat} {Q : Value → Heap → Prop} (p : Pts h a n c w.parts) (hn : n ≤ 1000000) (hl : (joinL w.parts).length ≤ 1000000) (hq : Q (.string (ptext w)) h) :
    C Tryd.prog 15 #[.agg #[.bool w.abs, .slice a n c, .bool w.dir]] h Q := by
  refine path_Way_Text.ok (join.c p hn hl ⟨_, rfl, ?_⟩)
  have hx : (mkB (joinL w.parts)).size ≤ 1000000 := by rw [mkB_size]; exact hl
  have hx2 : (slashB ++ mkB (joinL w.parts)).size ≤ 1000001 := by rw [ByteArray.size_append]; show 1 + _ ≤ _; omega
  unfold ptext at hq
  dsimp only at hq
  generalize hX : mkB (joinL w.parts) = x at hq hx hx2
  have b1 : ((1 + x.size : Nat) : Int) ≤ 9223372036854775807 := by omega
  have b2 : ((x.size + 1 : Nat) : Int) ≤ 9223372036854775807 := by omega
  have b3 : (((slashB ++ x).size + 1 : Nat) : Int) ≤ 9223372036854775807 := by omega
  obtain ⟨ab, ps, d⟩ := w
  show xsIf ab (xsIf (decide (x ≠ ⟨#[]⟩)) (xsIf d _ _) _) _
  cases ab with
  | true =>
    refine xsIf_t rfl ?_
    by_cases hx0 : x = ⟨#[]⟩
    · refine xsIf_f (by simpa using hx0) (xsIf_t rfl ⟨b1, ?_⟩)
      rw [if_pos rfl, if_neg (fun h => h.1 hx0)] at hq; exact hq
    · refine xsIf_t (by simpa using hx0) ?_
      cases d with
      | true =>
        refine xsIf_t rfl ⟨b1, b3, ?_⟩
        rw [if_pos rfl, if_pos ⟨hx0, rfl⟩] at hq; exact hq
      | false =>
        refine xsIf_f rfl (xsIf_t rfl ⟨b1, ?_⟩)
        rw [if_pos rfl, if_neg (fun h => by cases h.2)] at hq; exact hq
  | false =>
    refine xsIf_f rfl (xsIf_f rfl ?_)
    rw [if_neg (by simp)] at hq
    by_cases hx0 : x = ⟨#[]⟩
    · refine xsIf_t (by simpa using hx0) ?_
      rw [if_pos hx0] at hq; exact hq
    · refine xsIf_f (by simpa using hx0) ?_
      rw [if_neg hx0] at hq
      cases d with
      | true => exact xsIf_t rfl ⟨b2, by rw [if_pos rfl] at hq; exact hq⟩
      | false => exact xsIf_f rfl (by rw [if_neg (by simp)] at hq; exact hq)
end Go.Gb
namespace Go.Gb
open Go.Proofs IntWalk

/-! ## The document's Parse -/

/-- A piece goes on behind what was read of it. -/
def pre (part : List UInt8) : List (List UInt8) → List (List UInt8)
  | [] => [part]
  | p :: ps => (part ++ p) :: ps

theorem mkB_append (a b : List UInt8) : mkB a ++ mkB b = mkB (a ++ b) := by
  apply ByteArray.ext
  simp [mkB, ByteArray.data_append]

theorem mkB_nil_iff (l : List UInt8) : mkB l = ⟨#[]⟩ ↔ l = [] := by
  constructor
  · intro h
    have := congrArg (fun b : ByteArray => b.data.toList) h
    simpa using this
  · rintro rfl; rfl


end Go.Gb
namespace Go.Gb
open Go.Proofs IntWalk

/-! ## The document's Text; what a parsed way is; same; wakes -/

/-- A part of a way. -/
def PartOk (p : ByteArray) : Prop := p.size ≤ 300 ∧ p ≠ ⟨#[]⟩ ∧ p ≠ hereB ∧ (nameE p = 0 ∨ p = upB)
structure WyOk (v : Wy) : Prop where
  len : v.parts.length ≤ 300
  ok : ∀ p ∈ v.parts, PartOk p

theorem pall_inv : ∀ (l : List ByteArray) (v v' : Wy), pall l v = .ok v' → (∀ p ∈ l, p.size ≤ 300) → (∀ p ∈ v.parts, PartOk p) → v'.parts.length ≤ v.parts.length + l.length ∧ ∀ p ∈ v'.parts, PartOk p
  | [], v, v', h, _, hv => by cases h; exact ⟨by simp, hv⟩
  | x :: l, v, v', h, hl, hv => by
    have hx := hl x (by simp)
    have hl' : ∀ p ∈ l, p.size ≤ 300 := fun p hp => hl p (by simp [hp])
    by_cases h1 : x = ⟨#[]⟩ ∨ x = hereB
    · rw [pall_ok (v := { v with dir := true }) (by unfold pstep; rw [if_pos h1])] at h
      obtain ⟨q1, q2⟩ := pall_inv l _ v' h hl' hv
      exact ⟨by simp at q1 ⊢; omega, q2⟩
    · by_cases h2 : nameE x ≠ 0 ∧ x ≠ upB
      · rw [pall_err (e := nameE x) (by unfold pstep; rw [if_neg h1, if_pos h2])] at h; cases h
      · rw [pall_ok (v := ⟨v.abs, v.parts ++ [x], false⟩) (by unfold pstep; rw [if_neg h1, if_neg h2])] at h
        obtain ⟨q1, q2⟩ := pall_inv l _ v' h hl' (fun p hp => by
          rcases List.mem_append.1 hp with hp | hp
          · exact hv p hp
          · have : p = x := by simpa using hp
            subst this
            refine ⟨hx, fun e => h1 (.inl e), fun e => h1 (.inr e), ?_⟩
            by_cases e : nameE p = 0
            · exact .inl e
            · exact .inr (Classical.byContradiction fun e2 => h2 ⟨e, e2⟩))
        exact ⟨by simp at q1 ⊢; omega, q2⟩

theorem noWy_ok : WyOk noWy := ⟨by decide, fun p hp => by cases hp⟩

theorem pparse_ok {s : ByteArray} {v : Wy} {e : Int} (h : pparse s = (v, e)) : WyOk v := by
  unfold pparse at h
  split at h
  · cases h; exact noWy_ok
  · split at h
    · cases h; exact noWy_ok
    · rename_i h2
      cases hp : pall (piecesL s.data.toList) ⟨pabs s, [], false⟩ with
      | error e => rw [hp] at h; cases h; exact noWy_ok
      | ok w =>
        rw [hp] at h; cases h
        have hl := piecesL_len s.data.toList
        rw [bytes_len] at hl
        obtain ⟨q1, q2⟩ := pall_inv _ _ _ hp (fun p hp => by have := piecesL_mem hp; rw [bytes_len] at this; omega) (fun p hp => by cases hp)
        exact ⟨by simp at q1; omega, q2⟩

theorem joinL_len : ∀ (l : List ByteArray), (∀ p ∈ l, p.size ≤ 300) → (joinL l).length ≤ 301 * l.length := by
  intro l
  cases l with
  | nil => intro _; simp [joinL, Lib.join_nil]
  | cons y r =>
    intro h
    unfold joinL
    rw [List.map_cons, Lib.join_cons, List.length_append, Lib.joinTail_length, List.length_map]
    have hy : y.data.toList.length ≤ 300 := by rw [bytes_len]; exact h y (by simp)
    have hr : Lib.lens (r.map fun x : ByteArray => x.data.toList) ≤ 300 * r.length := by
      have hr' : ∀ p ∈ r, p.size ≤ 300 := fun p hp => h p (by simp [hp])
      clear h hy
      induction r with
      | nil => simp [Lib.lens]
      | cons z r ih =>
        have := ih fun p hp => hr' p (by simp [hp])
        have hz : z.data.toList.length ≤ 300 := by rw [bytes_len]; exact hr' z (by simp)
        simp only [Lib.lens, List.map_cons, List.sum_cons, List.length_cons] at this ⊢
        omega
    have e1 : [(47 : UInt8)].length * r.length = r.length := by simp
    rw [e1, List.length_cons]
    omega

theorem WyOk.join {v : Wy} (w : WyOk v) : (joinL v.parts).length ≤ 1000000 := by
  have := joinL_len v.parts fun p hp => (w.ok p hp).1
  have := w.len
  omega

theorem joinL_nil_iff {l : List ByteArray} (h : ∀ p ∈ l, p ≠ ⟨#[]⟩) : joinL l = [] ↔ l = [] := by
  constructor
  · intro e
    cases l with
    | nil => rfl
    | cons y r =>
      exfalso
      unfold joinL at e
      rw [List.map_cons, Lib.join_cons] at e
      have : y.data.toList = [] := (List.append_eq_nil_iff.1 e).1
      exact h y (by simp) (by rw [← mkB_toList y, this])
  · rintro rfl; rfl

end Go.Gb
namespace Go.Gb
open Go.Proofs IntWalk

/-! ## The way of a way's text (no program in sight) -/

def noSl (l : List UInt8) : Prop := ∀ b ∈ l, b ≠ 47

theorem cutL_one {p : List UInt8} (h : noSl p) : cutL p = [p] := by
  induction p with
  | nil => rfl
  | cons b l ih =>
    rw [cutL, if_neg (h b (by simp)), ih fun x hx => h x (by simp [hx])]
theorem cutL_app {p r : List UInt8} (h : noSl p) : cutL (p ++ 47 :: r) = p :: cutL r := by
  induction p with
  | nil => rw [List.nil_append, cutL, if_pos rfl]
  | cons b l ih =>
    rw [List.cons_append, cutL, if_neg (h b (by simp)), ih fun x hx => h x (by simp [hx])]

theorem joinL_one (p : ByteArray) : joinL [p] = p.data.toList := Lib.join_one _ _
theorem joinL_two (p q : ByteArray) (r : List ByteArray) : joinL (p :: q :: r) = p.data.toList ++ 47 :: joinL (q :: r) := by
  unfold joinL
  rw [List.map_cons, Lib.join_cons, List.map_cons, Lib.join_cons]
  simp [Lib.joinTail]

theorem cut_join : ∀ (ps : List ByteArray), ps ≠ [] → (∀ p ∈ ps, noSl p.data.toList) → cutL (joinL ps) = ps.map (·.data.toList) ∧ cutL (joinL ps ++ [47]) = ps.map (·.data.toList) ++ [[]]
  | [], h, _ => absurd rfl h
  | [p], _, h => by
    rw [joinL_one]
    exact ⟨cutL_one (h p (by simp)), by rw [cutL_app (h p (by simp))]; rfl⟩
  | p :: q :: r, _, h => by
    obtain ⟨h1, h2⟩ := cut_join (q :: r) (by simp) fun x hx => h x (by simp [hx])
    rw [joinL_two]
    refine ⟨by rw [cutL_app (h p (by simp)), h1]; rfl, ?_⟩
    rw [List.append_assoc, List.cons_append, cutL_app (h p (by simp)), h2]; rfl

theorem noSl_of {p : ByteArray} (h : badS p = false) : noSl p.data.toList := by
  intro b hb e
  unfold badS at h
  have := List.any_eq_false.1 h b hb
  rw [e] at this
  exact this (by decide)

theorem nameE_zero {p : ByteArray} (h : nameE p = 0) : p ≠ ⟨#[]⟩ ∧ p.size ≤ 32 ∧ p ≠ hereB ∧ p ≠ upB ∧ badS p = false := by
  unfold nameE at h
  split at h
  · cases h
  · rename_i hn
    refine ⟨fun e => hn (.inl e), ?_, fun e => hn (.inr (.inr (.inl e))), fun e => hn (.inr (.inr (.inr (.inl e)))), ?_⟩
    · exact Nat.le_of_not_lt fun e => hn (.inr (.inl e))
    · cases e : badS p with
      | false => rfl
      | true => exact absurd (.inr (.inr (.inr (.inr e)))) hn

theorem PartOk.sl {p : ByteArray} (h : PartOk p) : noSl p.data.toList := by
  rcases h.2.2.2 with h | rfl
  · exact noSl_of (nameE_zero h).2.2.2.2
  · exact noSl_of (by decide)

theorem PartOk.step {p : ByteArray} (h : PartOk p) (v : Wy) : pstep v p = .ok ⟨v.abs, v.parts ++ [p], false⟩ := by
  unfold pstep
  rw [if_neg (fun e => e.elim h.2.1 h.2.2.1), if_neg]
  rintro ⟨h1, h2⟩
  exact h.2.2.2.elim h1 h2

theorem pall_parts : ∀ (ps : List ByteArray) (rest : List ByteArray) (v : Wy), (∀ p ∈ ps, PartOk p) → pall (ps ++ rest) v = pall rest ⟨v.abs, v.parts ++ ps, if ps = [] then v.dir else false⟩
  | [], rest, v, _ => by simp
  | p :: ps, rest, v, h => by
    rw [List.cons_append, pall_ok ((h p (by simp)).step v), pall_parts ps rest _ fun q hq => h q (by simp [hq])]
    simp

theorem pall_here (rest : List ByteArray) (v : Wy) : pall (⟨#[]⟩ :: rest) v = pall rest { v with dir := true } := pall_ok (by unfold pstep; rw [if_pos (.inl rfl)])

theorem map_mk (ps : List ByteArray) : (ps.map (·.data.toList)).map mkB = ps := by
  rw [List.map_map]
  conv => rhs; rw [← List.map_id ps]
  apply List.map_congr_left
  intro p _
  exact mkB_toList p

/-- What the pieces of such a text come to. -/
theorem pall_text {ab d : Bool} {ps : List ByteArray} (hne : ps ≠ []) (h : ∀ p ∈ ps, PartOk p) :
    pall (piecesL ((if ab = true then [47] else []) ++ joinL ps ++ (if d = true then [47] else []))) ⟨ab, [], false⟩ = .ok ⟨ab, ps, d⟩ := by
  obtain ⟨c1, c2⟩ := cut_join ps hne fun p hp => (h p hp).sl
  have core : ∀ v : Wy, v.abs = ab → v.parts = [] → pall (piecesL (joinL ps ++ (if d = true then [47] else []))) v = .ok ⟨ab, ps, d⟩ := by
    rintro ⟨a', p', d'⟩ rfl rfl
    unfold piecesL
    cases d with
    | false =>
      rw [if_neg (by simp), List.append_nil, c1, map_mk]
      have := pall_parts ps [] ⟨a', [], d'⟩ h
      rw [List.append_nil] at this
      rw [this, if_neg hne]; rfl
    | true =>
      rw [if_pos rfl, c2, List.map_append, map_mk]
      have := pall_parts ps [⟨#[]⟩] ⟨a', [], d'⟩ h
      show pall (ps ++ [⟨#[]⟩]) _ = _
      rw [this, pall_here]; rfl
  cases ab with
  | false => simpa using core ⟨false, [], false⟩ rfl rfl
  | true =>
    rw [if_pos rfl, List.append_assoc]
    show pall (piecesL (47 :: (joinL ps ++ if d = true then [47] else []))) _ = _
    unfold piecesL
    rw [cutL, if_pos rfl, List.map_cons]
    show pall (⟨#[]⟩ :: _) _ = _
    rw [pall_here]
    exact core ⟨true, [], true⟩ rfl rfl

theorem ptext_list {v : Wy} (w : WyOk v) (hne : v.parts ≠ []) : ptext v = mkB ((if v.abs = true then [47] else []) ++ joinL v.parts ++ (if v.dir = true then [47] else [])) := by
  have key := joinL_nil_iff (l := v.parts) fun p hp => (w.ok p hp).2.1
  have m1 : ¬ mkB (joinL v.parts) = ⟨#[]⟩ := fun e => hne (key.1 ((mkB_nil_iff _).1 e))
  unfold ptext
  dsimp only
  simp only [ne_eq, m1, show slashB = mkB [47] from rfl, mkB_append, not_false_eq_true, true_and, if_false]
  cases v.abs <;> cases v.dir <;> simp

theorem joinL_head {p : ByteArray} {ps : List ByteArray} (h : PartOk p) : ∃ b l, joinL (p :: ps) = b :: l ∧ b ≠ 47 := by
  have hp : p.data.toList ≠ [] := fun e => h.2.1 (by rw [← mkB_toList p, e])
  obtain ⟨b, l, hb⟩ := List.exists_cons_of_ne_nil hp
  unfold joinL
  rw [List.map_cons, Lib.join_cons, hb, List.cons_append]
  exact ⟨b, _, rfl, h.sl b (by rw [hb]; simp)⟩

theorem pabs_text {v : Wy} (w : WyOk v) (hne : v.parts ≠ []) : pabs (ptext v) = v.abs := by
  rw [ptext_list w hne]
  unfold pabs
  rw [Bool.eq_iff_iff, decide_eq_true_eq]
  show [47] <+: ((if v.abs = true then [47] else []) ++ joinL v.parts ++ (if v.dir = true then [47] else [])) ↔ _
  cases ha : v.abs with
  | true => simp
  | false =>
    obtain ⟨p, ps, hp⟩ := List.exists_cons_of_ne_nil hne
    obtain ⟨b, l, hb, hb2⟩ := joinL_head (ps := ps) (w.ok p (by rw [hp]; simp))
    rw [hp, hb]
    simp [List.cons_prefix_cons]
    exact fun e => hb2 e.symm

theorem pparse_text {v : Wy} (w : WyOk v) : pparse (ptext v) = if 256 < (ptext v).size then (noWy, 9) else (⟨v.abs, v.parts, v.dir || decide (v.parts = [])⟩, 0) := by
  by_cases hne : v.parts = []
  · obtain ⟨ab, ps, d⟩ := v
    have hne : ps = [] := hne
    subst hne
    cases ab <;> cases d <;> rfl
  · have hp := pabs_text w hne
    have hl := ptext_list w hne
    have e0 : ptext v ≠ ⟨#[]⟩ := by
      rw [hl]
      intro e
      have := (mkB_nil_iff _).1 e
      have := List.append_eq_nil_iff.1 (List.append_eq_nil_iff.1 this).1
      exact hne ((joinL_nil_iff fun p hp => (w.ok p hp).2.1).1 this.2)
    unfold pparse
    rw [if_neg e0]
    split
    · rfl
    · rw [hp, hl]
      show pend (pall (piecesL ((if v.abs = true then [47] else []) ++ joinL v.parts ++ (if v.dir = true then [47] else []))) ⟨v.abs, [], false⟩) = _
      rw [pall_text hne w.ok]
      simp [pend, hne]

theorem ptext_nodir (ab d d' : Bool) : ptext ⟨ab, [], d⟩ = ptext ⟨ab, [], d'⟩ := by cases ab <;> cases d <;> cases d' <;> rfl

theorem ptext_again (v : Wy) : ptext ⟨v.abs, v.parts, v.dir || decide (v.parts = [])⟩ = ptext v := by
  by_cases hne : v.parts = []
  · obtain ⟨ab, ps, d⟩ := v
    have hne : ps = [] := hne
    subst hne
    exact ptext_nodir ab _ d
  · simp [hne]

theorem ptext_size {v : Wy} (w : WyOk v) : (ptext v).size ≤ 100000 := by
  by_cases hne : v.parts = []
  · obtain ⟨ab, ps, d⟩ := v
    have hne : ps = [] := hne
    subst hne
    cases ab <;> cases d <;> decide
  · rw [ptext_list w hne, mkB_size]
    have := joinL_len v.parts fun p hp => (w.ok p hp).1
    have := w.len
    simp only [List.length_append]
    split <;> split <;> simp <;> omega

/-! A path of names. -/
end Go.Gb
namespace Go.Gb
open Go.Proofs IntWalk

/-! ## PathParses, PathBack, PathNames -/

def wsame (v v' : Wy) : Bool := decide (v.abs = v'.abs ∧ v.dir = v'.dir ∧ v.parts = v'.parts)

theorem same4.c {h : Heap} {a a' : Option Addr} {c c' : Nat} {l l' : List ByteArray} {d0 d1 d2 d3 : Bool} {Q : Value → Heap → Prop} (p : Pts h a l.length c l) (p' : Pts h a' l.length c' l') (hl : l.length ≤ 300)
    (hq : Q (.bool (decide (l = l'))) h) : ∀ (n i : Nat), i + n = l.length → l.take i = l'.take i → gabionlaw18_same.L4 (l.length : Int) (i : Int) d0 a l.length c d1 d2 a' l.length c' d3 h Q := by
  have hl' := p'.len
  intro n
  induction n with
  | zero =>
    intro i hi ht
    refine gabionlaw18_same.L4.ok (xsIf_f (by simp; omega) ?_)
    rw [List.take_of_length_le (by omega), List.take_of_length_le (by omega)] at ht
    rw [decide_eq_true ht] at hq; exact hq
  | succ n ih =>
    intro i hi ht
    have h1 : i < l.length := by omega
    have h2 : i < l'.length := by omega
    refine gabionlaw18_same.L4.ok (xsIf_t (by simp; omega) ⟨⟨by omega, by omega⟩, p.at h1 fun b o hc => ⟨⟨by omega, by omega⟩, p'.at h2 fun b' o' hc' => ⟨l[i], by rw [Int.toNat_natCast]; exact hc, l'[i], by rw [Int.toNat_natCast]; exact hc', xsIf_intro (fun e => ?_) fun e => ?_⟩⟩⟩)
    · have e : l[i] ≠ l'[i] := by simpa using e
      have : l ≠ l' := fun h => by subst h; exact e rfl
      rw [decide_eq_false this] at hq; exact hq
    · have e : l[i] = l'[i] := by simpa using e
      rw [i64_in _ (by omega)]
      refine ih (i + 1) (by omega) ?_
      rw [List.take_succ, List.take_succ, ht, List.getElem?_eq_getElem h1, List.getElem?_eq_getElem h2, e]

theorem same.c {h : Heap} {v v' : Wy} {a a' : Option Addr} {c c' : Nat} {Q : Value → Heap → Prop} (p : Pts h a v.parts.length c v.parts) (p' : Pts h a' v'.parts.length c' v'.parts) (hl : v.parts.length ≤ 300)
    (hq : Q (.bool (wsame v v')) h) : C Tryd.prog 14 #[.agg #[.bool v.abs, .slice a v.parts.length c, .bool v.dir], .agg #[.bool v'.abs, .slice a' v'.parts.length c', .bool v'.dir]] h Q := by
  unfold wsame at hq
  have no : ¬ (v.abs = v'.abs ∧ v.dir = v'.dir ∧ v.parts = v'.parts) → Q (.bool false) h := fun hn => by rw [decide_eq_false hn] at hq; exact hq
  refine gabionlaw18_same.ok (xsIf_intro (fun e1 => no ?_) fun e1 => xsIf_intro (fun e2 => no ?_) fun e2 => xsIf_intro (fun e3 => no ?_) fun e3 => ?_)
  · rintro ⟨h1, _, _⟩; rw [h1] at e1; simp at e1
  · rintro ⟨_, h1, _⟩; rw [h1] at e2; simp at e2
  · rintro ⟨_, _, h1⟩; rw [h1] at e3; simp at e3
  · have e1 : v.abs = v'.abs := by simpa using e1
    have e2 : v.dir = v'.dir := by simpa using e2
    have e3 : v.parts.length = v'.parts.length := by
      have : (v.parts.length : Int) = v'.parts.length := by simpa using e3
      omega
    refine gabionlaw18_same.J3.ok ?_
    rw [← e3] at p' ⊢
    refine same4.c p p' hl ?_ v.parts.length 0 (by omega) rfl
    have : decide (v.parts = v'.parts) = decide (v.abs = v'.abs ∧ v.dir = v'.dir ∧ v.parts = v'.parts) := by simp [e1, e2]
    rw [this]; exact hq

theorem wakes18.c {h : Heap} {Q : Value → Heap → Prop} (hq : ∀ h', Part h h' → Q (.bool true) h') : C Tryd.prog 13 #[] h Q := by
  refine gabionlaw18_wakes.ok (path_Parse.c (by decide) fun v e a c h' hp p q => ?_)
  have hv : (v, e) = ((⟨true, [mkB [97], mkB [98]], true⟩ : Wy), (0 : Int)) := hp.symm.trans rfl
  have hv1 : v = ⟨true, [mkB [97], mkB [98]], true⟩ := congrArg Prod.fst hv
  have hv2 : e = 0 := congrArg Prod.snd hv
  subst hv1 hv2
  refine ⟨true, a, 2, c, true, 0, rfl, xsIf_t rfl (xsIf_t rfl (xsIf_t rfl (xsIf_t rfl ⟨by decide, p.at (i := 1) (by decide) fun b o hc => ⟨mkB [98], hc, xsIf_t rfl ?_⟩⟩)))⟩
  exact text.c (w := ⟨true, [mkB [97], mkB [98]], true⟩) p (by decide) (by decide) ⟨_, rfl, hq _ q⟩

theorem cut300 (s : ByteArray) (hs : s.size ≤ 140737488351232) (n : Nat) (hn : n ≤ 1000) : (0 ≤ imin (s.size : Int) n ∧ imin (s.size : Int) n ≤ s.size) ∧ (sext s 0 (imin (s.size : Int) n)).size ≤ n := by
  rw [imin_eq]
  refine ⟨by omega, ?_⟩
  unfold sext
  rw [ByteArray.size_extract]
  omega

theorem gabionlaw18_PathBack.law (s : ByteArray) (hs : s.size ≤ 140737488351232) (h : Heap) : C Tryd.prog 4 #[.string s] h fun v h' => v = .bool true ∧ Part h h' := by
  obtain ⟨h1, h2⟩ := cut300 s hs 300 (by omega)
  refine gabionlaw18_PathBack.ok ⟨h1, path_Parse.c (Nat.lt_of_le_of_lt h2 (by decide)) fun v e a c g hp p q => ⟨_, _, _, _, _, _, rfl, wakes18.c fun g2 q2 => ⟨_, rfl, xsIf_f rfl (xsIf_intro (fun _ => wakes18.c fun g3 q3 => ⟨_, rfl, rfl, (q.trans q2).trans q3⟩) fun he => gabionlaw18_PathBack.J5.ok ?_)⟩⟩⟩
  have w := pparse_ok hp
  have p1 := p.part q2
  have hn : v.parts.length ≤ 1000000 := by have := w.len; omega
  refine text.c p1 hn w.join ⟨_, rfl, ?_⟩
  have hsz := ptext_size w
  refine path_Parse.c (by omega) fun v3 e3 a3 c3 g3 hp3 p3 q3 => ⟨_, _, _, _, _, _, rfl, ?_⟩
  rw [pparse_text w] at hp3
  have hP := (q.trans q2).trans q3
  by_cases hbig : 256 < (ptext v).size
  · rw [if_pos hbig] at hp3
    refine xsIf_t (by simp; omega) ⟨?_, hP⟩
    have : e3 = 9 := (congrArg Prod.snd hp3).symm
    rw [this]; rfl
  · rw [if_neg hbig] at hp3
    have hv1 : v3 = ⟨v.abs, v.parts, v.dir || decide (v.parts = [])⟩ := (congrArg Prod.fst hp3).symm
    have hv2 : e3 = 0 := (congrArg Prod.snd hp3).symm
    subst hv2
    have p4 := p1.part q3
    have fin : ∀ d : Bool, d = (v.dir || decide (v.parts = [])) → xsIf (decide ((0 : Int) = 0))
        (C Tryd.prog 14 #[.agg #[.bool v3.abs, .slice a3 v3.parts.length c3, .bool v3.dir], .agg #[.bool v.abs, .slice a v.parts.length c, .bool d]] g3 fun (r : Value) (h' : Heap) => ∃ x : Bool, r = .bool x ∧ xsIf x
          (C Tryd.prog 15 #[.agg #[.bool v3.abs, .slice a3 v3.parts.length c3, .bool v3.dir]] h' fun (r : Value) (h' : Heap) => ∃ y : ByteArray, r = .string y ∧ (Value.bool (decide (y = ptext v)) = .bool true ∧ Part h h'))
          (Value.bool false = .bool true ∧ Part h h'))
        (Value.bool false = .bool true ∧ Part h g3) := by
      rintro d rfl
      refine xsIf_t rfl (same.c (v' := ⟨v.abs, v.parts, v.dir || decide (v.parts = [])⟩) p3 p4 (by rw [hv1]; exact w.len) ⟨_, rfl, xsIf_t (by unfold wsame; rw [hv1]; simp) ?_⟩)
      have w3 : WyOk v3 := by rw [hv1]; exact ⟨w.len, w.ok⟩
      refine text.c p3 (by have := w3.len; omega) w3.join ⟨_, rfl, ?_, hP⟩
      rw [hv1, ptext_again]; simp
    refine xsIf_f (by simp; omega) (xsIf_intro (fun hd => ?_) fun hd => ?_)
    · exact fin true (by rw [hd]; rfl)
    · refine fin (decide ((v.parts.length : Int) = 0)) ?_
      rw [hd, Bool.false_or, Bool.eq_iff_iff, decide_eq_true_eq, decide_eq_true_eq]
      rw [← List.length_eq_zero_iff]; omega
end Go.Gb
