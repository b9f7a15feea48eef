/- Own texts for the seat: Pa5 Pa6 Pa7 Pa8 Pa9 PaA PaB PaC. -/
import Derived.Test.YtcccjpahikgibaaDoorB3
import Derived.Test.YtcccjpahikgibaaDoorLayJ
import Derived.Test.YtcccjpahikgibaaDoorA13
import Derived.Test.YtcccjpahikgibaaDoorB1
set_option linter.unusedVariables false
set_option linter.unusedSimpArgs false
set_option linter.unnecessarySimpa false
set_option linter.deprecated false
namespace Go.Gb
open Go.Proofs Go.RowKit Go.Shelf IntWalk

/-! ## Text, and the document's Parse and Text -/

theorem Tryd.joinX : Builder.Extra Tryd.prog Tryd.join_ren where
  sizeBuilder := by kernel_rfl
  liesBuilder := by kernel_rfl
  t5 := Tryd.underlying5
  a5 := Tryd.isAgg5
  z5 := Tryd.sizeOf5
  v5 := Tryd.zeroValue5
  infoByte := by kernel_rfl
  cellsByte := by kernel_rfl
  sizeByte := by kernel_rfl
  neB5 := by decide

def joinL (l : List ByteArray) : List UInt8 := Lib.join (l.map (·.data.toList)) [47]

theorem Pts.at {h : Heap} {a : Option Addr} {n c : Nat} {l : List ByteArray} {K : Nat → Nat → Prop} (p : Pts h a n c l) {i : Nat} (hi : i < l.length) (hk : ∀ b o, h.cell b (o + i * 1) = some (.string l[i]) → K b o) : atBase a K := by
  refine reads_base p.reads (by rw [List.length_map]; omega) fun b o hc => hk b o ?_
  rw [hc i (by rw [List.length_map]; exact hi), List.getElem?_map, List.getElem?_eq_getElem hi]; rfl

theorem join.c {h : Heap} {a : Option Addr} {n c : Nat} {l : List ByteArray} {Q : Value → Heap → Prop} (p : Pts h a n c l) (hn : n ≤ 1000000) (hl : (joinL l).length ≤ 1000000) (hq : Q (.string (mkB (joinL l))) h) :
    C Tryd.prog 33 #[.slice a n c, .string slashB] h Q := by
  intro w hs
  have hlen := p.len
  have done : ∀ (e : Ending) (w' : World), e = .returned (.string (mkB (joinL l))) → Below w.heap.size w w' → ∃ v h', e = .returned v ∧ Q v h' ∧ Post h w h' w' := fun e w' he hb => (⟨.string (mkB (joinL l)), h, he, hq, fun k o e => (hb.block k ((Array.getElem?_eq_some_iff.1 (hs k o e)).1)).trans (hs k o e), hb.size, fun k hk _ => hb.block k hk, fun k hk => .inl hk, hb.os, hb.output, hb.tape⟩)
  by_cases h0 : n = 0
  · subst h0
    have e0 : l = [] := List.eq_nil_of_length_eq_zero hlen
    subst e0
    refine (Any.strings_Join_none Tryd.join Tryd.joinX a c slashB w).mono ?_
    rintro e w' ⟨rfl, rfl⟩
    exact done _ _ rfl (Below.refl _ _)
  · rcases p.reads with hr | ⟨b, o, rfl, hc⟩
    · have : l = [] := by simpa using hr
      rw [this] at hlen; simp at hlen; omega
    · have hcell : ∀ (j : Nat) x, l[j]? = some x → w.cell? ⟨b, o + j, none⟩ = some (.string x) := by
        intro j x hj
        have hlt : j < l.length := (List.getElem?_eq_some_iff.1 hj).1
        have := hc j (by rw [List.length_map]; exact hlt)
        rw [List.getElem?_map, hj] at this
        exact cell?_sub hs this
      have hbk : b < w.heap.size := by
        have := hcell 0 l[0] (by rw [List.getElem?_eq_getElem])
        unfold World.cell? at this
        split at this
        · rename_i hx; exact (Array.getElem?_eq_some_iff.1 hx).1
        · cases this
      have := Any.strings_Join Tryd.join Tryd.joinX b o c l slashB w hcell hbk (by omega) (by have := p.le; omega) (by show (joinL l).length ≤ _; omega)
      rw [hlen] at this
      refine this.mono ?_
      rintro e w' ⟨rfl, hb⟩
      exact done _ _ rfl hb

/-- P18.2 -/
def ptext (w : Wy) : ByteArray :=
  let x := mkB (joinL w.parts)
  if w.abs = true then if x ≠ ⟨#[]⟩ ∧ w.dir = true then slashB ++ x ++ slashB else slashB ++ x
  else if x = ⟨#[]⟩ then hereB else if w.dir = true then x ++ slashB else x

theorem mkB_size (l : List UInt8) : (mkB l).size = l.length := by show l.toArray.size = _; simp

theorem text.c {h : Heap} {w : Wy} {a : Option Addr} {n c : Nat} {Q : Value → Heap → Prop} (p : Pts h a n c w.parts) (hn : n ≤ 1000000) (hl : (joinL w.parts).length ≤ 1000000) (hq : Q (.string (ptext w)) h) :
    C Tryd.prog 15 #[.agg #[.bool w.abs, .slice a n c, .bool w.dir]] h Q := by
  refine path_Way_Text.ok (join.c p hn hl ⟨_, rfl, ?_⟩)
  have hx : (mkB (joinL w.parts)).size ≤ 1000000 := by rw [mkB_size]; exact hl
  have hx2 : (slashB ++ mkB (joinL w.parts)).size ≤ 1000001 := by rw [ByteArray.size_append]; show 1 + _ ≤ _; omega
  unfold ptext at hq
  dsimp only at hq
  generalize hX : mkB (joinL w.parts) = x at hq hx hx2
  have b1 : ((1 + x.size : Nat) : Int) ≤ 9223372036854775807 := by omega
  have b2 : ((x.size + 1 : Nat) : Int) ≤ 9223372036854775807 := by omega
  have b3 : (((slashB ++ x).size + 1 : Nat) : Int) ≤ 9223372036854775807 := by omega
  obtain ⟨ab, ps, d⟩ := w
  show xsIf ab (xsIf (decide (x ≠ ⟨#[]⟩)) (xsIf d _ _) _) _
  cases ab with
  | true =>
    refine xsIf_t rfl ?_
    by_cases hx0 : x = ⟨#[]⟩
    · refine xsIf_f (by simpa using hx0) (xsIf_t rfl ⟨b1, ?_⟩)
      rw [if_pos rfl, if_neg (fun h => h.1 hx0)] at hq; exact hq
    · refine xsIf_t (by simpa using hx0) ?_
      cases d with
      | true =>
        refine xsIf_t rfl ⟨b1, b3, ?_⟩
        rw [if_pos rfl, if_pos ⟨hx0, rfl⟩] at hq; exact hq
      | false =>
        refine xsIf_f rfl (xsIf_t rfl ⟨b1, ?_⟩)
        rw [if_pos rfl, if_neg (fun h => by cases h.2)] at hq; exact hq
  | false =>
    refine xsIf_f rfl (xsIf_f rfl ?_)
    rw [if_neg (by simp)] at hq
    by_cases hx0 : x = ⟨#[]⟩
    · refine xsIf_t (by simpa using hx0) ?_
      rw [if_pos hx0] at hq; exact hq
    · refine xsIf_f (by simpa using hx0) ?_
      rw [if_neg hx0] at hq
      cases d with
      | true => exact xsIf_t rfl ⟨b2, by rw [if_pos rfl] at hq; exact hq⟩
      | false => exact xsIf_f rfl (by rw [if_neg (by simp)] at hq; exact hq)
end Go.Gb
namespace Go.Gb
open Go.Proofs IntWalk

/-! ## The document's Parse -/

/-- A piece goes on behind what was read of it. -/
def pre (part : List UInt8) : List (List UInt8) → List (List UInt8)
  | [] => [part]
  | p :: ps => (part ++ p) :: ps


end Go.Gb
namespace Go.Gb
open Go.Proofs IntWalk

/-! ## The document's Text; what a parsed way is; same; wakes -/

/-- A part of a way. -/
def PartOk (p : ByteArray) : Prop := p.size ≤ 300 ∧ p ≠ ⟨#[]⟩ ∧ p ≠ hereB ∧ (nameE p = 0 ∨ p = upB)
structure WyOk (v : Wy) : Prop where
  len : v.parts.length ≤ 300
  ok : ∀ p ∈ v.parts, PartOk p

theorem pall_inv : ∀ (l : List ByteArray) (v v' : Wy), pall l v = .ok v' → (∀ p ∈ l, p.size ≤ 300) → (∀ p ∈ v.parts, PartOk p) → v'.parts.length ≤ v.parts.length + l.length ∧ ∀ p ∈ v'.parts, PartOk p
  | [], v, v', h, _, hv => by cases h; exact ⟨by simp, hv⟩
  | x :: l, v, v', h, hl, hv => by
    have hx := hl x (by simp)
    have hl' : ∀ p ∈ l, p.size ≤ 300 := fun p hp => hl p (by simp [hp])
    by_cases h1 : x = ⟨#[]⟩ ∨ x = hereB
    · rw [pall_ok (v := { v with dir := true }) (by unfold pstep; rw [if_pos h1])] at h
      obtain ⟨q1, q2⟩ := pall_inv l _ v' h hl' hv
      exact ⟨by simp at q1 ⊢; omega, q2⟩
    · by_cases h2 : nameE x ≠ 0 ∧ x ≠ upB
      · rw [pall_err (e := nameE x) (by unfold pstep; rw [if_neg h1, if_pos h2])] at h; cases h
      · rw [pall_ok (v := ⟨v.abs, v.parts ++ [x], false⟩) (by unfold pstep; rw [if_neg h1, if_neg h2])] at h
        obtain ⟨q1, q2⟩ := pall_inv l _ v' h hl' (fun p hp => by
          rcases List.mem_append.1 hp with hp | hp
          · exact hv p hp
          · have : p = x := by simpa using hp
            subst this
            refine ⟨hx, fun e => h1 (.inl e), fun e => h1 (.inr e), ?_⟩
            by_cases e : nameE p = 0
            · exact .inl e
            · exact .inr (Classical.byContradiction fun e2 => h2 ⟨e, e2⟩))
        exact ⟨by simp at q1 ⊢; omega, q2⟩

theorem noWy_ok : WyOk noWy := ⟨by decide, fun p hp => by cases hp⟩

theorem pparse_ok {s : ByteArray} {v : Wy} {e : Int} (h : pparse s = (v, e)) : WyOk v := by
  unfold pparse at h
  split at h
  · cases h; exact noWy_ok
  · split at h
    · cases h; exact noWy_ok
    · rename_i h2
      cases hp : pall (piecesL s.data.toList) ⟨pabs s, [], false⟩ with
      | error e => rw [hp] at h; cases h; exact noWy_ok
      | ok w =>
        rw [hp] at h; cases h
        have hl := piecesL_len s.data.toList
        rw [bytes_len] at hl
        obtain ⟨q1, q2⟩ := pall_inv _ _ _ hp (fun p hp => by have := piecesL_mem hp; rw [bytes_len] at this; omega) (fun p hp => by cases hp)
        exact ⟨by simp at q1; omega, q2⟩

theorem joinL_len : ∀ (l : List ByteArray), (∀ p ∈ l, p.size ≤ 300) → (joinL l).length ≤ 301 * l.length := by
  intro l
  cases l with
  | nil => intro _; simp [joinL, Lib.join_nil]
  | cons y r =>
    intro h
    unfold joinL
    rw [List.map_cons, Lib.join_cons, List.length_append, Lib.joinTail_length, List.length_map]
    have hy : y.data.toList.length ≤ 300 := by rw [bytes_len]; exact h y (by simp)
    have hr : Lib.lens (r.map fun x : ByteArray => x.data.toList) ≤ 300 * r.length := by
      have hr' : ∀ p ∈ r, p.size ≤ 300 := fun p hp => h p (by simp [hp])
      clear h hy
      induction r with
      | nil => simp [Lib.lens]
      | cons z r ih =>
        have := ih fun p hp => hr' p (by simp [hp])
        have hz : z.data.toList.length ≤ 300 := by rw [bytes_len]; exact hr' z (by simp)
        simp only [Lib.lens, List.map_cons, List.sum_cons, List.length_cons] at this ⊢
        omega
    have e1 : [(47 : UInt8)].length * r.length = r.length := by simp
    rw [e1, List.length_cons]
    omega

theorem WyOk.join {v : Wy} (w : WyOk v) : (joinL v.parts).length ≤ 1000000 := by
  have := joinL_len v.parts fun p hp => (w.ok p hp).1
  have := w.len
  omega

end Go.Gb
namespace Go.Gb
open Go.Proofs IntWalk

/-! ## The way of a way's text (no program in sight) -/

def noSl (l : List UInt8) : Prop := ∀ b ∈ l, b ≠ 47

theorem noSl_of {p : ByteArray} (h : badS p = false) : noSl p.data.toList := by
  intro b hb e
  unfold badS at h
  have := List.any_eq_false.1 h b hb
  rw [e] at this
  exact this (by decide)

theorem nameE_zero {p : ByteArray} (h : nameE p = 0) : p ≠ ⟨#[]⟩ ∧ p.size ≤ 32 ∧ p ≠ hereB ∧ p ≠ upB ∧ badS p = false := by
  unfold nameE at h
  split at h
  · cases h
  · rename_i hn
    refine ⟨fun e => hn (.inl e), ?_, fun e => hn (.inr (.inr (.inl e))), fun e => hn (.inr (.inr (.inr (.inl e)))), ?_⟩
    · exact Nat.le_of_not_lt fun e => hn (.inr (.inl e))
    · cases e : badS p with
      | false => rfl
      | true => exact absurd (.inr (.inr (.inr (.inr e)))) hn

theorem PartOk.sl {p : ByteArray} (h : PartOk p) : noSl p.data.toList := by
  rcases h.2.2.2 with h | rfl
  · exact noSl_of (nameE_zero h).2.2.2.2
  · exact noSl_of (by decide)

theorem PartOk.step {p : ByteArray} (h : PartOk p) (v : Wy) : pstep v p = .ok ⟨v.abs, v.parts ++ [p], false⟩ := by
  unfold pstep
  rw [if_neg (fun e => e.elim h.2.1 h.2.2.1), if_neg]
  rintro ⟨h1, h2⟩
  exact h.2.2.2.elim h1 h2

/-! A path of names. -/
end Go.Gb
namespace Go.Gb
open Go.Proofs IntWalk

/-! ## PathParses, PathBack, PathNames -/

def wsame (v v' : Wy) : Bool := decide (v.abs = v'.abs ∧ v.dir = v'.dir ∧ v.parts = v'.parts)

theorem same4.c {h : Heap} {a a' : Option Addr} {c c' : Nat} {l l' : List ByteArray} {d0 d1 d2 d3 : Bool} {Q : Value → Heap → Prop} (p : Pts h a l.length c l) (p' : Pts h a' l.length c' l') (hl : l.length ≤ 1000)
    (hq : Q (.bool (decide (l = l'))) h) : ∀ (n i : Nat), i + n = l.length → l.take i = l'.take i → gabionlaw18_same.L4 (l.length : Int) (i : Int) d0 a l.length c d1 d2 a' l.length c' d3 h Q := by
  have hl' := p'.len
  intro n
  induction n with
  | zero =>
    intro i hi ht
    refine gabionlaw18_same.L4.ok (xsIf_f (by simp; omega) ?_)
    rw [List.take_of_length_le (by omega), List.take_of_length_le (by omega)] at ht
    rw [decide_eq_true ht] at hq; exact hq
  | succ n ih =>
    intro i hi ht
    have h1 : i < l.length := by omega
    have h2 : i < l'.length := by omega
    refine gabionlaw18_same.L4.ok (xsIf_t (by simp; omega) ⟨⟨by omega, by omega⟩, p.at h1 fun b o hc => ⟨⟨by omega, by omega⟩, p'.at h2 fun b' o' hc' => ⟨l[i], by rw [Int.toNat_natCast]; exact hc, l'[i], by rw [Int.toNat_natCast]; exact hc', xsIf_intro (fun e => ?_) fun e => ?_⟩⟩⟩)
    · have e : l[i] ≠ l'[i] := by simpa using e
      have : l ≠ l' := fun h => by subst h; exact e rfl
      rw [decide_eq_false this] at hq; exact hq
    · have e : l[i] = l'[i] := by simpa using e
      rw [i64_in _ (by omega)]
      refine ih (i + 1) (by omega) ?_
      rw [List.take_succ, List.take_succ, ht, List.getElem?_eq_getElem h1, List.getElem?_eq_getElem h2, e]

theorem same.c {h : Heap} {v v' : Wy} {a a' : Option Addr} {c c' : Nat} {Q : Value → Heap → Prop} (p : Pts h a v.parts.length c v.parts) (p' : Pts h a' v'.parts.length c' v'.parts) (hl : v.parts.length ≤ 1000)
    (hq : Q (.bool (wsame v v')) h) : C Tryd.prog 14 #[.agg #[.bool v.abs, .slice a v.parts.length c, .bool v.dir], .agg #[.bool v'.abs, .slice a' v'.parts.length c', .bool v'.dir]] h Q := by
  unfold wsame at hq
  have no : ¬ (v.abs = v'.abs ∧ v.dir = v'.dir ∧ v.parts = v'.parts) → Q (.bool false) h := fun hn => by rw [decide_eq_false hn] at hq; exact hq
  refine gabionlaw18_same.ok (xsIf_intro (fun e1 => no ?_) fun e1 => xsIf_intro (fun e2 => no ?_) fun e2 => xsIf_intro (fun e3 => no ?_) fun e3 => ?_)
  · rintro ⟨h1, _, _⟩; rw [h1] at e1; simp at e1
  · rintro ⟨_, h1, _⟩; rw [h1] at e2; simp at e2
  · rintro ⟨_, _, h1⟩; rw [h1] at e3; simp at e3
  · have e1 : v.abs = v'.abs := by simpa using e1
    have e2 : v.dir = v'.dir := by simpa using e2
    have e3 : v.parts.length = v'.parts.length := by
      have : (v.parts.length : Int) = v'.parts.length := by simpa using e3
      omega
    refine gabionlaw18_same.J3.ok ?_
    rw [← e3] at p' ⊢
    refine same4.c p p' hl ?_ v.parts.length 0 (by omega) rfl
    have : decide (v.parts = v'.parts) = decide (v.abs = v'.abs ∧ v.dir = v'.dir ∧ v.parts = v'.parts) := by simp [e1, e2]
    rw [this]; exact hq

theorem wakes18.c {h : Heap} {Q : Value → Heap → Prop} (hq : ∀ h', Part h h' → Q (.bool true) h') : C Tryd.prog 13 #[] h Q := by
  refine gabionlaw18_wakes.ok (path_Parse.c (by decide) fun v e a c h' hp p q => ?_)
  have hv : (v, e) = ((⟨true, [mkB [97], mkB [98]], true⟩ : Wy), (0 : Int)) := hp.symm.trans rfl
  have hv1 : v = ⟨true, [mkB [97], mkB [98]], true⟩ := congrArg Prod.fst hv
  have hv2 : e = 0 := congrArg Prod.snd hv
  subst hv1 hv2
  refine ⟨true, a, 2, c, true, 0, rfl, xsIf_t rfl (xsIf_t rfl (xsIf_t rfl (xsIf_t rfl ⟨by decide, p.at (i := 1) (by decide) fun b o hc => ⟨mkB [98], hc, xsIf_t rfl ?_⟩⟩)))⟩
  exact text.c (w := ⟨true, [mkB [97], mkB [98]], true⟩) p (by decide) (by decide) ⟨_, rfl, hq _ q⟩

theorem cut300 (s : ByteArray) (hs : s.size ≤ 140737488351232) (n : Nat) (hn : n ≤ 1000) : (0 ≤ imin (s.size : Int) n ∧ imin (s.size : Int) n ≤ s.size) ∧ (sext s 0 (imin (s.size : Int) n)).size ≤ n := by
  rw [imin_eq]
  refine ⟨by omega, ?_⟩
  unfold sext
  rw [ByteArray.size_extract]
  omega

end Go.Gb
namespace Go.Gb
open Go.Proofs IntWalk

/-! ## PathNames -/

theorem slBase_at (a : Option Addr) (c : Nat) : slBase a (c : Int) 0 1 = a := slBase0 a c 1

end Go.Gb
namespace Go.Gb
open Go.Proofs IntWalk

/-! ## slices.Clone, slices.Concat, Join, Last -/

/-- A slice of one's own, as parts. -/
theorem Sl.pts {F : Nat → Prop} {h : Heap} {a : Option Addr} {n c : Nat} {l : List ByteArray} (w : Sl F h 9 1 a n c (l.map Value.string)) : Pts h a n c l := Pts.of_sl w (by have := w.len; simpa using this)

/-- append of parts to a slice of one's own. -/
theorem app_pts {h0 h : Heap} {a x : Option Addr} {n c m cx : Nat} {l r : List ByteArray} {K : Option Addr → Nat → Nat → Heap → Prop} (w : Sl (fun k => h0 k = none) h 9 1 a n c (l.map Value.string)) (hp : Part h0 h)
    (p : Pts h x m cx r) (hm : n + m ≤ 1000)
    (hk : ∀ a' c' h', Sl (fun k => h0 k = none) h' 9 1 a' (n + m) c' ((l ++ r).map Value.string) → Part h0 h' → K a' (n + m) c' h') : xsApp Tryd.prog 9 h a n c x m K := by
  refine w.append (new := r.map Value.string) (by kernel_rfl) (by decide) (by rw [List.length_map, p.len]; omega) (oneCells_of fun v hv => by
    obtain ⟨s, _, rfl⟩ := List.mem_map.1 hv; rfl) p.reads (by kernel_rfl) (by rw [show cellBytes Tryd.prog 9 = 16 from by kernel_rfl]; omega) fun a' c' F' h' hS st hF => hk a' c' h' ?_ (st.part hp fun k hk e => hk e)
  rw [List.map_append]
  refine hS.keep (fun k hk => ?_) fun _ _ _ => rfl
  rcases st.sub k hk with h1 | h1
  · exact h1
  · exact hp.none h1

theorem empty_sl {h : Heap} {b : Nat} (hb : h b = none) : Sl (fun k => h k = none) (upd h b (.cells #[] 9 (0, 0))) 9 1 (some ⟨b, 0, none⟩) 0 0 (([] : List ByteArray).map Value.string) :=
  ⟨rfl, .inr ⟨b, #[], rfl, hb, upd_same _ _ _, rfl, Nat.le_refl _, rfl⟩⟩

theorem clone.c {h : Heap} {a : Option Addr} {n c : Nat} {l : List ByteArray} {Q : Value → Heap → Prop} (p : Pts h a n c l) (hn : n ≤ 1000) (hq : ∀ a' c' h', Pts h' a' n c' l → Part h h' → Q (.slice a' n c') h') :
    C Tryd.prog 34 #[.slice a n c] h Q := by
  refine slices_Clone_string_string.ok (xsIf_intro (fun e => ?_) fun e b hb => ?_)
  · have : a = none := by cases a with
      | none => rfl
      | some x => cases e
    subst this
    rcases p.reads with hr | ⟨b, o, hx, _⟩
    · have hl : l = [] := by simpa using hr
      subst hl
      have : n = 0 := p.len.symm
      subst this
      exact hq none 0 h (Pts.nil h) (Part.refl _)
    · cases hx
  · refine app_pts (l := []) (empty_sl hb) (Part.upd hb _) (p.part (Part.upd hb _)) (by omega) fun a' c' h' hS hP => ?_
    rw [Nat.zero_add] at hS ⊢
    exact hq a' c' h' hS.pts hP

theorem concat11 {h0 : Heap} {b : Nat} {a x y : Option Addr} {n m cx cy : Nat} {l r : List ByteArray} {c : Nat} {h : Heap} {Q : Value → Heap → Prop} (hb : Blk h0 b [.slice x n cx, .slice y m cy]) (px : Pts h0 x n cx l) (py : Pts h0 y m cy r)
    (hn : n + m ≤ 1000) (w : Sl (fun k => h0 k = none) h 9 1 a 0 c (([] : List ByteArray).map Value.string)) (hp : Part h0 h)
    (hq : ∀ a' c' h', Pts h' a' (n + m) c' (l ++ r) → Part h0 h' → Q (.slice a' (n + m) c') h') : slices_Concat_string_string.L11 a 0 c (some ⟨b, 0, none⟩) 2 2 2 0 h Q := by
  have kb : ∀ {g : Heap}, Part h0 g → Blk g b [.slice x n cx, .slice y m cy] := fun q => by obtain ⟨T, e⟩ := hb; exact ⟨T, q _ _ e⟩
  refine slices_Concat_string_string.L11.ok (xsIf_t (by decide) ⟨by decide, b, 0, rfl, x, n, cx, (kb hp).cell 0, ?_⟩)
  refine app_pts (l := []) w hp (px.part hp) (by omega) fun a1 c1 h1 w1 p1 => ?_
  rw [Nat.zero_add] at w1 ⊢
  refine slices_Concat_string_string.L11.ok (xsIf_t (by decide) ⟨by decide, b, 0, rfl, y, m, cy, (kb p1).cell 1, ?_⟩)
  refine app_pts (l := l) w1 p1 (py.part p1) hn fun a2 c2 h2 w2 p2 => ?_
  exact slices_Concat_string_string.L11.ok (xsIf_f (by decide) (hq a2 c2 h2 w2.pts p2))

theorem concat.c {h : Heap} {b : Nat} {x y : Option Addr} {n m cx cy : Nat} {l r : List ByteArray} {Q : Value → Heap → Prop} (hb : Blk h b [.slice x n cx, .slice y m cy]) (px : Pts h x n cx l) (py : Pts h y m cy r) (hn : n + m ≤ 1000)
    (hq : ∀ a' c' h', Pts h' a' (n + m) c' (l ++ r) → Part h h' → Q (.slice a' (n + m) c') h') : C Tryd.prog 35 #[.slice (some ⟨b, 0, none⟩) 2 2] h Q := by
  refine slices_Concat_string_string.ok (slices_Concat_string_string.L3.ok (xsIf_t (by decide) ⟨by decide, b, 0, rfl, x, n, cx, hb.cell 0, xsIf_f ?_ ?_⟩))
  · rw [i64_in _ (by omega)]; simp
  refine slices_Concat_string_string.J8.ok (slices_Concat_string_string.L3.ok (xsIf_t (by decide) ⟨by decide, b, 0, rfl, y, m, cy, hb.cell 1, xsIf_f ?_ ?_⟩))
  · rw [i64_in (0 + (n : Int)) (by omega), i64_in _ (by omega)]; simp; omega
  refine slices_Concat_string_string.J8.ok (slices_Concat_string_string.L3.ok (xsIf_f (by decide) ?_))
  have e0 : IntKind.i64.wrap (IntKind.i64.wrap (0 + (n : Int)) + (m : Int)) = ((n + m : Nat) : Int) := by rw [i64_in (0 + (n : Int)) (by omega), i64_in _ (by omega)]; omega
  rw [e0]
  refine slices_Grow_string_string.ok (xsIf_f (by simp; omega) ?_)
  refine slices_Grow_string_string.J3.ok ?_
  unfold slices_Grow_string_string.J3.wp
  have e1 : IntKind.i64.wrap (((n + m : Nat) : Int) - IntKind.i64.wrap (((0 : Nat) : Int) - ((0 : Nat) : Int))) = ((n + m : Nat) : Int) := by rw [i64_in (((0 : Nat) : Int) - ((0 : Nat) : Int)) (by omega), i64_in _ (by omega)]; omega
  rw [e1]
  refine xsIf_intro (fun hpos => ⟨by decide, ?_⟩) fun hpos => ⟨none, 0, 0, rfl, ?_⟩
  · have hpos : 0 < n + m := by have : (0 : Int) < ((n + m : Nat) : Int) := by simpa using hpos
                                omega
    have hby : cellBytes Tryd.prog 9 = 16 := by kernel_rfl
    have hcs : cellSize Tryd.prog 9 = 1 := by kernel_rfl
    show xsAppZ Tryd.prog 9 h none 0 0 ((n + m : Nat) : Int) _
    refine ⟨by omega, by omega, by rw [hby]; omega, by rw [Int.toNat_natCast]; omega, by omega, ?_, [], by rw [hcs]; rfl, .inl rfl, fun b2 c' hb2 hc' => ?_⟩
    · rw [Int.toNat_natCast, hby]
      have := nextcap_le (need := 0 + (n + m)) (c := 0) (by omega)
      omega
    · rw [Int.toNat_natCast] at hc'
      rw [Int.toNat_natCast]
      refine ⟨by omega, _, _, _, rfl, ?_⟩
      have e3 : (((0 : Nat) : Int) - 0).toNat = 0 := rfl
      have e4 : ((c' : Int) - 0).toNat = c' := by omega
      rw [slBase_at, e3, e4]
      refine concat11 hb px py hn ⟨rfl, .inr ⟨b2, _, rfl, hb2, upd_same _ _ _, ?_, Nat.zero_le _, rfl⟩⟩ (Part.upd hb2 _) hq
      have hz : ∀ q, (zeros Tryd.prog 9 q).length = q := by
        intro q
        unfold zeros
        have hl : (cellZero Tryd.prog 9).length = 1 := by kernel_rfl
        induction q with
        | zero => rfl
        | succ q ih => rw [List.replicate_succ, List.flatten_cons, List.length_append, ih, hl]; omega
      rw [List.nil_append, List.size_toArray, List.length_append, hz, hz]; omega
  · have h0 : n + m = 0 := by have : ¬ (0 : Int) < ((n + m : Nat) : Int) := by simpa using hpos
                              omega
    exact concat11 hb px py hn (Sl.nil _ _ _ _) (Part.refl _) hq

/-- Join: P18.3. -/
def wjoin (a b : Wy) : Wy := if b.abs = true then b else ⟨a.abs, a.parts ++ b.parts, b.dir⟩

theorem path_Join.c {h : Heap} {v w : Wy} {a x : Option Addr} {c cx : Nat} {Q : Value → Heap → Prop} (p : Pts h a v.parts.length c v.parts) (q : Pts h x w.parts.length cx w.parts) (hn : v.parts.length + w.parts.length ≤ 1000)
    (hq : ∀ a' c' h', Pts h' a' (wjoin v w).parts.length c' (wjoin v w).parts → Part h h' → Q (.agg #[.bool (wjoin v w).abs, .slice a' (wjoin v w).parts.length c', .bool (wjoin v w).dir]) h') :
    C Tryd.prog 18 #[.agg #[.bool v.abs, .slice a v.parts.length c, .bool v.dir], .agg #[.bool w.abs, .slice x w.parts.length cx, .bool w.dir]] h Q := by
  refine path_Join.ok (xsIf_intro (fun e => ?_) fun e b hb => ?_)
  · have ew : wjoin v w = w := if_pos e
    rw [ew] at hq
    exact clone.c q (by omega) fun a' c' h' p' hp => ⟨_, _, _, rfl, hq a' c' h' p' hp⟩
  · have ew : wjoin v w = ⟨v.abs, v.parts ++ w.parts, w.dir⟩ := if_neg (by rw [e]; simp)
    rw [ew] at hq
    have hP := Part.upd hb (.cells #[.slice a v.parts.length c, .slice x w.parts.length cx] 22 (0, 0))
    refine concat.c (Blk.new h b #[.slice a v.parts.length c, .slice x w.parts.length cx] 22) (p.part hP) (q.part hP) hn fun a' c' h' p' hp => ⟨_, _, _, rfl, ?_⟩
    have := hq a' c' h' (by rw [List.length_append]; exact p') (hP.trans hp)
    rw [List.length_append] at this
    exact this

theorem path_Last.c {h : Heap} {v : Wy} {a : Option Addr} {c : Nat} {Q : Value → Heap → Prop} (p : Pts h a v.parts.length c v.parts) (hn : v.parts.length ≤ 1000)
    (h0 : v.parts = [] → Q (.tuple #[.agg #[.bool false, .slice none 0 0, .bool false], .string ⟨#[]⟩, .bool false]) h)
    (h1 : ∀ (l : List ByteArray) (x : ByteArray) a' c' h', v.parts = l ++ [x] → Pts h' a' l.length c' l → Part h h' → Q (.tuple #[.agg #[.bool v.abs, .slice a' l.length c', .bool true], .string x, .bool true]) h') :
    C Tryd.prog 19 #[.agg #[.bool v.abs, .slice a v.parts.length c, .bool v.dir]] h Q := by
  refine path_Way_Last.ok ?_
  unfold path_Way_Last.wp
  have hle := p.le
  by_cases hz : v.parts = []
  · rw [hz]
    exact xsIf_t (by rfl) (h0 hz)
  · obtain ⟨l, x, hlx⟩ : ∃ l x, v.parts = l ++ [x] := ⟨_, _, (List.dropLast_concat_getLast hz).symm⟩
    have hlen : v.parts.length = l.length + 1 := by rw [hlx, List.length_append, List.length_singleton]
    have e1 : IntKind.i64.wrap ((v.parts.length : Int) - 1) = (l.length : Int) := by rw [i64_in _ (by omega)]; omega
    rw [e1]
    have hlt : l.length < v.parts.length := by omega
    have hxi : v.parts[l.length] = x := by
      have : v.parts[l.length]? = some x := by rw [hlx]; simp
      rw [List.getElem?_eq_getElem hlt] at this
      exact Option.some.inj this
    have pl : Pts h a l.length c l := by
      refine ⟨rfl, by omega, ?_⟩
      have := p.reads
      rw [hlx, List.map_append] at this
      rcases this with e | ⟨b, o, ha, hc⟩
      · simp at e
      · refine .inr ⟨b, o, ha, fun j hj => ?_⟩
        rw [hc j (by rw [List.length_append]; omega), List.getElem?_append_left hj]
    have e2 : ((l.length : Int) - 0).toNat = l.length := by omega
    have e3 : ((c : Int) - 0).toNat = c := by omega
    rw [e2, e3, slBase_at]
    refine xsIf_f (by simp) ⟨by omega, by omega, p.at hlt fun b o hc => ?_⟩
    rw [hxi] at hc
    rw [Int.toNat_natCast]
    refine ⟨clone.c pl (by omega) fun a' c' h' p' hp => ⟨_, _, _, rfl, ⟨x, hp.cell hc, h1 l x a' c' h' hlx p' hp⟩, ⟨x, hp.cell hc, h1 l x a' c' h' hlx p' hp⟩⟩, x, hc, clone.c pl (by omega) fun a' c' h' p' hp => ⟨_, _, _, rfl, h1 l x a' c' h' hlx p' hp⟩⟩
end Go.Gb
namespace Go.Gb
open Go.Proofs IntWalk

/-! ## PathJoins -/

theorem wsame_refl (v : Wy) : wsame v v = true := by unfold wsame; simp

theorem one_pts (h : Heap) (b : Nat) (x : ByteArray) : Pts (upd h b (.cells #[.string x] 9 (0, 0))) (some ⟨b, 0, none⟩) 1 1 [x] := ⟨rfl, Nat.le_refl _, readsAt_new 9 [.string x]⟩

theorem joins9 {h0 h : Heap} {v : Wy} {a a' : Option Addr} {c c' : Nat} (hn : v.parts.length ≤ 900) (hP : Part h0 h) (p : Pts h a v.parts.length c v.parts) (q : Pts h a' v.parts.length c' v.parts) :
    gabionlaw18_PathJoins.J9 v.abs a v.parts.length c v.dir v.abs a' v.parts.length c' v.dir h fun r h' => r = .bool true ∧ Part h0 h' := by
  refine gabionlaw18_PathJoins.J9.ok (path_Last.c p (by omega) (fun hz => ?_) fun l x a2 c2 h2 hlx p2 q2 => ?_)
  · refine ⟨_, _, _, _, _, _, _, rfl, same.c p q (by omega) ⟨_, rfl, ?_⟩⟩
    rw [wsame_refl]
    have hl : v.parts.length = 0 := by rw [hz]; rfl
    refine xsIf_f rfl (xsIf_f (by rw [hl]; rfl) (gabionlaw18_PathJoins.J12.ok (xsIf_t rfl (xsIf_t rfl ?_))))
    exact same.c (v := noWy) (v' := noWy) (Pts.nil h) (Pts.nil h) (by decide) ⟨_, rfl, rfl, hP⟩
  · have hlen : v.parts.length = l.length + 1 := by rw [hlx, List.length_append, List.length_singleton]
    refine ⟨_, _, _, _, _, _, _, rfl, same.c (p.part q2) (q.part q2) (by omega) ⟨_, rfl, ?_⟩⟩
    rw [wsame_refl]
    refine xsIf_f rfl (xsIf_f (by rw [hlen]; simp) (gabionlaw18_PathJoins.J12.ok (xsIf_f rfl fun b hb => ?_)))
    have hB := Part.upd hb (.cells #[.string x] 9 (0, 0))
    refine path_Join.c (v := ⟨v.abs, l, true⟩) (w := ⟨false, [x], v.dir⟩) (p2.part hB) (one_pts h2 b x) (by show l.length + 1 ≤ 1000; omega) fun a3 c3 h3 p3 q3 => ?_
    have ew : wjoin ⟨v.abs, l, true⟩ ⟨false, [x], v.dir⟩ = v := by
      unfold wjoin
      rw [if_neg (by simp), ← hlx]
    rw [ew] at p3 ⊢
    refine ⟨_, _, _, _, _, rfl, xsIf_t rfl (same.c p3 (((p.part q2).part hB).part q3) (by omega) ⟨_, rfl, ?_, ((hP.trans q2).trans hB).trans q3⟩)⟩
    rw [wsame_refl]

theorem gabionlaw18_PathJoins.law (s : ByteArray) (hs : s.size ≤ 140737488351232) (t : ByteArray) (ht : t.size ≤ 140737488351232) (h : Heap) :
    C Tryd.prog 6 #[.string s, .string t] h fun v h' => v = .bool true ∧ Part h h' := by
  obtain ⟨s1, s2⟩ := cut300 s hs 200 (by omega)
  obtain ⟨t1, t2⟩ := cut300 t ht 200 (by omega)
  refine gabionlaw18_PathJoins.ok ⟨s1, path_Parse.c (Nat.lt_of_le_of_lt s2 (by decide)) fun v e a c g hp p q => ⟨_, _, _, _, _, _, rfl, t1, path_Parse.c (Nat.lt_of_le_of_lt t2 (by decide)) fun w f a' c' g' hp' p' q' => ⟨_, _, _, _, _, _, rfl, wakes18.c fun g2 q2 => ⟨_, rfl, ?_⟩⟩⟩⟩
  have H := (q.trans q').trans q2
  refine xsIf_f rfl (xsIf_intro (fun _ => wakes18.c fun g3 q3 => ⟨_, rfl, rfl, H.trans q3⟩) fun _ => xsIf_intro (fun _ => wakes18.c fun g3 q3 => ⟨_, rfl, rfl, H.trans q3⟩) fun _ => gabionlaw18_PathJoins.J5.ok ?_)
  have wv := (pparse_ok hp).len
  have ww := (pparse_ok hp').len
  have P1 := (p.part q').part q2
  have P2 := p'.part q2
  refine path_Join.c P1 P2 (by omega) fun aj cj hj pj qj => ⟨_, _, _, _, _, rfl, ?_⟩
  have hjl : (wjoin v w).parts.length ≤ 900 := by
    unfold wjoin
    split
    · omega
    · show (v.parts ++ w.parts).length ≤ 900
      rw [List.length_append]; omega
  have fin : ∀ (a4 : Option Addr) (c4 : Nat) (h4 : Heap), Pts h4 a4 (v.parts.length + w.parts.length) c4 (v.parts ++ w.parts) → Part hj h4 →
      xsIf w.abs (gabionlaw18_PathJoins.J9 (wjoin v w).abs aj (wjoin v w).parts.length cj (wjoin v w).dir w.abs a' w.parts.length c' w.dir h4 fun r h' => r = .bool true ∧ Part h h')
        (gabionlaw18_PathJoins.J9 (wjoin v w).abs aj (wjoin v w).parts.length cj (wjoin v w).dir v.abs a4 (v.parts.length + w.parts.length) c4 w.dir h4 fun r h' => r = .bool true ∧ Part h h') := by
    intro a4 c4 h4 p4 q4
    have hP := (H.trans qj).trans q4
    refine xsIf_intro (fun e => ?_) fun e => ?_
    · have ew : wjoin v w = w := if_pos e
      rw [ew] at pj hjl ⊢
      exact joins9 hjl hP (pj.part q4) ((P2.part qj).part q4)
    · have ew : wjoin v w = ⟨v.abs, v.parts ++ w.parts, w.dir⟩ := if_neg (by rw [e]; simp)
      rw [ew] at pj hjl ⊢
      have := joins9 (v := ⟨v.abs, v.parts ++ w.parts, w.dir⟩) hjl hP (pj.part q4) (a' := a4) (c' := c4) (by show Pts h4 a4 (v.parts ++ w.parts).length c4 (v.parts ++ w.parts); rw [List.length_append]; exact p4)
      have el : (v.parts ++ w.parts).length = v.parts.length + w.parts.length := List.length_append
      rw [← el]; exact this
  have app : ∀ (h3 : Heap), Part hj h3 → ∀ (K : Option Addr → Nat → Nat → Heap → Prop), (∀ a4 c4 h4, Pts h4 a4 (v.parts.length + w.parts.length) c4 (v.parts ++ w.parts) → Part hj h4 → K a4 (v.parts.length + w.parts.length) c4 h4) →
      ∀ (a3 : Option Addr) (c3 : Nat), Sl (fun k => hj k = none) h3 9 1 a3 v.parts.length c3 (v.parts.map Value.string) → xsApp Tryd.prog 9 h3 a3 v.parts.length c3 a' w.parts.length K := by
    intro h3 hp3 K hK a3 c3 w3
    exact app_pts w3 hp3 ((P2.part qj).part hp3) (by omega) fun a4 c4 h4 w4 p4 => hK a4 c4 h4 w4.pts p4
  have first : ∀ (K : Option Addr → Nat → Nat → Heap → Prop), (∀ a3 c3 h3, Sl (fun k => hj k = none) h3 9 1 a3 v.parts.length c3 (v.parts.map Value.string) → Part hj h3 → K a3 v.parts.length c3 h3) → xsApp Tryd.prog 9 hj none 0 0 a v.parts.length K := by
    intro K hK
    refine app_pts (h0 := hj) (l := []) (Sl.nil _ _ _ _) (Part.refl _) (P1.part qj) (by omega) fun a3 c3 h3 w3 p3 => ?_
    rw [Nat.zero_add] at w3 ⊢
    exact hK a3 c3 h3 w3 p3
  refine ⟨first _ fun a3 c3 h3 w3 p3 => ⟨app h3 p3 _ (fun a4 c4 h4 p4 q4 => fin a4 c4 h4 p4 q4) a3 c3 w3, app h3 p3 _ (fun a4 c4 h4 p4 q4 => fin a4 c4 h4 p4 q4) a3 c3 w3⟩, first _ fun a3 c3 h3 w3 p3 => app h3 p3 _ (fun a4 c4 h4 p4 q4 => fin a4 c4 h4 p4 q4) a3 c3 w3⟩
end Go.Gb
