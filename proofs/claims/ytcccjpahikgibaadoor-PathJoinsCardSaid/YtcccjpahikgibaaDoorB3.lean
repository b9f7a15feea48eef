/- Own texts for the seat: Pa1 Pa2 Pa3 Pa4. -/
import Derived.Test.YtcccjpahikgibaaDoorLayI
import Derived.Test.YtcccjpahikgibaaDoorLayA
import Derived.Test.YtcccjpahikgibaaDoorA12
import Derived.Test.YtcccjpahikgibaaDoorA7
import Derived.Test.YtcccjpahikgibaaDoorA9
import Derived.Laws.RangeAny
import Derived.Test.YtcccjpahikgibaaDoorB2
import Derived.Test.YtcccjpahikgibaaDoorW
import Derived.Test.YtcccjpahikgibaaDoorA11
set_option linter.unusedVariables false
set_option linter.unusedSimpArgs false
set_option linter.unnecessarySimpa false
set_option linter.deprecated false
namespace Go.Gb
open Go.Proofs Go.RowKit Go.Shelf IntWalk

/-! ## Names: strings.ContainsAny of a slash and a zero, for any bytes -/

theorem indexByte.c {s : ByteArray} {c : Int} {h : Heap} {Q : Value → Heap → Prop} (hq : Q (.int .i64 (Lib.indexByte s.data.toList c.toNat.toUInt8)) h) : C Tryd.prog 96 #[.string s, .int .u8 c] h Q := by
  intro w hs
  refine (Any.strings_IndexByte Tryd.idxB s c w).mono ?_
  rintro e w' ⟨rfl, rfl⟩
  exact ⟨_, h, rfl, hq, hs, Nat.le_refl _, fun _ _ _ => rfl, fun k hk => .inl hk, rfl, rfl, rfl⟩

theorem indexOne.c {s : ByteArray} {c : UInt8} {h : Heap} {Q : Value → Heap → Prop} (hq : Q (.int .i64 (Lib.indexByte s.data.toList c)) h) : C Tryd.prog 84 #[.string s, .string ⟨#[c]⟩] h Q := by
  intro w hs
  refine (Any.stringslite_Index_one Tryd.idx1 s c w).mono ?_
  rintro e w' ⟨rfl, rfl⟩
  exact ⟨_, h, rfl, hq, hs, Nat.le_refl _, fun _ _ _ => rfl, fun k hk => .inl hk, rfl, rfl, rfl⟩

def badB (b : UInt8) : Bool := b == 47 || b == 0
abbrev sepsB : ByteArray := ⟨#[UInt8.ofNat 47, UInt8.ofNat 0]⟩
def badS (s : ByteArray) : Bool := s.data.toList.any badB

theorem badB_nat (b : UInt8) : badB b = decide (b.toNat = 47 ∨ b.toNat = 0) := by
  unfold badB
  rw [Bool.eq_iff_iff]
  simp only [Bool.or_eq_true, beq_iff_eq, decide_eq_true_eq, ← UInt8.toNat_inj]
  exact Iff.rfl

theorem indexAny_bad : ∀ l : List UInt8, (0 ≤ Lib.indexAny l [47, 0]) ↔ l.any badB = true
  | [] => by simp [Lib.indexAny]
  | b :: l => by
    have ih := indexAny_bad l
    have hg := Lib.indexAny_ge [47, 0] l
    unfold Lib.indexAny
    have hc : ([47, 0] : List UInt8).contains b = badB b := by
      unfold badB
      simp [List.contains, List.elem]
      cases h1 : b == 47 <;> cases h2 : b == 0 <;> simp [h1, h2]
    rw [hc, List.any_cons]
    cases badB b with
    | true => simp
    | false =>
      simp only [Bool.false_eq_true, if_false, Bool.false_or]
      rw [← ih]
      split
      · rename_i e; simp at e; omega
      · rename_i e; simp at e; omega

theorem z121 : (Tryd.prog.info? 120).map (fun i => (i.zero, i.size)) = some (some (.agg (Array.replicate 256 (.bool false))), 256) := by kernel_rfl

set_option maxRecDepth 1000000 in
theorem indexAnyLong.c {s : ByteArray} {h : Heap} {Q : Value → Heap → Prop} (h8 : 8 < s.size) (hs : s.size < 4294967281) (hq : ∀ x : Int, (0 ≤ x ↔ badS s = true) → Q (.int .i64 x) h) :
    C Tryd.prog 69 #[.string s, .string sepsB] h Q := by
  intro w hw
  refine (Any.strings_IndexAny_long Tryd.idxA (zero_of_info z121).1 (zero_of_info z121).2 s sepsB w (by decide) h8 hs (by decide) (by
    intro j b hj
    have : b ∈ sepsB.data.toList := List.mem_of_getElem? hj
    simp [sepsB] at this
    rcases this with rfl | rfl <;> decide)).mono ?_
  rintro e w' ⟨rfl, rfl⟩
  refine ⟨_, h, rfl, hq _ (indexAny_bad _), fun k o e => ?_, ?_, ?_, fun k hk => .inl hk, rfl, rfl, rfl⟩
  · have := hw k o e
    have hlt := (Array.getElem?_eq_some_iff.1 this).1
    show (((w.heap.push _).push _))[k]? = _
    rw [Array.getElem?_push, if_neg (by rw [Array.size_push]; omega), Array.getElem?_push, if_neg (by omega)]; exact this
  · show w.heap.size ≤ ((w.heap.push _).push _).size
    rw [Array.size_push, Array.size_push]; omega
  · intro k hk _
    show (((w.heap.push _).push _))[k]? = _
    rw [Array.getElem?_push, if_neg (by rw [Array.size_push]; omega), Array.getElem?_push, if_neg (by omega)]

theorem encode_high {r : Int} (h : 128 ≤ r) : ∃ l : List UInt8, Utf8.encode r = ⟨l.toArray⟩ ∧ 2 ≤ l.length ∧ l.length ≤ 4 ∧ ∀ b ∈ l, 128 ≤ b.toNat := by
  unfold Utf8.encode
  have hv : Utf8.valid r = true → r < 1114112 := by
    unfold Utf8.valid
    simp only [Bool.or_eq_true, Bool.and_eq_true, decide_eq_true_eq]
    omega
  have hc : 128 ≤ (if Utf8.valid r then r.toNat else Utf8.runeError) ∧ (if Utf8.valid r then r.toNat else Utf8.runeError) < 1114112 := by
    split
    · rename_i e; have := hv e; omega
    · decide
  generalize (if Utf8.valid r then r.toNat else Utf8.runeError) = c at hc
  dsimp only
  rw [if_neg (by omega)]
  have hb : ∀ n : Nat, 128 ≤ n → n < 256 → 128 ≤ (UInt8.ofNat n).toNat := fun n h1 h2 => by rw [UInt8.toNat_ofNat', Nat.mod_eq_of_lt h2]; exact h1
  split
  · exact ⟨[_, _], rfl, by simp, by simp, by
      simp only [List.mem_cons, List.not_mem_nil, or_false]
      rintro b (rfl | rfl) <;> exact hb _ (by omega) (by omega)⟩
  · split
    · exact ⟨[_, _, _], rfl, by simp, by simp, by
        simp only [List.mem_cons, List.not_mem_nil, or_false]
        rintro b (rfl | rfl | rfl) <;> exact hb _ (by omega) (by omega)⟩
    · exact ⟨[_, _, _, _], rfl, by simp, by simp, by
        simp only [List.mem_cons, List.not_mem_nil, or_false]
        rintro b (rfl | rfl | rfl | rfl) <;> exact hb _ (by omega) (by omega)⟩

theorem u8w {r : Int} (h0 : 0 ≤ r) (h1 : r < 128) : IntKind.u8.wrap r = r := by
  simp only [IntKind.wrap]
  simp (config := { decide := true }) [IntKind.bits, IntKind.signed]
  omega

theorem validRune.c {r : Int} {h : Heap} {Q : Value → Heap → Prop} (hq : ∀ x : Bool, Q (.bool x) h) : C Tryd.prog 97 #[.int .i32 r] h Q := by
  refine utf8_ValidRune.ok ?_
  unfold utf8_ValidRune.wp
  repeat' first | exact hq _ | refine xsIf_intro (fun _ => ?_) fun _ => ?_

theorem seps_at {k : Nat} (hk : k < 2) : (sepsB[k]'(by exact hk)).toNat < 128 := by
  have : ∀ k : Fin 2, (sepsB[k.val]'(by exact k.2)).toNat < 128 := by decide
  exact this ⟨k, hk⟩

theorem indexRune_seps.c {r : Int} {h : Heap} {Q : Value → Heap → Prop} (h0 : 0 ≤ r) (hq : ∀ (x : Int) h', (0 ≤ x ↔ r = 47 ∨ r = 0) → Part h h' → Q (.int .i64 x) h') :
    C Tryd.prog 85 #[.string sepsB, .int .i32 r] h Q := by
  refine strings_IndexRune.ok (xsIf_t (by simpa using h0) (xsIf_intro (fun h1 => ?_) fun h1 => ?_))
  · have h1 : r < 128 := by simpa using h1
    refine indexByte.c ⟨_, rfl, hq _ _ ?_ (Part.refl _)⟩
    rw [u8w h0 h1]
    obtain ⟨n, rfl⟩ : ∃ n : Nat, r = n := ⟨r.toNat, by omega⟩
    have hn : n < 128 := by omega
    show 0 ≤ Lib.indexByte [47, 0] n.toUInt8 ↔ _
    have : ∀ n : Fin 128, (0 ≤ Lib.indexByte [47, 0] n.val.toUInt8 ↔ (n.val = 47 ∨ n.val = 0)) := by decide
    have := this ⟨n, hn⟩
    rw [this]
    constructor
    · rintro (h | h)
      · left; exact congrArg Nat.cast h
      · right; exact congrArg Nat.cast h
    · rintro (h | h)
      · left; exact Int.ofNat.inj h
      · right; exact Int.ofNat.inj h
  · have h1 : 128 ≤ r := by simpa using h1
    have hno : (0 ≤ (-1 : Int) ↔ r = 47 ∨ r = 0) := by omega
    refine xsIf_intro (fun h2 => ?_) fun h2 => ?_
    · intro b hb
      have step : ∀ (n : Nat) (h' : Heap) (k : Nat), k + n = 2 → Part h h' → h b = none → h' b = some (.stringIter sepsB k) → strings_IndexRune.L38 b h' Q := by
        intro n
        induction n with
        | zero =>
          intro h' k hk hp hb hi
          refine strings_IndexRune.L38.ok ⟨b, 0, rfl, rfl, sepsB, k, hi, fun hlt => ?_, fun _ => hq _ _ hno hp⟩
          have : sepsB.size = 2 := rfl
          omega
        | succ n ih =>
          intro h' k hk hp hb hi
          have hk' : k < 2 := by omega
          have hd : Utf8.decode sepsB k = ((sepsB[k]'(by exact hk')).toNat, 1) := decode_ascii sepsB k hk' (by
            exact seps_at hk')
          have hw : udW sepsB k = 1 := by unfold udW; rw [hd]
          have hr : udR sepsB k ≠ 65533 := by
            have := seps_at hk'
            unfold udR; rw [hd]
            show (((sepsB[k]'(by exact hk')).toNat : Nat) : Int) ≠ 65533
            omega
          refine strings_IndexRune.L38.ok ⟨b, 0, rfl, rfl, sepsB, k, hi, fun _ => xsIf_f (by simpa using hr) ?_, fun hlt => ?_⟩
          · rw [hw]
            exact ih _ (k + 1) (by omega) (hp.upd' hb _) hb (upd_same _ _ _)
          · have : sepsB.size = 2 := rfl
            omega
      exact step 2 _ 0 rfl (Part.upd hb _) hb (upd_same _ _ _)
    · refine validRune.c fun x => ⟨x, rfl, xsIf_intro (fun _ => hq _ _ hno (Part.refl _)) fun _ => ?_⟩
      obtain ⟨l, he, hl2, hl4, hlb⟩ := encode_high h1
      rw [he]
      have hsz : ((⟨l.toArray⟩ : ByteArray).size : Int) = l.length := by rw [show (⟨l.toArray⟩ : ByteArray).size = l.length from by simp [ByteArray.size]]
      rw [hsz, i64_in _ (by omega)]
      refine strings_IndexRune.L5.ok (xsIf_intro (fun h3 => ?_) fun _ => hq _ _ hno (Part.refl _))
      have h3 : (l.length : Int) - 1 < (sepsB.size : Int) := by simpa using h3
      have hss : sepsB.size = 2 := rfl
      have hl : l.length = 2 := by omega
      rw [hl]
      have hg : bget (⟨l.toArray⟩ : ByteArray) 1 = some (l[1]'(by omega)) := by
        show (⟨l.toArray⟩ : ByteArray)[1]? = _
        rw [getElem?_pos _ _ (by simp [ByteArray.size]; omega)]; rfl
      have hx := hlb _ (List.getElem_mem (l := l) (n := 1) (by omega))
      refine ⟨0, by decide, rfl, _, by decide, hg, xsIf_t (by simp; omega) ⟨⟨by decide, by decide⟩, _, by decide, hg, indexByte.c ⟨_, rfl, xsIf_t (by rw [show (sext sepsB (IntKind.wrap .i64 (((2 : Nat) : Int) - 1 + 1)) (sepsB.size : Int)).data.toList = [] from by decide]; rfl) (hq _ _ hno (Part.refl _))⟩⟩⟩

theorem decode_skip (s : ByteArray) (pos k : Nat) (h1 : 1 ≤ k) (h2 : k < (Utf8.decode s pos).2) : pos + k < s.size ∧ 128 ≤ (s.get! (pos + k)).toNat := by
  have hk : k = 1 ∨ k = 2 ∨ k = 3 ∨ 4 ≤ k := by omega
  revert h2
  simp only [Utf8.decode]
  intro h2
  repeat' split at h2
  all_goals simp_all [Utf8.runeError]
  all_goals (rcases hk with rfl | rfl | rfl | hk <;> omega)

theorem bytes_len (s : ByteArray) : s.data.toList.length = s.size := Array.length_toList

theorem get_bytes {s : ByteArray} {k : Nat} (h : k < s.size) : s.data.toList[k]? = some (s.get! k) := by
  have h' : k < s.data.toList.length := by rw [bytes_len]; exact h
  rw [List.getElem?_eq_getElem h']
  congr 1
  show _ = s.data[k]!
  rw [getElem!_pos s.data k h]
  simp

theorem any_take (s : ByteArray) (k : Nat) : (s.data.toList.take k).any badB = true → badS s = true := by
  intro h
  obtain ⟨b, hb, hx⟩ := List.any_eq_true.1 h
  exact List.any_eq_true.2 ⟨b, List.mem_of_mem_take hb, hx⟩

theorem take_succ_any {s : ByteArray} {k : Nat} (h : k < s.size) (h1 : (s.data.toList.take k).any badB = false) (h2 : badB (s.get! k) = false) : (s.data.toList.take (k + 1)).any badB = false := by
  rw [List.take_succ, get_bytes h, List.any_append, h1]
  simp [h2]

theorem L18.c {s : ByteArray} {b : Nat} {h0 : Heap} {Q : Value → Heap → Prop} (hb : h0 b = none) (hq : ∀ (x : Int) h', (0 ≤ x ↔ badS s = true) → Part h0 h' → Q (.int .i64 x) h') :
    ∀ (n pos : Nat) (h : Heap), s.size - pos ≤ n → Part h0 h → h b = some (.stringIter s pos) → (s.data.toList.take pos).any badB = false → strings_IndexAny.L18 sepsB b h Q := by
  intro n
  induction n with
  | zero =>
    intro pos h hn hp hi ht
    refine strings_IndexAny.L18.ok ⟨b, 0, rfl, rfl, s, pos, hi, fun hlt => by omega, fun hle => hq _ _ ?_ hp⟩
    rw [List.take_of_length_le (by rw [bytes_len]; omega)] at ht
    unfold badS; rw [ht]; simp
  | succ n ih =>
    intro pos h hn hp hi ht
    refine strings_IndexAny.L18.ok ⟨b, 0, rfl, rfl, s, pos, hi, fun hlt => ?_, fun hle => hq _ _ ?_ hp⟩
    · have hg : s[pos]'hlt = s.get! pos := by rw [← get_at s pos hlt]; rfl
      have hp' : Part h0 (upd h b (.stringIter s (pos + udW s pos))) := hp.upd' hb _
      by_cases ha : (s.get! pos).toNat < 128
      · have hd : Utf8.decode s pos = ((s.get! pos).toNat, 1) := by rw [decode_ascii s pos hlt (by rw [hg]; exact ha), hg]
        have hr : udR s pos = ((s.get! pos).toNat : Nat) := by unfold udR; rw [hd]
        have hw : udW s pos = 1 := by unfold udW; rw [hd]
        rw [hr, hw]; rw [hw] at hp'
        refine indexRune_seps.c (by omega) fun x h' hx hp2 => ⟨x, rfl, xsIf_intro (fun h1 => ?_) fun h1 => ?_⟩
        · have h1 : 0 ≤ x := by simpa using h1
          refine hq _ _ ⟨fun _ => any_take s (pos + 1) ?_, fun _ => by omega⟩ (hp'.trans hp2)
          rw [List.take_succ, get_bytes hlt, List.any_append]
          have := hx.1 h1
          have hbb : badB (s.get! pos) = true := by rw [badB_nat]; simp only [decide_eq_true_eq]; omega
          simp [hbb]
        · have h1 : ¬ 0 ≤ x := by simpa using h1
          have hbb : badB (s.get! pos) = false := by
            rw [badB_nat]; simp only [decide_eq_false_iff_not]
            intro hc; exact h1 (hx.2 (by omega))
          exact ih (pos + 1) h' (by omega) (hp'.trans hp2) (hp2 _ _ (upd_same _ _ _)) (take_succ_any hlt ht hbb)
      · obtain ⟨h1, h2⟩ := decode_high s pos hlt (by rw [hg]; omega)
        refine indexRune_seps.c (by show (0 : Int) ≤ (((Utf8.decode s pos).1 : Nat) : Int); omega) fun x h' hx hp2 => ⟨x, rfl, xsIf_f ?_ ?_⟩
        · have : ¬ (0 ≤ x) := fun hc => by
            have := hx.1 hc
            unfold udR at this; omega
          simpa using this
        · have hall : ∀ j, j ≤ (Utf8.decode s pos).2 → (s.data.toList.take (pos + j)).any badB = false := by
            intro j
            induction j with
            | zero => intro _; exact ht
            | succ j ihj =>
              intro hj
              have h0 := ihj (by omega)
              by_cases e : j = 0
              · subst e
                exact take_succ_any hlt h0 (by rw [badB_nat]; simp only [decide_eq_false_iff_not]; show ¬ ((s.get! pos).toNat = 47 ∨ (s.get! pos).toNat = 0); omega)
              · obtain ⟨q1, q2⟩ := decode_skip s pos j (by omega) (by omega)
                exact take_succ_any q1 h0 (by rw [badB_nat]; simp only [decide_eq_false_iff_not]; revert q2; generalize (s.get! (pos + j)).toNat = z; intro q2; omega)
          exact ih (pos + udW s pos) h' (by show s.size - (pos + (Utf8.decode s pos).2) ≤ n; omega) (hp'.trans hp2) (hp2 _ _ (upd_same _ _ _)) (hall _ (Nat.le_refl _))
    · rw [List.take_of_length_le (by rw [bytes_len]; omega)] at ht
      unfold badS; rw [ht]; simp

theorem containsAny.c {s : ByteArray} {h : Heap} {Q : Value → Heap → Prop} (hs : s.size < 4294967281) (hq : ∀ h', Part h h' → Q (.bool (badS s)) h') :
    C Tryd.prog 50 #[.string s, .string sepsB] h Q := by
  have fin : ∀ (x : Int) h', (0 ≤ x ↔ badS s = true) → Part h h' → Q (.bool (decide (0 ≤ x))) h' := fun x h' hx hp => by
    have : decide (0 ≤ x) = badS s := by rw [Bool.eq_iff_iff, decide_eq_true_eq]; exact hx
    rw [this]; exact hq h' hp
  refine strings_ContainsAny.ok ?_
  by_cases h8 : 8 < s.size
  · exact indexAnyLong.c h8 hs fun x hx => ⟨x, rfl, fin x h hx (Part.refl _)⟩
  · refine strings_IndexAny.ok (xsIf_f rfl (xsIf_f rfl (strings_shouldUseASCIISet.ok ⟨_, rfl, xsIf_f (by simp; omega) ?_⟩)))
    refine strings_IndexAny.J17.ok fun b hb => L18.c (h0 := h) hb (fun x h' hx hp => ⟨x, rfl, fin x h' hx hp⟩) s.size 0 _ (by omega) (Part.upd hb _) (upd_same _ _ _) (by simp)

/-- Name: P17.1. -/
def nameE (s : ByteArray) : Int := if s = ⟨#[]⟩ ∨ 32 < s.size ∨ s = ⟨#[46]⟩ ∨ s = ⟨#[46, 46]⟩ ∨ badS s = true then 18 else 0

theorem dir_Name.c {s : ByteArray} {h : Heap} {Q : Value → Heap → Prop} (hs : s.size < 4294967281) (hq : ∀ h', Part h h' → Q (.int .i64 (nameE s)) h') : C Tryd.prog 32 #[.string s] h Q := by
  unfold nameE at hq
  refine dir_Name.ok (xsIf_intro (fun h1 => ?_) fun h1 => xsIf_intro (fun h2 => ?_) fun h2 => xsIf_intro (fun h3 => ?_) fun h3 => xsIf_intro (fun h4 => ?_) fun h4 => containsAny.c hs fun h' hp => ⟨_, rfl, xsIf_intro (fun h5 => ?_) fun h5 => ?_⟩)
  all_goals simp only [decide_eq_true_eq, decide_eq_false_iff_not] at *
  · rw [if_pos (.inl h1)] at hq; exact hq _ (Part.refl _)
  · rw [if_pos (.inr (.inl (by omega)))] at hq; exact hq _ (Part.refl _)
  · rw [if_pos (.inr (.inr (.inl h3)))] at hq; exact hq _ (Part.refl _)
  · rw [if_pos (.inr (.inr (.inr (.inl h4))))] at hq; exact hq _ (Part.refl _)
  · rw [if_pos (.inr (.inr (.inr (.inr h5))))] at hq; exact hq _ hp
  · rw [if_neg (by rintro (e | e | e | e | e) <;> simp_all <;> omega)] at hq; exact hq _ hp

end Go.Gb
namespace Go.Gb
open Go.Proofs IntWalk

/-! ## The pieces of a path; strings.SplitSeq -/

abbrev slashB : ByteArray := ⟨#[UInt8.ofNat 47]⟩
abbrev hereB : ByteArray := ⟨#[46]⟩
abbrev upB : ByteArray := ⟨#[46, 46]⟩

def cutL : List UInt8 → List (List UInt8)
  | [] => [[]]
  | b :: l => if b = 47 then [] :: cutL l else match cutL l with
    | [] => [[b]]
    | p :: ps => (b :: p) :: ps

abbrev mkB (l : List UInt8) : ByteArray := ⟨l.toArray⟩
def piecesL (l : List UInt8) : List ByteArray := (cutL l).map mkB

theorem cutL_len : ∀ l : List UInt8, 1 ≤ (cutL l).length ∧ (cutL l).length ≤ l.length + 1
  | [] => ⟨by simp [cutL], by simp [cutL]⟩
  | b :: l => by
    obtain ⟨h1, h2⟩ := cutL_len l
    unfold cutL
    split
    · simp; omega
    · split
      · simp
      · rename_i p ps e; rw [e] at h1 h2; simp at h1 h2 ⊢; omega

theorem cutL_mem : ∀ (l : List UInt8) (p : List UInt8), p ∈ cutL l → p.length ≤ l.length
  | [], p, h => by simp [cutL] at h; simp [h]
  | b :: l, p, h => by
    have ih := cutL_mem l
    unfold cutL at h
    split at h
    · rcases List.mem_cons.1 h with rfl | h
      · simp
      · have := ih p h; simp; omega
    · split at h
      · simp at h; simp [h]
      · rename_i q qs e
        rw [e] at ih
        rcases List.mem_cons.1 h with rfl | h
        · have := ih q (by simp); simp; omega
        · have := ih p (by simp [h]); simp; omega

theorem cutL_index : ∀ l : List UInt8, (Lib.indexByte l 47 < 0 → cutL l = [l]) ∧ (∀ m : Nat, Lib.indexByte l 47 = m → m < l.length ∧ cutL l = l.take m :: cutL (l.drop (m + 1)))
  | [] => ⟨fun _ => rfl, fun m h => by simp [Lib.indexByte] at h⟩
  | b :: l => by
    obtain ⟨h1, h2⟩ := cutL_index l
    have hg := Lib.indexByte_ge l 47
    unfold Lib.indexByte
    by_cases hb : b = 47
    · subst hb
      refine ⟨fun h => by simp at h, fun m h => ?_⟩
      have : m = 0 := by simp at h; omega
      subst this
      simp [cutL]
    · rw [if_neg (by simpa using hb)]
      by_cases hm : Lib.indexByte l 47 = -1
      · rw [if_pos (by simpa using hm)]
        refine ⟨fun _ => ?_, fun m h => by omega⟩
        unfold cutL
        rw [if_neg hb, h1 (by omega)]
      · rw [if_neg (by simpa using hm)]
        refine ⟨fun h => by omega, fun m h => ?_⟩
        obtain ⟨k, rfl⟩ : ∃ k, m = k + 1 := ⟨m - 1, by omega⟩
        obtain ⟨q1, q2⟩ := h2 k (by omega)
        refine ⟨by simp; omega, ?_⟩
        show cutL (b :: l) = (b :: l).take (k + 1) :: cutL (l.drop (k + 1))
        rw [cutL, if_neg hb, q2]
        rfl

theorem mkB_toList (s : ByteArray) : mkB s.data.toList = s := by cases s; rfl
theorem sext_mk (s : ByteArray) {a b : Nat} : sext s (a : Int) (b : Int) = mkB ((s.data.toList.take b).drop a) := by
  unfold sext mkB
  apply ByteArray.ext
  apply Array.ext'
  rw [ByteArray.data_extract, Array.toList_extract]
  show List.extract _ _ _ = _
  rw [List.extract_eq_take_drop, List.drop_take]
  rfl

/-- The iterator of SplitSeq at a slash. -/
theorem splitL {y u1 u2 u3 : Nat} {Q : Value → Heap → Prop} {I : List ByteArray → Heap → Prop}
    (h1 : ∀ l h, I l h → Blk h u1 [.string slashB] ∧ Blk h u3 [.int .i64 0] ∧ ∃ x, Blk h u2 [.string x])
    (hput : ∀ l h x, I l h → I l (h.put u2 0 [.string x]))
    (hs : ∀ x l h, I (x :: l) h → Y Tryd.prog y [.string x] h fun r h' => (r = .bool true ∧ I l h' ∧ h' u2 = h u2) ∨ (r = .bool false ∧ Q (.tuple #[]) h'))
    (he : ∀ h', I [] h' → Q (.tuple #[]) h') :
    ∀ (n : Nat) (x : ByteArray) (h : Heap), x.size ≤ n → x.size < 1000000000 → Blk h u2 [.string x] → I (piecesL x.data.toList) h → strings_splitSeq_1.L5 y u1 u2 u3 h Q := by
  intro n
  induction n with
  | zero =>
    intro x h hn hx hb hi
    obtain ⟨c1, c3, -⟩ := h1 _ _ hi
    refine strings_splitSeq_1.L5.ok ⟨x, hb.cell 0, slashB, c1.cell 0, strings_Index.ok (indexOne.c ⟨_, rfl, _, rfl, ?_⟩)⟩
    have hl : x.data.toList = [] := List.eq_nil_of_length_eq_zero (by have := bytes_len x; omega)
    rw [hl] at hi ⊢
    refine xsIf_t (by decide) ⟨x, hb.cell 0, ?_⟩
    have e : x = mkB [] := by rw [← hl, mkB_toList]
    rw [e]
    refine (hs _ _ _ hi).mono ?_
    rintro r h' (⟨rfl, hi', -⟩ | ⟨rfl, hq⟩)
    · exact ⟨true, rfl, he _ hi'⟩
    · exact ⟨false, rfl, hq⟩
  | succ n ih =>
    intro x h hn hx hb hi
    obtain ⟨c1, c3, -⟩ := h1 _ _ hi
    refine strings_splitSeq_1.L5.ok ⟨x, hb.cell 0, slashB, c1.cell 0, strings_Index.ok (indexOne.c ⟨_, rfl, _, rfl, ?_⟩)⟩
    obtain ⟨k1, k2⟩ := cutL_index x.data.toList
    show xsIf (decide (Lib.indexByte x.data.toList 47 < 0)) _ _
    have hg := Lib.indexByte_ge x.data.toList 47
    refine xsIf_intro (fun hm => ?_) fun hm => ?_
    · have hm : Lib.indexByte x.data.toList 47 < 0 := by simpa using hm
      refine ⟨x, hb.cell 0, ?_⟩
      have e : piecesL x.data.toList = [x] := by unfold piecesL; rw [k1 hm]; simp only [List.map_cons, List.map_nil]
      rw [e] at hi
      refine (hs _ _ _ hi).mono ?_
      rintro r h' (⟨rfl, hi', -⟩ | ⟨rfl, hq⟩)
      · exact ⟨true, rfl, he _ hi'⟩
      · exact ⟨false, rfl, hq⟩
    · have hm : ¬ Lib.indexByte x.data.toList 47 < 0 := by simpa using hm
      obtain ⟨m, hm'⟩ : ∃ m : Nat, Lib.indexByte x.data.toList 47 = m := ⟨(Lib.indexByte x.data.toList 47).toNat, by omega⟩
      show ∃ x_2 : ByteArray, _ ∧ ∃ x_3 : Int, _ ∧ (0 ≤ IntKind.i64.wrap (Lib.indexByte x.data.toList 47 + x_3) ∧ IntKind.i64.wrap (Lib.indexByte x.data.toList 47 + x_3) ≤ (x_2.size : Int)) ∧ _
      obtain ⟨q1, q2⟩ := k2 m hm'
      rw [bytes_len] at q1
      refine ⟨x, hb.cell 0, 0, c3.cell 0, ?_⟩
      have e0 : IntKind.i64.wrap (Lib.indexByte x.data.toList 47 + 0) = (m : Int) := by rw [hm', Int.add_zero, i64_in _ (by omega)]
      have es : piecesL x.data.toList = mkB (x.data.toList.take m) :: piecesL (x.data.toList.drop (m + 1)) := by unfold piecesL; rw [q2]; rfl
      rw [es] at hi
      refine ⟨by rw [e0]; omega, ?_⟩
      have e1 : sext x 0 (IntKind.i64.wrap (Lib.indexByte x.data.toList 47 + 0)) = mkB (x.data.toList.take m) := by rw [e0]; exact sext_mk x (a := 0)
      show Y Tryd.prog y [.string (sext x 0 (IntKind.i64.wrap (Lib.indexByte x.data.toList 47 + 0)))] h _
      rw [e1]
      refine (hs _ _ _ hi).mono ?_
      rintro r h' (⟨rfl, hi', hu⟩ | ⟨rfl, hq⟩)
      · have hb' : Blk h' u2 [.string x] := hb.keep hu
        obtain ⟨d1, d3, -⟩ := h1 _ _ hi'
        refine ⟨true, rfl, xsIf_f rfl ⟨x, hb'.cell 0, slashB, d1.cell 0, ?_⟩⟩
        have e2 : IntKind.i64.wrap (Lib.indexByte x.data.toList 47 + (slashB.size : Int)) = ((m + 1 : Nat) : Int) := by
          rw [hm', show ((slashB.size : Nat) : Int) = 1 from rfl, i64_in _ (by omega)]; omega
        show (0 ≤ IntKind.i64.wrap (Lib.indexByte x.data.toList 47 + (slashB.size : Int)) ∧ IntKind.i64.wrap (Lib.indexByte x.data.toList 47 + (slashB.size : Int)) ≤ (x.size : Int)) ∧ _
        have e3 : sext x (IntKind.i64.wrap (Lib.indexByte x.data.toList 47 + (slashB.size : Int))) (x.size : Int) = mkB (x.data.toList.drop (m + 1)) := by
          rw [e2, sext_mk, List.take_of_length_le (by rw [bytes_len]; exact Nat.le_refl _)]
        refine ⟨by rw [e2]; omega, hb'.can (by simp), ?_⟩
        show strings_splitSeq_1.L5 y u1 u2 u3 (h'.put u2 0 [.string (sext x (IntKind.i64.wrap (Lib.indexByte x.data.toList 47 + (slashB.size : Int))) (x.size : Int))]) Q
        rw [e3]
        have hsz : (mkB (x.data.toList.drop (m + 1))).size = x.size - (m + 1) := by
          show (x.data.toList.drop (m + 1)).toArray.size = _
          rw [List.size_toArray, List.length_drop, bytes_len]
        refine ih _ _ (by rw [hsz]; omega) (by rw [hsz]; omega) (hb'.put 0 _) (hput _ _ _ ?_)
        exact hi'
      · exact ⟨false, rfl, xsIf_t rfl hq⟩

theorem hasPrefix.c {s p : ByteArray} {h : Heap} {Q : Value → Heap → Prop} (hs : s.size < 1000000000) (hq : Q (.bool (decide (p.data.toList <+: s.data.toList))) h) : C Tryd.prog 30 #[.string s, .string p] h Q := by
  refine strings_HasPrefix.ok (stringslite_HasPrefix.ok (xsIf_intro (fun h1 => ⟨⟨by omega, by simpa using h1⟩, _, rfl, ?_⟩) fun h1 => ⟨_, rfl, ?_⟩))
  · have e : decide (sext s 0 (p.size : Int) = p) = decide (p.data.toList <+: s.data.toList) := by
      rw [Bool.eq_iff_iff, decide_eq_true_eq, decide_eq_true_eq, show sext s 0 (p.size : Int) = mkB (s.data.toList.take p.size) from sext_mk s (a := 0)]
      rw [List.prefix_iff_eq_take, bytes_len]
      constructor
      · intro e; exact (congrArg (fun x : ByteArray => x.data.toList) e).symm
      · intro e; rw [← e, mkB_toList]
    rw [e]; exact hq
  · have e : decide (p.data.toList <+: s.data.toList) = false := by
      rw [decide_eq_false_iff_not]
      intro hp
      have := hp.length_le
      rw [bytes_len, bytes_len] at this
      simp at h1; omega
    rw [e] at hq; exact hq
end Go.Gb
namespace Go.Gb
open Go.Proofs IntWalk

/-! ## path.Parse -/

structure Wy where
  abs : Bool
  parts : List ByteArray
  dir : Bool

def noWy : Wy := ⟨false, [], false⟩

def pstep (w : Wy) (p : ByteArray) : Except Int Wy :=
  if p = ⟨#[]⟩ ∨ p = hereB then .ok { w with dir := true }
  else if nameE p ≠ 0 ∧ p ≠ upB then .error (nameE p)
  else .ok ⟨w.abs, w.parts ++ [p], false⟩

def pall : List ByteArray → Wy → Except Int Wy
  | [], w => .ok w
  | p :: ps, w => match pstep w p with
    | .error e => .error e
    | .ok v => pall ps v

theorem pall_ok {w v : Wy} {p : ByteArray} {ps : List ByteArray} (h : pstep w p = .ok v) : pall (p :: ps) w = pall ps v := by
  show (match pstep w p with | Except.error e => Except.error e | Except.ok v => pall ps v) = _; rw [h]
theorem pall_err {w : Wy} {e : Int} {p : ByteArray} {ps : List ByteArray} (h : pstep w p = .error e) : pall (p :: ps) w = .error e := by
  show (match pstep w p with | Except.error e => Except.error e | Except.ok v => pall ps v) = _; rw [h]

def pend : Except Int Wy → Wy × Int
  | .error e => (noWy, e)
  | .ok w => (w, 0)

def pabs (s : ByteArray) : Bool := decide (slashB.data.toList <+: s.data.toList)

def pparse (s : ByteArray) : Wy × Int :=
  if s = ⟨#[]⟩ then (noWy, 13) else if 256 < s.size then (noWy, 9) else pend (pall (piecesL s.data.toList) ⟨pabs s, [], false⟩)

/-- A way's parts in memory, which nobody changes. -/
structure Pts (h : Heap) (a : Option Addr) (n c : Nat) (l : List ByteArray) : Prop where
  len : l.length = n
  le : n ≤ c
  reads : readsAt h a (l.map Value.string)

theorem Pts.part {h h' : Heap} {a : Option Addr} {n c : Nat} {l : List ByteArray} (p : Pts h a n c l) (q : Part h h') : Pts h' a n c l := ⟨p.len, p.le, readsAt_part p.reads q⟩
theorem Pts.nil (h : Heap) : Pts h none 0 0 [] := ⟨rfl, Nat.le_refl _, (Sl.nil (fun _ => False) h 0 1).reads⟩

structure PJ (h0 : Heap) (t2 t3 w u1 u2 u3 D l : Nat) (v : Wy) (a : Option Addr) (c : Nat) (hh : Heap) : Prop where
  part : Part h0 hh
  d : hh D = some (.deferred (some []))
  b2 : Blk hh t2 [.bool false, .slice none 0 0, .bool false]
  b3 : Blk hh t3 [.int .i64 0]
  s1 : Blk hh u1 [.string slashB]
  s2 : ∃ x, Blk hh u2 [.string x]
  s3 : Blk hh u3 [.int .i64 0]
  wy : Blk hh w [.bool v.abs, .slice a v.parts.length c, .bool v.dir]
  sl : Sl (fun k => h0 k = none ∧ k ≠ t2 ∧ k ≠ t3 ∧ k ≠ w ∧ k ≠ u1 ∧ k ≠ u2 ∧ k ≠ u3 ∧ k ≠ D ∧ k ≠ l) hh 9 1 a v.parts.length c (v.parts.map Value.string)

structure Nd (h0 : Heap) (t2 t3 w u1 u2 u3 D l : Nat) : Prop where
  f2 : h0 t2 = none
  f3 : h0 t3 = none
  fw : h0 w = none
  g1 : h0 u1 = none
  g2 : h0 u2 = none
  g3 : h0 u3 = none
  fD : h0 D = none
  fl : h0 l = none
  nd : [t2, t3, w, u1, u2, u3, D, l].Nodup

section
variable {h0 : Heap} {t2 t3 w u1 u2 u3 D l : Nat} {v : Wy} {a : Option Addr} {c : Nat} {hh h' : Heap}

theorem PJ.chg (j : PJ h0 t2 t3 w u1 u2 u3 D l v a c hh) (n : Nd h0 t2 t3 w u1 u2 u3 D l) (e : ∀ k, k ≠ l → h' k = hh k) : PJ h0 t2 t3 w u1 u2 u3 D l v a c h' := by
  have nd := n.nd
  simp only [List.nodup_cons, List.mem_cons, List.not_mem_nil, not_or, or_false, List.nodup_nil, and_true, not_false_eq_true] at nd
  obtain ⟨⟨_, _, _, _, _, _, _⟩, ⟨_, _, _, _, _, _⟩, ⟨_, _, _, _, _⟩, ⟨_, _, _, _⟩, ⟨_, _, _⟩, ⟨_, _⟩, _⟩ := nd
  obtain ⟨x, hx⟩ := j.s2
  exact ⟨fun k o hk => (e k fun he => by rw [he, n.fl] at hk; cases hk).trans (j.part k o hk), (e D (by first | assumption | (apply Ne.symm; assumption))).trans j.d, j.b2.keep (e _ (by first | assumption | (apply Ne.symm; assumption))), j.b3.keep (e _ (by first | assumption | (apply Ne.symm; assumption))), j.s1.keep (e _ (by first | assumption | (apply Ne.symm; assumption))), ⟨x, hx.keep (e _ (by first | assumption | (apply Ne.symm; assumption)))⟩, j.s3.keep (e _ (by first | assumption | (apply Ne.symm; assumption))), j.wy.keep (e _ (by first | assumption | (apply Ne.symm; assumption))),
    j.sl.keep (fun _ h => h) fun k hk _ => e k hk.2.2.2.2.2.2.2.2⟩

theorem PJ.more (j : PJ h0 t2 t3 w u1 u2 u3 D l v a c hh) (p : Part hh h') : PJ h0 t2 t3 w u1 u2 u3 D l v a c h' := by
  have k : ∀ {b cs}, Blk hh b cs → Blk h' b cs := fun w => by obtain ⟨T, e⟩ := w; exact ⟨T, p _ _ e⟩
  obtain ⟨x, hx⟩ := j.s2
  exact ⟨j.part.trans p, p _ _ j.d, k j.b2, k j.b3, k j.s1, ⟨x, k hx⟩, k j.s3, k j.wy, j.sl.keep (fun _ h => h) fun b _ hn => by
    obtain ⟨o, ho⟩ := Option.ne_none_iff_exists'.1 hn
    rw [ho]; exact p _ _ ho⟩

theorem PJ.iter (j : PJ h0 t2 t3 w u1 u2 u3 D l v a c hh) (n : Nd h0 t2 t3 w u1 u2 u3 D l) (x : ByteArray) : PJ h0 t2 t3 w u1 u2 u3 D l v a c (hh.put u2 0 [.string x]) := by
  have nd := n.nd
  simp only [List.nodup_cons, List.mem_cons, List.not_mem_nil, not_or, or_false, List.nodup_nil, and_true, not_false_eq_true] at nd
  obtain ⟨⟨_, _, _, _, _, _, _⟩, ⟨_, _, _, _, _, _⟩, ⟨_, _, _, _, _⟩, ⟨_, _, _, _⟩, ⟨_, _, _⟩, ⟨_, _⟩, _⟩ := nd
  obtain ⟨y, hy⟩ := j.s2
  have e : ∀ k, k ≠ u2 → hh.put u2 0 [.string x] k = hh k := fun k hk => put_other _ _ _ hk
  exact ⟨j.part.put n.g2 _ _, (e D (by first | assumption | (apply Ne.symm; assumption))).trans j.d, j.b2.keep (e _ (by first | assumption | (apply Ne.symm; assumption))), j.b3.keep (e _ (by first | assumption | (apply Ne.symm; assumption))), j.s1.keep (e _ (by first | assumption | (apply Ne.symm; assumption))), ⟨x, hy.put 0 [.string x]⟩, j.s3.keep (e _ (by first | assumption | (apply Ne.symm; assumption))), j.wy.keep (e _ (by first | assumption | (apply Ne.symm; assumption))),
    j.sl.keep (fun _ h => h) fun k hk _ => e k hk.2.2.2.2.2.1⟩

theorem PJ.flag (j : PJ h0 t2 t3 w u1 u2 u3 D l v a c hh) (n : Nd h0 t2 t3 w u1 u2 u3 D l) (b : Bool) : PJ h0 t2 t3 w u1 u2 u3 D l { v with dir := b } a c (hh.put w 2 [.bool b]) := by
  have nd := n.nd
  simp only [List.nodup_cons, List.mem_cons, List.not_mem_nil, not_or, or_false, List.nodup_nil, and_true, not_false_eq_true] at nd
  obtain ⟨⟨_, _, _, _, _, _, _⟩, ⟨_, _, _, _, _, _⟩, ⟨_, _, _, _, _⟩, ⟨_, _, _, _⟩, ⟨_, _, _⟩, ⟨_, _⟩, _⟩ := nd
  obtain ⟨y, hy⟩ := j.s2
  have e : ∀ k, k ≠ w → hh.put w 2 [.bool b] k = hh k := fun k hk => put_other _ _ _ hk
  exact ⟨j.part.put n.fw _ _, (e D (by first | assumption | (apply Ne.symm; assumption))).trans j.d, j.b2.keep (e _ (by first | assumption | (apply Ne.symm; assumption))), j.b3.keep (e _ (by first | assumption | (apply Ne.symm; assumption))), j.s1.keep (e _ (by first | assumption | (apply Ne.symm; assumption))), ⟨y, hy.keep (e _ (by first | assumption | (apply Ne.symm; assumption)))⟩, j.s3.keep (e _ (by first | assumption | (apply Ne.symm; assumption))), j.wy.put 2 [.bool b],
    j.sl.keep (fun _ h => h) fun k hk _ => e k hk.2.2.2.1⟩

theorem PJ.snoc (j : PJ h0 t2 t3 w u1 u2 u3 D l v a c hh) (n : Nd h0 t2 t3 w u1 u2 u3 D l) (hl : v.parts.length < 1000) (hL : hh l ≠ none) {x : ByteArray} {b : Nat} (hb : hh b = none) {K : Option Addr → Nat → Nat → Heap → Prop}
    (hk : ∀ a' c' h', (h' l = hh l) → h' u2 = hh u2 → h'.can w 1 1 → PJ h0 t2 t3 w u1 u2 u3 D l { v with parts := v.parts ++ [x] } a' c' (h'.put w 1 [.slice a' (v.parts.length + 1) c']) → K a' (v.parts.length + 1) c' h') :
    xsApp Tryd.prog 9 (upd hh b (.cells #[.string x] 9 (0, 0))) a v.parts.length c (some ⟨b, 0, none⟩) 1 K := by
  have nd := n.nd
  simp only [List.nodup_cons, List.mem_cons, List.not_mem_nil, not_or, or_false, List.nodup_nil, and_true, not_false_eq_true] at nd
  obtain ⟨⟨_, _, _, _, _, _, _⟩, ⟨_, _, _, _, _, _⟩, ⟨_, _, _, _, _⟩, ⟨_, _, _, _⟩, ⟨_, _, _⟩, ⟨_, _⟩, _⟩ := nd
  refine j.sl.snoc (new := [.string x]) hb (by kernel_rfl) (by decide) rfl rfl (by kernel_rfl) (by rw [show cellBytes Tryd.prog 9 = 16 from by kernel_rfl]; omega) fun a' c' F' h' hS st hF => ?_
  have hbn : ∀ k, hh k ≠ none → k ≠ b := fun k hk e => hk (by rw [e]; exact hb)
  obtain ⟨y, hy⟩ := j.s2
  have kp : ∀ k, (k = t2 ∨ k = t3 ∨ k = w ∨ k = u1 ∨ k = u2 ∨ k = u3 ∨ k = D ∨ k = l) → hh k ≠ none → h' k = hh k := fun k hk hn => st.keep k (fun hf => by
    obtain ⟨_, q1, q2, q3, q4, q5, q6, q7, q8⟩ := hf
    rcases hk with r | r | r | r | r | r | r | r
    · exact q1 r
    · exact q2 r
    · exact q3 r
    · exact q4 r
    · exact q5 r
    · exact q6 r
    · exact q7 r
    · exact q8 r) hn
  have hD : hh D ≠ none := by rw [j.d]; simp
  have kw := j.wy.keep (kp w (by simp) j.wy.ne)
  have e : ∀ k, k ≠ w → (h'.put w 1 [.slice a' (v.parts.length + 1) c']) k = h' k := fun k hk => put_other _ _ _ hk
  refine hk a' c' h' (kp l (by simp) hL) (kp u2 (by simp) hy.ne) (kw.can (by simp)) ⟨?_, ?_, ?_, ?_, ?_, ?_, ?_, ?_, ?_⟩
  · intro k o hk
    have hw : k ≠ w := fun e => by rw [e, n.fw] at hk; cases hk
    have h1 := j.part k o hk
    rw [e k hw, st.keep k (fun hf => by rw [hf.1] at hk; cases hk) (by rw [h1]; simp)]; exact h1
  · rw [e D (by first | assumption | (apply Ne.symm; assumption)), kp D (by simp) hD]; exact j.d
  · exact j.b2.keep (by rw [e _ (by first | assumption | (apply Ne.symm; assumption)), kp _ (by simp) j.b2.ne])
  · exact j.b3.keep (by rw [e _ (by first | assumption | (apply Ne.symm; assumption)), kp _ (by simp) j.b3.ne])
  · exact j.s1.keep (by rw [e _ (by first | assumption | (apply Ne.symm; assumption)), kp _ (by simp) j.s1.ne])
  · exact ⟨y, hy.keep (by rw [e _ (by first | assumption | (apply Ne.symm; assumption)), kp _ (by simp) hy.ne])⟩
  · exact j.s3.keep (by rw [e _ (by first | assumption | (apply Ne.symm; assumption)), kp _ (by simp) j.s3.ne])
  · show Blk _ w [.bool v.abs, .slice a' (v.parts ++ [x]).length c', .bool v.dir]
    rw [List.length_append]
    exact kw.put 1 [.slice a' (v.parts.length + 1) c']
  · show Sl _ _ _ 1 a' (v.parts ++ [x]).length c' ((v.parts ++ [x]).map Value.string)
    rw [List.length_append, List.map_append]
    have hnew : ∀ k, F' k → h0 k = none ∧ k ≠ t2 ∧ k ≠ t3 ∧ k ≠ w ∧ k ≠ u1 ∧ k ≠ u2 ∧ k ≠ u3 ∧ k ≠ D ∧ k ≠ l := by
      intro k hk
      rcases st.sub k hk with h1 | h1
      · exact h1
      · have hne : ∀ z, hh z ≠ none → k ≠ z := fun z hz e => hz (by rw [← e]; exact h1)
        exact ⟨j.part.none h1, hne _ j.b2.ne, hne _ j.b3.ne, hne _ j.wy.ne, hne _ j.s1.ne, hne _ hy.ne, hne _ j.s3.ne, hne _ hD, hne _ hL⟩
    exact hS.keep hnew fun k hk _ => e k (hnew k hk).2.2.2.1
end
end Go.Gb
namespace Go.Gb
open Go.Proofs IntWalk

noncomputable abbrev prL (tmps : Array Value) (D : Nat) (s : LoopState) (p : Option Code) : Loop := loopO 11 tmps #[21] (cAt (bodyOf Tryd.f11) [1, 1, 1, 0, 1, 0, 0]) (cAt (bodyOf Tryd.f11) [1, 1, 1, 0, 1, 0, 1]) D s p

section
variable {h0 : Heap} {t2 t3 w u1 u2 u3 D l : Nat}

/-- The loop's state: ahead of the pieces 'rest'. -/
def PI (h0 : Heap) (t2 t3 w u1 u2 u3 D l : Nat) (tmps : Array Value) (R : Except Int Wy) (rest : List ByteArray) (hh : Heap) : Prop :=
  hh l = some (.loop (prL tmps D .ready none)) ∧ (∀ p ∈ rest, p.size < 1000000) ∧ ∃ (v : Wy) (a : Option Addr) (c : Nat), PJ h0 t2 t3 w u1 u2 u3 D l v a c hh ∧ v.parts.length + rest.length ≤ 300 ∧ pall rest v = R

theorem pround {tmps : Array Value} {R : Except Int Wy} {x : ByteArray} {rest : List ByteArray} {hh : Heap} {Q : Value → Heap → Prop} (n : Nd h0 t2 t3 w u1 u2 u3 D l) (i : PI h0 t2 t3 w u1 u2 u3 D l tmps R (x :: rest) hh)
    (ht : ∀ v h' r', h' l = some (.loop r') → r' = prL tmps D .busy none → v = .bool true → PI h0 t2 t3 w u1 u2 u3 D l tmps R rest (upd h' l (.loop (prL tmps D .ready none))) → h' u2 = hh u2 → Q v h')
    (hf : ∀ (h' : Heap) (e : Int), R = .error e → h' l = some (.loop (prL tmps D .busy none)) → h' D = some (.deferred (some [])) → Part h0 h' → Blk h' t2 [.bool false, .slice none 0 0, .bool false] → Blk h' t3 [.int .i64 e] → Q (.bool false) h') :
    path_Parse.R8 l t2 t3 w x hh Q := by
  obtain ⟨hl, hsz, v, a, c, j, hlen, hR⟩ := i
  have nd := n.nd
  simp only [List.nodup_cons, List.mem_cons, List.not_mem_nil, not_or, or_false, List.nodup_nil, and_true, not_false_eq_true] at nd
  obtain ⟨⟨_, _, _, _, _, _, _⟩, ⟨_, _, _, _, _, _⟩, ⟨_, _, _, _, _⟩, ⟨_, _, _, _⟩, ⟨_, _, _⟩, ⟨_, _⟩, _⟩ := nd
  have hx : x.size < 1000000 := hsz x (by simp)
  have hrest : ∀ p ∈ rest, p.size < 1000000 := fun p hp => hsz p (by simp [hp])
  have hlen' : v.parts.length + (rest.length + 1) ≤ 300 := by simpa using hlen
  refine path_Parse.R8.ok ⟨_, hl, rfl, ?_⟩
  have j1 : PJ h0 t2 t3 w u1 u2 u3 D l v a c (upd hh l (.loop (prL tmps D .busy none))) := j.chg n fun k hk => upd_other _ _ hk
  have hl1 : (upd hh l (.loop (prL tmps D .busy none))) l = some (.loop (prL tmps D .busy none)) := upd_same _ _ _
  have hu1 : (upd hh l (.loop (prL tmps D .busy none))) u2 = hh u2 := upd_other _ _ (by first | assumption | (apply Ne.symm; assumption))
  have fin : ∀ (v' : Wy) (a' : Option Addr) (c' : Nat) (h' : Heap), PJ h0 t2 t3 w u1 u2 u3 D l v' a' c' h' → h' l = some (.loop (prL tmps D .busy none)) → h' u2 = hh u2 → v'.parts.length + rest.length ≤ 300 → pall rest v' = R → Q (.bool true) h' :=
    fun v' a' c' h' j' hl' hu' hn' hr' => ht _ h' _ hl' rfl rfl ⟨upd_same _ _ _, hrest, v', a', c', j'.chg n fun k hk => upd_other _ _ hk, hn', hr'⟩ hu'
  have body : ∀ (h2 : Heap), PJ h0 t2 t3 w u1 u2 u3 D l { v with dir := false } a c h2 → h2 l = some (.loop (prL tmps D .busy none)) → h2 u2 = hh u2 → ¬ (x = ⟨#[]⟩ ∨ x = hereB) →
      C Tryd.prog 32 #[.string x] h2 fun (r : Value) (h' : Heap) => ∃ (y : Int), r = .int .i64 y ∧
        xsIf (decide (y ≠ 0))
          (xsIf (decide (x ≠ upB))
            (h'.can t2 0 3 ∧ (h'.put t2 0 [.bool false, .slice none 0 0, .bool false]).can t3 0 1 ∧ Q (.bool false) ((h'.put t2 0 [.bool false, .slice none 0 0, .bool false]).put t3 0 [.int .i64 y]))
            (∃ (z : Option Addr) (n m : Nat), h'.cell w 1 = some (.slice z n m) ∧ ∀ (b : Nat), h' b = none → xsApp Tryd.prog 9 (upd h' b (.cells #[.string x] 9 (0, 0))) z n m (some ⟨b, 0, none⟩) 1 fun (a' : Option Addr) (n' c' : Nat) (h' : Heap) =>
              h'.can w 1 1 ∧ Q (.bool true) (h'.put w 1 [.slice a' n' c'])))
          (∃ (z : Option Addr) (n m : Nat), h'.cell w 1 = some (.slice z n m) ∧ ∀ (b : Nat), h' b = none → xsApp Tryd.prog 9 (upd h' b (.cells #[.string x] 9 (0, 0))) z n m (some ⟨b, 0, none⟩) 1 fun (a' : Option Addr) (n' c' : Nat) (h' : Heap) =>
              h'.can w 1 1 ∧ Q (.bool true) (h'.put w 1 [.slice a' n' c'])) := by
    intro h2 j2 hl2 hu2 hne
    refine dir_Name.c (by omega) fun h' hp => ⟨_, rfl, ?_⟩
    have j3 := j2.more hp
    have hl3 : h' l = some (.loop (prL tmps D .busy none)) := hp _ _ hl2
    have hu3 : h' u2 = hh u2 := by
      obtain ⟨y, T, hy⟩ := j2.s2
      rw [hp _ _ hy, ← hu2, hy]
    have app : ¬ (nameE x ≠ 0 ∧ x ≠ upB) → ∃ (z : Option Addr) (n m : Nat), h'.cell w 1 = some (.slice z n m) ∧ ∀ (b : Nat), h' b = none → xsApp Tryd.prog 9 (upd h' b (.cells #[.string x] 9 (0, 0))) z n m (some ⟨b, 0, none⟩) 1 fun (a' : Option Addr) (n' c' : Nat) (h' : Heap) =>
              h'.can w 1 1 ∧ Q (.bool true) (h'.put w 1 [.slice a' n' c']) := by
      intro hok
      refine ⟨a, v.parts.length, c, j3.wy.cell 1, fun b hb => ?_⟩
      have := j3.snoc n (by show v.parts.length < 1000; omega) (by rw [hl3]; simp) (x := x) hb (K := fun (a' : Option Addr) (n' c' : Nat) (h' : Heap) => h'.can w 1 1 ∧ Q (.bool true) (h'.put w 1 [.slice a' n' c'])) fun a' c' h4 e4 e5 cn j4 => ⟨cn, ?_⟩
      · exact this
      · obtain ⟨y, T, hy⟩ := j3.s2
        refine fin _ a' c' _ j4 ?_ ?_ ?_ ?_
        · rw [put_other _ _ _ (by first | assumption | (apply Ne.symm; assumption)), e4, hl3]
        · rw [put_other _ _ _ (by first | assumption | (apply Ne.symm; assumption)), e5, hu3]
        · show (v.parts ++ [x]).length + rest.length ≤ 300
          rw [List.length_append, List.length_singleton]; omega
        · rw [← hR]
          exact (pall_ok (by unfold pstep; rw [if_neg hne, if_neg hok])).symm
    refine xsIf_intro (fun e1 => xsIf_intro (fun e2 => ?_) fun e2 => app ?_) fun e1 => app ?_
    · have e1 : nameE x ≠ 0 := by simpa using e1
      have e2 : x ≠ upB := by simpa using e2
      have b2 := j3.b2.put 0 [.bool false, .slice none 0 0, .bool false]
      have b3 := j3.b3.keep (put_other h' 0 [.bool false, .slice none 0 0, .bool false] (show t3 ≠ t2 by first | assumption | (apply Ne.symm; assumption)))
      refine ⟨j3.b2.can (by simp), b3.can (by simp), hf _ (nameE x) ?_ ?_ ?_ ?_ ?_ (b3.put 0 _)⟩
      · rw [← hR]
        exact pall_err (by unfold pstep; rw [if_neg hne, if_pos ⟨e1, e2⟩])
      · rw [put_other _ _ _ (by first | assumption | (apply Ne.symm; assumption)), put_other _ _ _ (by first | assumption | (apply Ne.symm; assumption)), hl3]
      · rw [put_other _ _ _ (by first | assumption | (apply Ne.symm; assumption)), put_other _ _ _ (by first | assumption | (apply Ne.symm; assumption)), j3.d]
      · exact (j3.part.put n.f2 _ _).put n.f3 _ _
      · exact b2.keep (put_other _ _ _ (by first | assumption | (apply Ne.symm; assumption)))
    · simp only [decide_eq_false_iff_not] at e2; exact fun h => e2 h.2
    · simp only [decide_eq_false_iff_not] at e1; exact fun h => e1 h.1
  refine xsIf_intro (fun e1 => ?_) fun e1 => ?_
  · have e1 : x = ⟨#[]⟩ := by simpa using e1
    have j2 := j1.flag n true
    refine ⟨j1.wy.can (by simp), true, j2.wy.cell 2, xsIf_t rfl ?_⟩
    refine fin _ a c _ j2 (by rw [put_other _ _ _ (by first | assumption | (apply Ne.symm; assumption))]; exact hl1) (by rw [put_other _ _ _ (by first | assumption | (apply Ne.symm; assumption))]; exact hu1) (by show v.parts.length + rest.length ≤ 300; omega) ?_
    rw [← hR]
    exact (pall_ok (by unfold pstep; rw [if_pos (.inl e1)])).symm
  · have e1 : x ≠ ⟨#[]⟩ := by simpa using e1
    have j2 := j1.flag n (decide (x = hereB))
    refine ⟨j1.wy.can (by simp), decide (x = hereB), j2.wy.cell 2, xsIf_intro (fun e2 => ?_) fun e2 => ?_⟩
    · have e3 : x = hereB := by simpa using e2
      rw [e2] at j2
      show Q (.bool true) ((upd hh l (.loop (prL tmps D .busy none))).put w 2 [.bool (decide (x = hereB))])
      rw [e2]
      refine fin _ a c _ j2 (by rw [put_other _ _ _ (by first | assumption | (apply Ne.symm; assumption))]; exact hl1) (by rw [put_other _ _ _ (by first | assumption | (apply Ne.symm; assumption))]; exact hu1) (by show v.parts.length + rest.length ≤ 300; omega) ?_
      rw [← hR]
      exact (pall_ok (by unfold pstep; rw [if_pos (.inr e3)])).symm
    · rw [e2] at j2
      have e3 : x ≠ hereB := by simpa using e2
      show C Tryd.prog 32 #[.string x] ((upd hh l (.loop (prL tmps D .busy none))).put w 2 [.bool (decide (x = hereB))]) _
      rw [e2]
      exact body _ j2 (by rw [put_other _ _ _ (by first | assumption | (apply Ne.symm; assumption))]; exact hl1) (by rw [put_other _ _ _ (by first | assumption | (apply Ne.symm; assumption))]; exact hu1) (by rintro (h | h); exact e1 h; exact e3 h)
end

theorem Pts.of_sl {F : Nat → Prop} {h : Heap} {T : TypeId} {a : Option Addr} {n c : Nat} {l : List ByteArray} (w : Sl F h T 1 a n c (l.map Value.string)) (hl : l.length = n) : Pts h a n c l := by
  refine ⟨hl, ?_, w.reads⟩
  rcases w.place with ⟨_, rfl, rfl⟩ | ⟨_, _, _, _, _, _, hle, _⟩
  · exact Nat.le_refl _
  · exact hle

theorem piecesL_len (l : List UInt8) : (piecesL l).length ≤ l.length + 1 := by unfold piecesL; rw [List.length_map]; exact (cutL_len l).2
theorem piecesL_mem {l : List UInt8} {p : ByteArray} (h : p ∈ piecesL l) : p.size ≤ l.length := by
  unfold piecesL at h
  obtain ⟨q, hq, rfl⟩ := List.mem_map.1 h
  have := cutL_mem l q hq
  show q.toArray.size ≤ _
  rw [List.size_toArray]; exact this

/-- What the caller of Parse gets. -/
abbrev ParsedQ (s : ByteArray) (h : Heap) (Q : Value → Heap → Prop) : Prop := ∀ (v : Wy) (e : Int) (a : Option Addr) (c : Nat) (h' : Heap), pparse s = (v, e) → Pts h' a v.parts.length c v.parts → Part h h' →
  Q (.tuple #[.agg #[.bool v.abs, .slice a v.parts.length c, .bool v.dir], .int .i64 e]) h'

theorem pgo.c {h0 hh : Heap} {t2 t3 w u1 u2 u3 : Nat} {s : ByteArray} {Q : Value → Heap → Prop} (hq : ParsedQ s h0 Q) (h1 : s ≠ ⟨#[]⟩) (h2 : s.size ≤ 256)
    (hp : Part h0 hh) (b2 : Blk hh t2 [.bool false, .slice none 0 0, .bool false]) (b3 : Blk hh t3 [.int .i64 0]) (bw : Blk hh w [.bool (pabs s), .slice none 0 0, .bool false])
    (s1 : Blk hh u1 [.string slashB]) (s2 : Blk hh u2 [.string s]) (s3 : Blk hh u3 [.int .i64 0])
    (f2 : h0 t2 = none) (f3 : h0 t3 = none) (fw : h0 w = none) (g1 : h0 u1 = none) (g2 : h0 u2 = none) (g3 : h0 u3 = none) (nd : [t2, t3, w, u1, u2, u3].Nodup) :
    path_Parse.G8 t2 t3 w (.func (.func 66) #[] #[.pointer (some ⟨u1, 0, none⟩), .pointer (some ⟨u2, 0, none⟩), .pointer (some ⟨u3, 0, none⟩)]) hh Q := by
  rw [path_Parse.G8.eq]
  refine TW.rangeFunc rfl (by kernel_rfl) ?_ fun D l tmps hDl hD hl hsz henv => ?_
  · intro t k off e
    unfold getE at e
    split at e
    · cases e
    · unfold getE at e
      split at e
      · cases e
      · unfold getE at e
        split at e
        · cases e
        · unfold getE at e
          split at e
          · cases e
          · cases e
  have hne : ∀ {x : Nat} {cs : List Value}, Blk hh x cs → x ≠ D ∧ x ≠ l := fun bx => ⟨fun e => bx.ne (by rw [e]; exact hD), fun e => bx.ne (by rw [e]; exact hl)⟩
  have n : Nd h0 t2 t3 w u1 u2 u3 D l := by
    refine ⟨f2, f3, fw, g1, g2, g3, hp.none hD, hp.none hl, ?_⟩
    have e : [t2, t3, w, u1, u2, u3, D, l] = [t2, t3, w, u1, u2, u3] ++ [D, l] := rfl
    rw [e, List.nodup_append]
    refine ⟨nd, by simp [hDl], fun x hx y hy => ?_⟩
    have hx' : x ≠ D ∧ x ≠ l := by
      simp only [List.mem_cons, List.not_mem_nil, or_false] at hx
      rcases hx with rfl | rfl | rfl | rfl | rfl | rfl
      · exact hne b2
      · exact hne b3
      · exact hne bw
      · exact hne s1
      · exact hne s2
      · exact hne s3
    simp only [List.mem_cons, List.not_mem_nil, or_false] at hy
    rcases hy with rfl | rfl
    · exact hx'.1
    · exact hx'.2
  have nd' := n.nd
  simp only [List.nodup_cons, List.mem_cons, List.not_mem_nil, not_or, or_false, List.nodup_nil, and_true, not_false_eq_true] at nd'
  obtain ⟨⟨_, _, _, _, _, _, _⟩, ⟨_, _, _, _, _, _⟩, ⟨_, _, _, _, _⟩, ⟨_, _, _, _⟩, ⟨_, _, _⟩, ⟨_, _⟩, _⟩ := nd'
  obtain ⟨hi, hhi⟩ : ∃ hi, upd (upd hh D (.deferred (some []))) l (.loop (prL tmps D .ready none)) = hi := ⟨_, rfl⟩
  have ek : ∀ k, k ≠ D → k ≠ l → hi k = hh k := fun k h1 h2 => by rw [← hhi, upd_other _ _ h2, upd_other _ _ h1]
  have j0 : PJ h0 t2 t3 w u1 u2 u3 D l ⟨pabs s, [], false⟩ none 0 hi := by
    refine ⟨?_, ?_, b2.keep (ek _ (by first | assumption | (apply Ne.symm; assumption)) (by first | assumption | (apply Ne.symm; assumption))), b3.keep (ek _ (by first | assumption | (apply Ne.symm; assumption)) (by first | assumption | (apply Ne.symm; assumption))), s1.keep (ek _ (by first | assumption | (apply Ne.symm; assumption)) (by first | assumption | (apply Ne.symm; assumption))), ⟨s, s2.keep (ek _ (by first | assumption | (apply Ne.symm; assumption)) (by first | assumption | (apply Ne.symm; assumption)))⟩, s3.keep (ek _ (by first | assumption | (apply Ne.symm; assumption)) (by first | assumption | (apply Ne.symm; assumption))), bw.keep (ek _ (by first | assumption | (apply Ne.symm; assumption)) (by first | assumption | (apply Ne.symm; assumption))), Sl.nil _ _ _ _⟩
    · rw [← hhi]; exact ((hp.upd' n.fD _).upd' n.fl _)
    · rw [← hhi, upd_other _ _ (by first | assumption | (apply Ne.symm; assumption)), upd_same]
  obtain ⟨R, hR⟩ : ∃ R, pall (piecesL s.data.toList) ⟨pabs s, [], false⟩ = R := ⟨_, rfl⟩
  have hpe : pparse s = pend R := by unfold pparse; rw [if_neg h1, if_neg (by omega), hR]
  show C Tryd.prog 66 #[.func (.yield l) #[] #[], .pointer (some ⟨u1, 0, none⟩), .pointer (some ⟨u2, 0, none⟩), .pointer (some ⟨u3, 0, none⟩)] (upd (upd hh D (.deferred (some []))) l (.loop (prL tmps D .ready none))) _
  rw [hhi]
  have ok1 : ∀ (rest : List ByteArray) (h' : Heap), PI h0 t2 t3 w u1 u2 u3 D l tmps R rest h' → Blk h' u1 [.string slashB] ∧ Blk h' u3 [.int .i64 0] ∧ ∃ x, Blk h' u2 [.string x] := fun rest h' ⟨_, _, v, a, c, j, _, _⟩ => ⟨j.s1, j.s3, j.s2⟩
  refine strings_splitSeq_1.ok ⟨slashB, (s1.keep (ek u1 (by first | assumption | (apply Ne.symm; assumption)) (by first | assumption | (apply Ne.symm; assumption)))).cell 0, xsIf_f (by decide) ?_⟩
  refine splitL (I := PI h0 t2 t3 w u1 u2 u3 D l tmps R) ok1 (fun rest h' x i => ?_) (fun x rest h' i => ?_) (fun h' i => ?_) s.size s hi (Nat.le_refl _) (by omega) (s2.keep (ek u2 (by first | assumption | (apply Ne.symm; assumption)) (by first | assumption | (apply Ne.symm; assumption)))) ⟨by rw [← hhi, upd_same], fun p hp => ?_, _, none, 0, j0, ?_, hR⟩
  · obtain ⟨q1, q2, v, a, c, j, q3, q4⟩ := i
    exact ⟨by rw [put_other _ _ _ (by first | assumption | (apply Ne.symm; assumption))]; exact q1, q2, v, a, c, j.iter n x, q3, q4⟩
  · refine Y.one i.1 hsz (by decide) henv (TW.keep [2, 3, 4, 21] [] ?_)
    refine pround n i (fun v h2 r' e1 e2 e3 i' hu => ?_) fun h2 e e1 e2 e3 e4 e5 e6 => ?_
    · subst e2
      refine ⟨_, e1, .inl ⟨e3, .inl ⟨rfl, i', ?_⟩⟩⟩
      rw [upd_other _ _ (by first | assumption | (apply Ne.symm; assumption))]; exact hu
    · refine ⟨_, e2, .inr ⟨rfl, .inr ⟨rfl, _, upd_same _ _ _, (by intro h; cases h), ?_⟩⟩⟩
      show TW _ _ _ (.code .ret :: _) _ _ _
      have hd : ∀ k, k ≠ l → ((upd h2 l (.loop (prL tmps D .done (some .ret)))).del l) k = h2 k := fun k hk => by rw [Heap.del_ne hk, upd_other _ _ hk]
      have k1 := e5.keep (hd t2 (by first | assumption | (apply Ne.symm; assumption)))
      have k2 := e6.keep (hd t3 (by first | assumption | (apply Ne.symm; assumption)))
      have k1' := k1.keep (Heap.del_ne (b := D) (show t2 ≠ D by first | assumption | (apply Ne.symm; assumption)))
      have k2' := k2.keep (Heap.del_ne (b := D) (show t3 ≠ D by first | assumption | (apply Ne.symm; assumption)))
      refine path_Parse.E8.ok (mkD := D) (t2 := t2) (t3 := t3) (w := w) ⟨(hd D (by first | assumption | (apply Ne.symm; assumption))).trans e3, false, k1'.cell 0, none, 0, 0, k1'.cell 1, false, k1'.cell 2, e, k2'.cell 0, ?_⟩
      refine hq noWy e none 0 _ (by rw [hpe, e1]; rfl) (Pts.nil _) ?_
      intro k o hk
      have q1 : k ≠ D := fun e => by rw [e, n.fD] at hk; cases hk
      have q2 : k ≠ l := fun e => by rw [e, n.fl] at hk; cases hk
      rw [Heap.del_ne q1]; exact (hd k q2).trans (e4 k o hk)
  · obtain ⟨q1, q2, v, a, c, j, q3, q4⟩ := i
    have hv : R = .ok v := q4.symm
    refine ⟨_, q1, (by intro h; cases h), ?_⟩
    have j1 : PJ h0 t2 t3 w u1 u2 u3 D l v a c (h'.del l) := j.chg n fun k hk => Heap.del_ne hk
    generalize h'.del l = g at j1
    refine path_Parse.K8.ok (mkD := D) (t2 := t2) (t3 := t3) (w := w) (path_Parse.J14.ok ⟨v.abs, j1.wy.cell 0, a, v.parts.length, c, j1.wy.cell 1, v.dir, j1.wy.cell 2, j1.b2.can (by simp), ?_⟩)
    have c2 := j1.b2.put 0 [.bool v.abs, .slice a v.parts.length c, .bool v.dir]
    have c3 := j1.b3.keep (put_other g 0 [.bool v.abs, .slice a v.parts.length c, .bool v.dir] (show t3 ≠ t2 by first | assumption | (apply Ne.symm; assumption)))
    have c2' := (c2.keep (put_other _ 0 [.int .i64 0] (show t2 ≠ t3 by first | assumption | (apply Ne.symm; assumption)))).keep (Heap.del_ne (b := D) (show t2 ≠ D by first | assumption | (apply Ne.symm; assumption)))
    have c3' := (c3.put 0 [.int .i64 0]).keep (Heap.del_ne (b := D) (show t3 ≠ D by first | assumption | (apply Ne.symm; assumption)))
    have ee : ∀ k, k ≠ t2 → k ≠ t3 → ((g.put t2 0 [.bool v.abs, .slice a v.parts.length c, .bool v.dir]).put t3 0 [.int .i64 0]) k = g k := fun k h1 h2 => by rw [put_other _ _ _ h2, put_other _ _ _ h1]
    refine ⟨c3.can (by simp), (ee D (by first | assumption | (apply Ne.symm; assumption)) (by first | assumption | (apply Ne.symm; assumption))).trans j1.d, v.abs, c2'.cell 0, a, v.parts.length, c, c2'.cell 1, v.dir, c2'.cell 2, 0, c3'.cell 0, ?_⟩
    refine hq v 0 a c _ (by rw [hpe, hv]; rfl) (Pts.of_sl (F := fun _ => True) (j1.sl.keep (fun _ _ => trivial) fun k hk _ => ?_) rfl) ?_
    · obtain ⟨r0, r1, r2, r3, r4, r5, r6, r7, r8⟩ := hk
      rw [Heap.del_ne r7]; exact ee k r1 r2
    · intro k o hk
      have r7 : k ≠ D := fun e => by rw [e, n.fD] at hk; cases hk
      have r1 : k ≠ t2 := fun e => by rw [e, n.f2] at hk; cases hk
      have r2 : k ≠ t3 := fun e => by rw [e, n.f3] at hk; cases hk
      rw [Heap.del_ne r7]; exact (ee k r1 r2).trans (j1.part k o hk)
  · have := piecesL_mem hp; rw [bytes_len] at this; omega
  · show 0 + (piecesL s.data.toList).length ≤ 300
    have := piecesL_len s.data.toList; rw [bytes_len] at this; omega

theorem path_Parse.c {s : ByteArray} {h : Heap} {Q : Value → Heap → Prop} (hs : s.size < 1000000) (hq : ParsedQ s h Q) : C Tryd.prog 11 #[.string s] h Q := by
  refine path_Parse.ok fun b hb b1 hb1 => ?_
  have n1 : b1 ≠ b := fun e => by rw [e, upd_same] at hb1; cases hb1
  have hb1' : h b1 = none := by rw [upd_other _ _ n1] at hb1; exact hb1
  have p1 : Part h (upd (upd h b (.cells #[.bool false, .slice none 0 0, .bool false] 24 (0, 0))) b1 (.cells #[.int .i64 0] 25 (0, 0))) := (Part.upd hb _).upd' hb1' _
  have B2 : Blk (upd (upd h b (.cells #[.bool false, .slice none 0 0, .bool false] 24 (0, 0))) b1 (.cells #[.int .i64 0] 25 (0, 0))) b [.bool false, .slice none 0 0, .bool false] := (Blk.new h b #[.bool false, .slice none 0 0, .bool false] 24).keep (upd_other _ _ (Ne.symm n1))
  have B3 : Blk (upd (upd h b (.cells #[.bool false, .slice none 0 0, .bool false] 24 (0, 0))) b1 (.cells #[.int .i64 0] 25 (0, 0))) b1 [.int .i64 0] := Blk.new _ b1 #[.int .i64 0] _
  revert p1 B2 B3
  generalize upd (upd h b (.cells #[.bool false, .slice none 0 0, .bool false] 24 (0, 0))) b1 (.cells #[.int .i64 0] 25 (0, 0)) = g
  intro p1 B2 B3
  have early : ∀ e : Int, pparse s = (noWy, e) → g.can b 0 3 ∧ (g.put b 0 [.bool false, .slice none 0 0, .bool false]).can b1 0 1 ∧ ∃ x : Bool, ((g.put b 0 [.bool false, .slice none 0 0, .bool false]).put b1 0 [.int .i64 e]).cell b 0 = some (.bool x) ∧
      ∃ (x_1 : Option Addr) (n m : Nat), ((g.put b 0 [.bool false, .slice none 0 0, .bool false]).put b1 0 [.int .i64 e]).cell b 1 = some (.slice x_1 n m) ∧ ∃ x_2 : Bool, ((g.put b 0 [.bool false, .slice none 0 0, .bool false]).put b1 0 [.int .i64 e]).cell b 2 = some (.bool x_2) ∧
      ∃ x_3 : Int, ((g.put b 0 [.bool false, .slice none 0 0, .bool false]).put b1 0 [.int .i64 e]).cell b1 0 = some (.int .i64 x_3) ∧ Q (.tuple #[.agg #[.bool x, .slice x_1 n m, .bool x_2], .int .i64 x_3]) ((g.put b 0 [.bool false, .slice none 0 0, .bool false]).put b1 0 [.int .i64 e]) := by
    intro e he
    have c2 := (B2.put 0 [.bool false, .slice none 0 0, .bool false]).keep (put_other _ 0 [.int .i64 e] (show b ≠ b1 from Ne.symm n1))
    have c3 := B3.keep (put_other g 0 [.bool false, .slice none 0 0, .bool false] n1)
    have c3' := c3.put 0 [.int .i64 e]
    exact ⟨B2.can (by simp), c3.can (by simp), false, c2.cell 0, none, 0, 0, c2.cell 1, false, c2.cell 2, e, c3'.cell 0, hq noWy e none 0 _ he (Pts.nil _) ((p1.put hb _ _).put hb1' _ _)⟩
  refine xsIf_intro (fun e1 => early 13 ?_) fun e1 => xsIf_intro (fun e2 => early 9 ?_) fun e2 => ?_
  · unfold pparse; rw [if_pos (by simpa using e1)]
  · have e1 : s ≠ ⟨#[]⟩ := by simpa using e1
    have e2 : 256 < s.size := by have : (256 : Int) < s.size := by simpa using e2
                                 omega
    unfold pparse; rw [if_neg e1, if_pos e2]
  have e1 : s ≠ ⟨#[]⟩ := by simpa using e1
  have e2 : s.size ≤ 256 := by have : ¬ (256 : Int) < s.size := by simpa using e2
                               omega
  refine hasPrefix.c (by omega) ⟨_, rfl, fun w hw => ?_⟩
  have BW := Blk.new g w #[.bool false, .slice none 0 0, .bool false] 24
  refine ⟨BW.can (by simp), strings_SplitSeq.ok (strings_splitSeq.ok fun x2 hx2 x1 hx1 x3 hx3 => ⟨_, rfl, ⟨_, rfl, ?_⟩⟩)⟩
  have bw1 := BW.put 0 [.bool (pabs s), .slice none 0 0, .bool false]
  have wb : w ≠ b := fun e => B2.ne (by rw [← e]; exact hw)
  have wb1 : w ≠ b1 := fun e => B3.ne (by rw [← e]; exact hw)
  have c2 := (B2.keep (upd_other g (.cells #[.bool false, .slice none 0 0, .bool false] 24 (0, 0)) (Ne.symm wb))).keep (put_other _ 0 [.bool (pabs s), .slice none 0 0, .bool false] (Ne.symm wb))
  have c3 := (B3.keep (upd_other g (.cells #[.bool false, .slice none 0 0, .bool false] 24 (0, 0)) (Ne.symm wb1))).keep (put_other _ 0 [.bool (pabs s), .slice none 0 0, .bool false] (Ne.symm wb1))
  have hw0 : h w = none := p1.none hw
  have p2 : Part h ((upd g w (.cells #[.bool false, .slice none 0 0, .bool false] 24 (0, 0))).put w 0 [.bool (pabs s), .slice none 0 0, .bool false]) := (p1.upd' hw0 _).put hw0 _ _
  change (upd g w (.cells #[.bool false, .slice none 0 0, .bool false] 24 (0, 0))).put w 0 [.bool (pabs s), .slice none 0 0, .bool false] x2 = none at hx2
  change upd ((upd g w (.cells #[.bool false, .slice none 0 0, .bool false] 24 (0, 0))).put w 0 [.bool (pabs s), .slice none 0 0, .bool false]) x2 _ x1 = none at hx1
  change upd (upd ((upd g w (.cells #[.bool false, .slice none 0 0, .bool false] 24 (0, 0))).put w 0 [.bool (pabs s), .slice none 0 0, .bool false]) x2 _) x1 _ x3 = none at hx3
  show path_Parse.G8 b b1 w _ (upd (upd (upd ((upd g w (.cells #[.bool false, .slice none 0 0, .bool false] 24 (0, 0))).put w 0 [.bool (pabs s), .slice none 0 0, .bool false]) x2 _) x1 _) x3 _) Q
  generalize (upd g w (.cells #[.bool false, .slice none 0 0, .bool false] 24 (0, 0))).put w 0 [.bool (pabs s), .slice none 0 0, .bool false] = G at *
  have m1 : x1 ≠ x2 := fun e => by rw [e, upd_same] at hx1; cases hx1
  have hx1' : G x1 = none := by rw [upd_other _ _ m1] at hx1; exact hx1
  have m3 : x3 ≠ x1 := fun e => by rw [e, upd_same] at hx3; cases hx3
  rw [upd_other _ _ m3] at hx3
  have m32 : x3 ≠ x2 := fun e => by rw [e, upd_same] at hx3; cases hx3
  rw [upd_other _ _ m32] at hx3
  have ng : ∀ {x y : Nat} {cs : List Value}, Blk G x cs → G y = none → x ≠ y := fun bx hy e => bx.ne (by rw [e]; exact hy)
  refine pgo.c hq e1 e2 (((p2.upd' (p2.none hx2) _).upd' (p2.none hx1') _).upd' (p2.none hx3) _) ?_ ?_ ?_ (Blk.keep (Blk.new _ x1 #[.string slashB] 9) (upd_other _ _ (Ne.symm m3))) ?_ (Blk.new _ x3 #[.int .i64 0] _) hb hb1' hw0 (p2.none hx1') (p2.none hx2) (p2.none hx3) ?_
  · exact c2.keep (by rw [upd_other _ _ (ng c2 hx3), upd_other _ _ (ng c2 hx1'), upd_other _ _ (ng c2 hx2)])
  · exact c3.keep (by rw [upd_other _ _ (ng c3 hx3), upd_other _ _ (ng c3 hx1'), upd_other _ _ (ng c3 hx2)])
  · exact bw1.keep (by rw [upd_other _ _ (ng bw1 hx3), upd_other _ _ (ng bw1 hx1'), upd_other _ _ (ng bw1 hx2)])
  · exact (Blk.new G x2 #[.string s] 9).keep (by rw [upd_other _ _ (Ne.symm m32), upd_other _ _ (Ne.symm m1)])
  · have := ng c2 hx1'; have := ng c2 hx2; have := ng c2 hx3; have := ng c3 hx1'; have := ng c3 hx2; have := ng c3 hx3; have := ng bw1 hx1'; have := ng bw1 hx2; have := ng bw1 hx3
    simp only [List.nodup_cons, List.mem_cons, List.not_mem_nil, not_or, or_false, List.nodup_nil, and_true, not_false_eq_true]
    exact ⟨⟨by first | assumption | (apply Ne.symm; assumption), by first | assumption | (apply Ne.symm; assumption), by first | assumption | (apply Ne.symm; assumption), by first | assumption | (apply Ne.symm; assumption), by first | assumption | (apply Ne.symm; assumption)⟩, ⟨by first | assumption | (apply Ne.symm; assumption), by first | assumption | (apply Ne.symm; assumption), by first | assumption | (apply Ne.symm; assumption), by first | assumption | (apply Ne.symm; assumption)⟩, ⟨by first | assumption | (apply Ne.symm; assumption), by first | assumption | (apply Ne.symm; assumption), by first | assumption | (apply Ne.symm; assumption)⟩, ⟨by first | assumption | (apply Ne.symm; assumption), by first | assumption | (apply Ne.symm; assumption)⟩, by first | assumption | (apply Ne.symm; assumption)⟩
end Go.Gb
