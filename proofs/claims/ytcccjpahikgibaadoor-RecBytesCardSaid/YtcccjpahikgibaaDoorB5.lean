/- Own texts for the seat: Pa1 Pa2 Pa3 Pa4. -/
import Derived.Test.YtcccjpahikgibaaDoorLayI
import Derived.Test.YtcccjpahikgibaaDoorLayA
import Derived.Test.YtcccjpahikgibaaDoorA12
import Derived.Test.YtcccjpahikgibaaDoorA7
import Derived.Test.YtcccjpahikgibaaDoorA9
import Derived.Laws.RangeAny
import Derived.Test.YtcccjpahikgibaaDoorB3
import Derived.Test.YtcccjpahikgibaaDoorW
import Derived.Test.YtcccjpahikgibaaDoorA11
set_option linter.unusedVariables false
set_option linter.unusedSimpArgs false
set_option linter.unnecessarySimpa false
set_option linter.deprecated false
namespace Go.Gb
open Go.Proofs Go.RowKit Go.Shelf IntWalk

/-! ## Names: strings.ContainsAny of a slash and a zero, for any bytes -/

theorem indexByte.c {s : ByteArray} {c : Int} {h : Heap} {Q : Value → Heap → Prop} (hq : Q (.int .i64 (Lib.indexByte s.data.toList c.toNat.toUInt8)) h) : C Tryd.prog 96 #[.string s, .int .u8 c] h Q := by
  intro w hs
  refine (Any.strings_IndexByte Tryd.idxB s c w).mono ?_
  rintro e w' ⟨rfl, rfl⟩
  exact ⟨_, h, rfl, hq, hs, Nat.le_refl _, fun _ _ _ => rfl, fun k hk => .inl hk, rfl, rfl, rfl⟩

def badB (b : UInt8) : Bool := b == 47 || b == 0
abbrev sepsB : ByteArray := ⟨#[UInt8.ofNat 47, UInt8.ofNat 0]⟩
def badS (s : ByteArray) : Bool := s.data.toList.any badB

theorem badB_nat (b : UInt8) : badB b = decide (b.toNat = 47 ∨ b.toNat = 0) := by
  unfold badB
  rw [Bool.eq_iff_iff]
  simp only [Bool.or_eq_true, beq_iff_eq, decide_eq_true_eq, ← UInt8.toNat_inj]
  exact Iff.rfl

theorem encode_high {r : Int} (h : 128 ≤ r) : ∃ l : List UInt8, Utf8.encode r = ⟨l.toArray⟩ ∧ 2 ≤ l.length ∧ l.length ≤ 4 ∧ ∀ b ∈ l, 128 ≤ b.toNat := by
  unfold Utf8.encode
  have hv : Utf8.valid r = true → r < 1114112 := by
    unfold Utf8.valid
    simp only [Bool.or_eq_true, Bool.and_eq_true, decide_eq_true_eq]
    omega
  have hc : 128 ≤ (if Utf8.valid r then r.toNat else Utf8.runeError) ∧ (if Utf8.valid r then r.toNat else Utf8.runeError) < 1114112 := by
    split
    · rename_i e; have := hv e; omega
    · decide
  generalize (if Utf8.valid r then r.toNat else Utf8.runeError) = c at hc
  dsimp only
  rw [if_neg (by omega)]
  have hb : ∀ n : Nat, 128 ≤ n → n < 256 → 128 ≤ (UInt8.ofNat n).toNat := fun n h1 h2 => by rw [UInt8.toNat_ofNat', Nat.mod_eq_of_lt h2]; exact h1
  split
  · exact ⟨[_, _], rfl, by simp, by simp, by
      simp only [List.mem_cons, List.not_mem_nil, or_false]
      rintro b (rfl | rfl) <;> exact hb _ (by omega) (by omega)⟩
  · split
    · exact ⟨[_, _, _], rfl, by simp, by simp, by
        simp only [List.mem_cons, List.not_mem_nil, or_false]
        rintro b (rfl | rfl | rfl) <;> exact hb _ (by omega) (by omega)⟩
    · exact ⟨[_, _, _, _], rfl, by simp, by simp, by
        simp only [List.mem_cons, List.not_mem_nil, or_false]
        rintro b (rfl | rfl | rfl | rfl) <;> exact hb _ (by omega) (by omega)⟩

theorem u8w {r : Int} (h0 : 0 ≤ r) (h1 : r < 128) : IntKind.u8.wrap r = r := by
  simp only [IntKind.wrap]
  simp (config := { decide := true }) [IntKind.bits, IntKind.signed]
  omega

theorem validRune.c {r : Int} {h : Heap} {Q : Value → Heap → Prop} (hq : ∀ x : Bool, Q (.bool x) h) : C Tryd.prog 97 #[.int .i32 r] h Q := by
  refine utf8_ValidRune.ok ?_
  unfold utf8_ValidRune.wp
  repeat' first | exact hq _ | refine xsIf_intro (fun _ => ?_) fun _ => ?_

theorem seps_at {k : Nat} (hk : k < 2) : (sepsB[k]'(by exact hk)).toNat < 128 := by
  have : ∀ k : Fin 2, (sepsB[k.val]'(by exact k.2)).toNat < 128 := by decide
  exact this ⟨k, hk⟩

theorem indexRune_seps.c {r : Int} {h : Heap} {Q : Value → Heap → Prop} (h0 : 0 ≤ r) (hq : ∀ (x : Int) h', (0 ≤ x ↔ r = 47 ∨ r = 0) → Part h h' → Q (.int .i64 x) h') :
    C Tryd.prog 85 #[.string sepsB, .int .i32 r] h Q := by
  refine strings_IndexRune.ok (xsIf_t (by simpa using h0) (xsIf_intro (fun h1 => ?_) fun h1 => ?_))
  · have h1 : r < 128 := by simpa using h1
    refine indexByte.c ⟨_, rfl, hq _ _ ?_ (Part.refl _)⟩
    rw [u8w h0 h1]
    obtain ⟨n, rfl⟩ : ∃ n : Nat, r = n := ⟨r.toNat, by omega⟩
    have hn : n < 128 := by omega
    show 0 ≤ Lib.indexByte [47, 0] n.toUInt8 ↔ _
    have : ∀ n : Fin 128, (0 ≤ Lib.indexByte [47, 0] n.val.toUInt8 ↔ (n.val = 47 ∨ n.val = 0)) := by decide
    have := this ⟨n, hn⟩
    rw [this]
    constructor
    · rintro (h | h)
      · left; exact congrArg Nat.cast h
      · right; exact congrArg Nat.cast h
    · rintro (h | h)
      · left; exact Int.ofNat.inj h
      · right; exact Int.ofNat.inj h
  · have h1 : 128 ≤ r := by simpa using h1
    have hno : (0 ≤ (-1 : Int) ↔ r = 47 ∨ r = 0) := by omega
    refine xsIf_intro (fun h2 => ?_) fun h2 => ?_
    · intro b hb
      have step : ∀ (n : Nat) (h' : Heap) (k : Nat), k + n = 2 → Part h h' → h b = none → h' b = some (.stringIter sepsB k) → strings_IndexRune.L38 b h' Q := by
        intro n
        induction n with
        | zero =>
          intro h' k hk hp hb hi
          refine strings_IndexRune.L38.ok ⟨b, 0, rfl, rfl, sepsB, k, hi, fun hlt => ?_, fun _ => hq _ _ hno hp⟩
          have : sepsB.size = 2 := rfl
          omega
        | succ n ih =>
          intro h' k hk hp hb hi
          have hk' : k < 2 := by omega
          have hd : Utf8.decode sepsB k = ((sepsB[k]'(by exact hk')).toNat, 1) := decode_ascii sepsB k hk' (by
            exact seps_at hk')
          have hw : udW sepsB k = 1 := by unfold udW; rw [hd]
          have hr : udR sepsB k ≠ 65533 := by
            have := seps_at hk'
            unfold udR; rw [hd]
            show (((sepsB[k]'(by exact hk')).toNat : Nat) : Int) ≠ 65533
            omega
          refine strings_IndexRune.L38.ok ⟨b, 0, rfl, rfl, sepsB, k, hi, fun _ => xsIf_f (by simpa using hr) ?_, fun hlt => ?_⟩
          · rw [hw]
            exact ih _ (k + 1) (by omega) (hp.upd' hb _) hb (upd_same _ _ _)
          · have : sepsB.size = 2 := rfl
            omega
      exact step 2 _ 0 rfl (Part.upd hb _) hb (upd_same _ _ _)
    · refine validRune.c fun x => ⟨x, rfl, xsIf_intro (fun _ => hq _ _ hno (Part.refl _)) fun _ => ?_⟩
      obtain ⟨l, he, hl2, hl4, hlb⟩ := encode_high h1
      rw [he]
      have hsz : ((⟨l.toArray⟩ : ByteArray).size : Int) = l.length := by rw [show (⟨l.toArray⟩ : ByteArray).size = l.length from by simp [ByteArray.size]]
      rw [hsz, i64_in _ (by omega)]
      refine strings_IndexRune.L5.ok (xsIf_intro (fun h3 => ?_) fun _ => hq _ _ hno (Part.refl _))
      have h3 : (l.length : Int) - 1 < (sepsB.size : Int) := by simpa using h3
      have hss : sepsB.size = 2 := rfl
      have hl : l.length = 2 := by omega
      rw [hl]
      have hg : bget (⟨l.toArray⟩ : ByteArray) 1 = some (l[1]'(by omega)) := by
        show (⟨l.toArray⟩ : ByteArray)[1]? = _
        rw [getElem?_pos _ _ (by simp [ByteArray.size]; omega)]; rfl
      have hx := hlb _ (List.getElem_mem (l := l) (n := 1) (by omega))
      refine ⟨0, by decide, rfl, _, by decide, hg, xsIf_t (by simp; omega) ⟨⟨by decide, by decide⟩, _, by decide, hg, indexByte.c ⟨_, rfl, xsIf_t (by rw [show (sext sepsB (IntKind.wrap .i64 (((2 : Nat) : Int) - 1 + 1)) (sepsB.size : Int)).data.toList = [] from by decide]; rfl) (hq _ _ hno (Part.refl _))⟩⟩⟩

theorem decode_skip (s : ByteArray) (pos k : Nat) (h1 : 1 ≤ k) (h2 : k < (Utf8.decode s pos).2) : pos + k < s.size ∧ 128 ≤ (s.get! (pos + k)).toNat := by
  have hk : k = 1 ∨ k = 2 ∨ k = 3 ∨ 4 ≤ k := by omega
  revert h2
  simp only [Utf8.decode]
  intro h2
  repeat' split at h2
  all_goals simp_all [Utf8.runeError]
  all_goals (rcases hk with rfl | rfl | rfl | hk <;> omega)

theorem bytes_len (s : ByteArray) : s.data.toList.length = s.size := Array.length_toList

theorem get_bytes {s : ByteArray} {k : Nat} (h : k < s.size) : s.data.toList[k]? = some (s.get! k) := by
  have h' : k < s.data.toList.length := by rw [bytes_len]; exact h
  rw [List.getElem?_eq_getElem h']
  congr 1
  show _ = s.data[k]!
  rw [getElem!_pos s.data k h]
  simp

theorem any_take (s : ByteArray) (k : Nat) : (s.data.toList.take k).any badB = true → badS s = true := by
  intro h
  obtain ⟨b, hb, hx⟩ := List.any_eq_true.1 h
  exact List.any_eq_true.2 ⟨b, List.mem_of_mem_take hb, hx⟩

theorem take_succ_any {s : ByteArray} {k : Nat} (h : k < s.size) (h1 : (s.data.toList.take k).any badB = false) (h2 : badB (s.get! k) = false) : (s.data.toList.take (k + 1)).any badB = false := by
  rw [List.take_succ, get_bytes h, List.any_append, h1]
  simp [h2]

theorem L18.c {s : ByteArray} {b : Nat} {h0 : Heap} {Q : Value → Heap → Prop} (hb : h0 b = none) (hq : ∀ (x : Int) h', (0 ≤ x ↔ badS s = true) → Part h0 h' → Q (.int .i64 x) h') :
    ∀ (n pos : Nat) (h : Heap), s.size - pos ≤ n → Part h0 h → h b = some (.stringIter s pos) → (s.data.toList.take pos).any badB = false → strings_IndexAny.L18 sepsB b h Q := by
  intro n
  induction n with
  | zero =>
    intro pos h hn hp hi ht
    refine strings_IndexAny.L18.ok ⟨b, 0, rfl, rfl, s, pos, hi, fun hlt => by omega, fun hle => hq _ _ ?_ hp⟩
    rw [List.take_of_length_le (by rw [bytes_len]; omega)] at ht
    unfold badS; rw [ht]; simp
  | succ n ih =>
    intro pos h hn hp hi ht
    refine strings_IndexAny.L18.ok ⟨b, 0, rfl, rfl, s, pos, hi, fun hlt => ?_, fun hle => hq _ _ ?_ hp⟩
    · have hg : s[pos]'hlt = s.get! pos := by rw [← get_at s pos hlt]; rfl
      have hp' : Part h0 (upd h b (.stringIter s (pos + udW s pos))) := hp.upd' hb _
      by_cases ha : (s.get! pos).toNat < 128
      · have hd : Utf8.decode s pos = ((s.get! pos).toNat, 1) := by rw [decode_ascii s pos hlt (by rw [hg]; exact ha), hg]
        have hr : udR s pos = ((s.get! pos).toNat : Nat) := by unfold udR; rw [hd]
        have hw : udW s pos = 1 := by unfold udW; rw [hd]
        rw [hr, hw]; rw [hw] at hp'
        refine indexRune_seps.c (by omega) fun x h' hx hp2 => ⟨x, rfl, xsIf_intro (fun h1 => ?_) fun h1 => ?_⟩
        · have h1 : 0 ≤ x := by simpa using h1
          refine hq _ _ ⟨fun _ => any_take s (pos + 1) ?_, fun _ => by omega⟩ (hp'.trans hp2)
          rw [List.take_succ, get_bytes hlt, List.any_append]
          have := hx.1 h1
          have hbb : badB (s.get! pos) = true := by rw [badB_nat]; simp only [decide_eq_true_eq]; omega
          simp [hbb]
        · have h1 : ¬ 0 ≤ x := by simpa using h1
          have hbb : badB (s.get! pos) = false := by
            rw [badB_nat]; simp only [decide_eq_false_iff_not]
            intro hc; exact h1 (hx.2 (by omega))
          exact ih (pos + 1) h' (by omega) (hp'.trans hp2) (hp2 _ _ (upd_same _ _ _)) (take_succ_any hlt ht hbb)
      · obtain ⟨h1, h2⟩ := decode_high s pos hlt (by rw [hg]; omega)
        refine indexRune_seps.c (by show (0 : Int) ≤ (((Utf8.decode s pos).1 : Nat) : Int); omega) fun x h' hx hp2 => ⟨x, rfl, xsIf_f ?_ ?_⟩
        · have : ¬ (0 ≤ x) := fun hc => by
            have := hx.1 hc
            unfold udR at this; omega
          simpa using this
        · have hall : ∀ j, j ≤ (Utf8.decode s pos).2 → (s.data.toList.take (pos + j)).any badB = false := by
            intro j
            induction j with
            | zero => intro _; exact ht
            | succ j ihj =>
              intro hj
              have h0 := ihj (by omega)
              by_cases e : j = 0
              · subst e
                exact take_succ_any hlt h0 (by rw [badB_nat]; simp only [decide_eq_false_iff_not]; show ¬ ((s.get! pos).toNat = 47 ∨ (s.get! pos).toNat = 0); omega)
              · obtain ⟨q1, q2⟩ := decode_skip s pos j (by omega) (by omega)
                exact take_succ_any q1 h0 (by rw [badB_nat]; simp only [decide_eq_false_iff_not]; revert q2; generalize (s.get! (pos + j)).toNat = z; intro q2; omega)
          exact ih (pos + udW s pos) h' (by show s.size - (pos + (Utf8.decode s pos).2) ≤ n; omega) (hp'.trans hp2) (hp2 _ _ (upd_same _ _ _)) (hall _ (Nat.le_refl _))
    · rw [List.take_of_length_le (by rw [bytes_len]; omega)] at ht
      unfold badS; rw [ht]; simp

end Go.Gb
namespace Go.Gb
open Go.Proofs IntWalk

/-! ## The pieces of a path; strings.SplitSeq -/

abbrev slashB : ByteArray := ⟨#[UInt8.ofNat 47]⟩
abbrev mkB (l : List UInt8) : ByteArray := ⟨l.toArray⟩
theorem sext_mk (s : ByteArray) {a b : Nat} : sext s (a : Int) (b : Int) = mkB ((s.data.toList.take b).drop a) := by
  unfold sext mkB
  apply ByteArray.ext
  apply Array.ext'
  rw [ByteArray.data_extract, Array.toList_extract]
  show List.extract _ _ _ = _
  rw [List.extract_eq_take_drop, List.drop_take]
  rfl

end Go.Gb
namespace Go.Gb
open Go.Proofs IntWalk

/-! ## path.Parse -/

structure Wy where
  abs : Bool
  parts : List ByteArray
  dir : Bool

/-- A way's parts in memory, which nobody changes. -/
structure Pts (h : Heap) (a : Option Addr) (n c : Nat) (l : List ByteArray) : Prop where
  len : l.length = n
  le : n ≤ c
  reads : readsAt h a (l.map Value.string)

theorem Pts.part {h h' : Heap} {a : Option Addr} {n c : Nat} {l : List ByteArray} (p : Pts h a n c l) (q : Part h h') : Pts h' a n c l := ⟨p.len, p.le, readsAt_part p.reads q⟩
theorem Pts.nil (h : Heap) : Pts h none 0 0 [] := ⟨rfl, Nat.le_refl _, (Sl.nil (fun _ => False) h 0 1).reads⟩

end Go.Gb
namespace Go.Gb
open Go.Proofs IntWalk


end Go.Gb
