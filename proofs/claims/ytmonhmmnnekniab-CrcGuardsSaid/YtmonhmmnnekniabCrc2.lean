/- Own text for the seat: Crc2. -/
import Derived.Test.YtmonhmmnnekniabCrc1
set_option linter.unusedVariables false
set_option linter.unusedSimpArgs false
set_option linter.unnecessarySimpa false
set_option linter.deprecated false
namespace Go.Gb
open Go.Proofs IntWalk

/-! ## crc, by definition -/

theorem int_cells : cellSize Try.prog 3 = 1 ∧ cellZero Try.prog 3 = [.int .i64 0] ∧ cellBytes Try.prog 3 = 8 := ⟨by kernel_rfl, by kernel_rfl, by kernel_rfl⟩

/-- A bit of a byte, by its place in the row. -/
def bitAt (low : Bool) (b k : Nat) : Nat := b / 2 ^ (if low then k else 7 - k) % 2
def bitsL (low : Bool) (bs : List UInt8) : List Int := bs.flatMap fun b => tab 8 fun k => (bitAt low b.toNat k : Nat)

theorem bitsL_length (low : Bool) (bs : List UInt8) : (bitsL low bs).length = 8 * bs.length := by
  induction bs with
  | nil => rfl
  | cons b r ih => unfold bitsL at ih ⊢; rw [List.flatMap_cons, List.length_append, ih, tab_length, List.length_cons]; omega
theorem bitsL_snoc (low : Bool) (bs : List UInt8) (b : UInt8) : bitsL low (bs ++ [b]) = bitsL low bs ++ tab 8 fun k => (bitAt low b.toNat k : Nat) := by
  unfold bitsL; rw [List.flatMap_append]; simp

theorem field_bit {w k : Nat} (h : k < 64) : fieldV w k 1 = w / 2 ^ k % 2 := by
  unfold fieldV
  rw [if_pos (by unfold mayP; omega)]
  unfold fieldN
  simp

theorem gabionref02_bits.L6.c {s : ByteArray} {low : Bool} {h0 : Heap} {Q : Value → Heap → Prop} {i : Nat} {b : UInt8} {done : List Int} (hs : s.size ≤ 400) (hi : i < s.size) (hb : s.data.toList[i]? = some b) (hd : done.length = 8 * i)
    (hq : ∀ a c h, Own h0 h 3 1 a (8 * i + 8) c (ints .i64 (done ++ tab 8 fun k => (bitAt low b.toNat k : Nat))) → gabionref02_bits.L3 s low a (8 * i + 8) c ((i + 1 : Nat) : Int) h Q) : ∀ (j k : Nat) (a : Option Addr) (c : Nat) (h : Heap), k + j = 8 →
    Own h0 h 3 1 a (8 * i + k) c (ints .i64 (done ++ tab k fun k => (bitAt low b.toNat k : Nat))) → gabionref02_bits.L6 s low a (8 * i + k) c i k h Q := by
  intro j
  induction j with
  | zero =>
    intro k a c h hk w
    obtain rfl : k = 8 := by omega
    apply gabionref02_bits.L6.ok
    refine xsIf_f (by simp) ?_
    rw [i64_in _ (by omega)]
    exact hq a c h w
  | succ j ih =>
    intro k a c h hk w
    apply gabionref02_bits.L6.ok
    refine xsIf_t (by simp; omega) ?_
    have step : ∀ at0 : Nat, at0 = (if low then k else 7 - k) → gabionref02_bits.J11 s low a (8 * i + k) c i k at0 h Q := by
      intro at0 hat
      apply gabionref02_bits.J11.ok
      have hb1 := byte_lt b
      have hat64 : at0 < 64 := by cases low <;> simp at hat <;> omega
      refine ⟨b, by omega, by rw [Int.toNat_natCast, bget_get hi, ← hb]; exact (List.getElem?_eq_getElem _).symm, ?_⟩
      rw [u64_nat' (by omega)]
      refine gabionref01_Field.c (by omega) ⟨_, rfl, fun b1 hb1 => ?_⟩
      rw [field_bit hat64, i64_in _ (by omega)]
      refine w.isnoc hb1 int_cells.1 (by rw [int_cells.2.1]; rfl) (by rw [int_cells.2.2]; omega) fun a' c' h' w' => ?_
      rw [i64_in _ (by omega)]
      refine ih (k + 1) a' c' h' (by omega) ?_
      rw [List.append_assoc, show b.toNat / 2 ^ at0 % 2 = bitAt low b.toNat k by unfold bitAt; rw [hat], tab_snoc k fun k => ((bitAt low b.toNat k : Nat) : Int)] at w'
      exact w'
    cases low with
    | true => exact xsIf_t rfl (step k rfl)
    | false =>
      refine xsIf_f rfl ?_
      rw [i64_in _ (by omega), show (7 : Int) - (k : Int) = ((7 - k : Nat) : Int) by omega]
      exact step (7 - k) rfl

theorem gabionref02_bits.c {s : ByteArray} {low : Bool} {h : Heap} {Q : Value → Heap → Prop} (hs : s.size ≤ 400)
    (hq : ∀ a c h', Own h h' 3 1 a (8 * s.size) c (ints .i64 (bitsL low s.data.toList)) → Q (.slice a (8 * s.size : Nat) c) h') : C Try.prog 33 #[.string s, .bool low] h Q := by
  apply gabionref02_bits.ok
  have hlen : s.data.toList.length = s.size := by simp
  have loop : ∀ (j i : Nat) (a : Option Addr) (c : Nat) (h' : Heap), i + j = s.size → Own h h' 3 1 a (8 * i) c (ints .i64 (bitsL low (s.data.toList.take i))) → gabionref02_bits.L3 s low a (8 * i) c i h' Q := by
    intro j
    induction j with
    | zero =>
      intro i a c h' hi w
      obtain rfl : i = s.size := by omega
      apply gabionref02_bits.L3.ok
      refine xsIf_f (by simp) ?_
      rw [List.take_of_length_le (by omega)] at w
      exact hq a c h' w
    | succ j ih =>
      intro i a c h' hi w
      apply gabionref02_bits.L3.ok
      refine xsIf_t (by simp; omega) ?_
      have hlt : i < s.data.toList.length := by omega
      refine gabionref02_bits.L6.c (b := s.data.toList[i]) (done := bitsL low (s.data.toList.take i)) hs (by omega) (by simp) (by rw [bitsL_length, List.length_take]; omega) (fun a c h w => ?_) 8 0 a c h' (by omega) (by simpa [tab] using w)
      refine ih (i + 1) a c h (by omega) ?_
      rw [← bitsL_snoc, ← List.take_succ_eq_append_getElem hlt] at w
      exact w
  exact loop s.size 0 none 0 h (by omega) (Own.nil (Part.refl h))

/-! the register -/

def shiftF (n : Nat) (r : Nat → Int) : Nat → Int := fun j => if j + 1 < n then r (j + 1) else 0
def refS (n : Nat) (t r : Nat → Int) (x : Int) : Nat → Int := fun j => if (r 0 + x) % 2 = 1 then (shiftF n r j + t j) % 2 else shiftF n r j

def Bit (x : Int) : Prop := x = 0 ∨ x = 1

theorem refS_bit {n : Nat} {t r : Nat → Int} {x : Int} (hr : ∀ j, Bit (r j)) : ∀ j, Bit (refS n t r x j) := by
  intro j
  have hs : Bit (shiftF n r j) := by unfold shiftF; split; exact hr _; exact .inl rfl
  unfold refS
  split
  · unfold Bit; omega
  · exact hs

section
variable {l turns : Option Addr} {l_c turns_c n : Nat} {t : Nat → Int} {ls : List Int} {h0 : Heap} {Q : Value → Heap → Prop}

theorem ref_sum_add {r_c i : Nat} {r g : Nat → Int} {a : Option Addr} (hn64 : n ≤ 64) (hls : ls.length ≤ 100000) (hg : ∀ j, Bit (g j)) (ht : ∀ j, Bit (t j)) (hturns : readsAt h0 turns (ints .i64 (tab n t))) (hi : i < ls.length)
    (hq : ∀ h, Own h0 h 3 1 a n r_c (ints .i64 (tab n fun j => (g j + t j) % 2)) → gabionref02_Sum.L7 l ls.length l_c turns n turns_c a n r_c ((i + 1 : Nat) : Int) h Q) : ∀ (j k : Nat) (h : Heap), k + j = n →
    Own h0 h 3 1 a n r_c (ints .i64 (tab n fun j => if j < k then (g j + t j) % 2 else g j)) → gabionref02_Sum.L16 l ls.length l_c turns n turns_c a n r_c i 1 k h Q := by
  intro j
  induction j with
  | zero =>
    intro k h hk w
    apply gabionref02_Sum.L16.ok
    refine xsIf_f (by simp; omega) ?_
    rw [i64_in _ (by omega)]
    refine hq h ?_
    rw [tab_congr (g := fun j => (g j + t j) % 2) (fun j hj => if_pos (by omega))] at w
    exact w
  | succ j ih =>
    intro k h hk w
    apply gabionref02_Sum.L16.ok
    refine xsIf_t (by simp; omega) (xsIf_t rfl ?_)
    apply gabionref02_Sum.J18.ok
    refine ⟨by omega, w.ibase (i := k) (by rw [tab_length]; omega) fun b hc hcan hput => ⟨by omega, reads_ints (i := k) (readsAt_part hturns w.part) (by rw [tab_length]; omega) fun b1 o1 hc1 => ?_⟩⟩
    refine ⟨_, by rw [Int.toNat_natCast]; exact hc k _ (tab_get _ (by omega)), _, by rw [Int.toNat_natCast]; exact hc1 k _ (tab_get _ (by omega)), by omega, w.ibase (i := k) (by rw [tab_length]; omega) fun b hc hcan hput => ⟨by rw [Int.toNat_natCast]; exact hcan k (by rw [tab_length]; omega), ?_⟩⟩
    have hgk := hg k
    have htk := ht k
    unfold Bit at hgk htk
    rw [Int.toNat_natCast, if_neg (by omega), i64_in (g k + t k) (by omega), irem_pos (by omega), i64_in _ (by omega)]
    refine ih (k + 1) _ (by omega) ?_
    have := hput k ((g k + t k) % 2) (by rw [tab_length]; omega)
    rw [tab_set] at this
    rw [tab_congr (g := fun j => if j < k + 1 then (g j + t j) % 2 else g j)] at this
    · exact this
    · intro q hq
      by_cases e : q = k
      · subst e; rw [if_pos rfl, if_pos (by omega)]
      · rw [if_neg e]
        by_cases e2 : q < k
        · rw [if_pos e2, if_pos (by omega)]
        · rw [if_neg e2, if_neg (by omega)]

theorem ref_sum_shift {r_c i : Nat} {r : Nat → Int} {out : Int} {a : Option Addr} (hn : 1 ≤ n) (hn64 : n ≤ 64)
    (hq : ∀ h, Own h0 h 3 1 a n r_c (ints .i64 (tab n (shiftF n r))) → gabionref02_Sum.L16 l ls.length l_c turns n turns_c a n r_c i out 0 h Q) : ∀ (j k : Nat) (h : Heap), k + 1 + j = n →
    Own h0 h 3 1 a n r_c (ints .i64 (tab n fun j => if j < k then r (j + 1) else r j)) → gabionref02_Sum.L11 l ls.length l_c turns n turns_c a n r_c i out k h Q := by
  intro j
  induction j with
  | zero =>
    intro k h hk w
    apply gabionref02_Sum.L11.ok
    unfold gabionref02_Sum.L11.wp
    rw [i64_in _ (by omega)]
    refine xsIf_f (by simp; omega) ?_
    apply gabionref02_Sum.J14.ok
    unfold gabionref02_Sum.J14.wp
    rw [i64_in _ (by omega), show (n : Int) - 1 = (k : Int) by omega]
    refine ⟨by omega, w.ibase (i := k) (by rw [tab_length]; omega) fun b hc hcan hput => ⟨by rw [Int.toNat_natCast]; exact hcan k (by rw [tab_length]; omega), hq _ ?_⟩⟩
    rw [Int.toNat_natCast]
    have := hput k 0 (by rw [tab_length]; omega)
    rw [tab_set, tab_congr (g := shiftF n r)] at this
    · exact this
    · intro q hq
      unfold shiftF
      by_cases e : q = k
      · subst e; rw [if_pos rfl, if_neg (by omega)]
      · rw [if_neg e, if_pos (by omega), if_pos (by omega)]
  | succ j ih =>
    intro k h hk w
    apply gabionref02_Sum.L11.ok
    unfold gabionref02_Sum.L11.wp
    rw [i64_in _ (by omega), show (k : Int) + 1 = ((k + 1 : Nat) : Int) by omega]
    refine xsIf_t (by simp; omega) ⟨by omega, w.ibase (i := k + 1) (by rw [tab_length]; omega) fun b hc hcan hput => ⟨_, by rw [Int.toNat_natCast]; exact hc (k + 1) _ (tab_get _ (by omega)), by omega, w.ibase (i := k) (by rw [tab_length]; omega) fun b hc hcan hput => ⟨by rw [Int.toNat_natCast]; exact hcan k (by rw [tab_length]; omega), ?_⟩⟩⟩
    rw [Int.toNat_natCast, if_neg (by omega)]
    refine ih (k + 1) _ (by omega) ?_
    have := hput k (r (k + 1)) (by rw [tab_length]; omega)
    rw [tab_set, tab_congr (g := fun j => if j < k + 1 then r (j + 1) else r j)] at this
    · exact this
    · intro q hq
      by_cases e : q = k
      · subst e; rw [if_pos rfl, if_pos (by omega)]
      · rw [if_neg e]
        by_cases e2 : q < k
        · rw [if_pos e2, if_pos (by omega)]
        · rw [if_neg e2, if_neg (by omega)]

theorem gabionref02_Sum.c {h : Heap} (hn : 1 ≤ n) (hn64 : n ≤ 64) (hll : ls.length ≤ 100000) (hls : ∀ x ∈ ls, Bit x) (ht : ∀ j, Bit (t j)) (hl : readsAt h l (ints .i64 ls)) (hturns : readsAt h turns (ints .i64 (tab n t)))
    (hq : ∀ a c h', Own h h' 3 1 a n c (ints .i64 (tab n (ls.foldl (refS n t) (fun _ => 1)))) → Q (.slice a n c) h') : C Try.prog 34 #[.slice l ls.length l_c, .slice turns n turns_c] h Q := by
  apply gabionref02_Sum.ok
  refine Own.make (h0 := h) (Part.refl h) int_cells.2.1 (by omega) (by rw [int_cells.2.2]; omega) (by omega) fun a h' w => ?_
  rw [Int.toNat_natCast] at w ⊢
  have loop7 : ∀ (j i : Nat) (r : Nat → Int) (h' : Heap), i + j = ls.length → (∀ j, Bit (r j)) → Own h h' 3 1 a n n (ints .i64 (tab n r)) →
      (∀ h'', Own h h'' 3 1 a n n (ints .i64 (tab n ((ls.drop i).foldl (refS n t) r))) → Q (.slice a n n) h'') → gabionref02_Sum.L7 l ls.length l_c turns n turns_c a n n i h' Q := by
    intro j
    induction j with
    | zero =>
      intro i r h' hi hr w hq
      apply gabionref02_Sum.L7.ok
      refine xsIf_f (by simp; omega) (hq h' ?_)
      rw [List.drop_eq_nil_of_le (by omega)]
      exact w
    | succ j ih =>
      intro i r h' hi hr w hq
      have hlt : i < ls.length := by omega
      rw [List.drop_eq_getElem_cons hlt, List.foldl_cons] at hq
      have hx := hls ls[i] (List.getElem_mem hlt)
      apply gabionref02_Sum.L7.ok
      refine xsIf_t (by simp; omega) ⟨by omega, w.ibase (i := 0) (by rw [tab_length]; omega) fun b hc hcan hput => ⟨by omega, reads_ints (i := i) (readsAt_part hl w.part) hlt fun b1 o1 hc1 => ?_⟩⟩
      refine ⟨_, hc 0 _ (tab_get _ (by omega)), _, by rw [Int.toNat_natCast]; exact hc1 i _ (List.getElem?_eq_getElem hlt), ?_⟩
      have hr0 := hr 0
      unfold Bit at hr0 hx
      rw [i64_in _ (by omega), irem_pos (by omega)]
      have hsb : ∀ j, Bit (shiftF n r j) := by intro j; unfold shiftF; split; exact hr _; exact .inl rfl
      refine ref_sum_shift (r := r) hn hn64 (fun h2 w2 => ?_) (n - 1) 0 h' (by omega) (by rw [tab_congr (g := r) (fun j hj => if_neg (by omega))]; exact w)
      have hnb := refS_bit (n := n) (t := t) (x := ls[i]) hr
      by_cases ho : (r 0 + ls[i]) % 2 = 1
      · rw [ho]
        have hre : tab n (fun j => (shiftF n r j + t j) % 2) = tab n (refS n t r ls[i]) := tab_congr fun j _ => by unfold refS; rw [if_pos ho]
        refine ref_sum_add (r := r) (g := shiftF n r) hn64 hll hsb ht hturns hlt (fun h3 w3 => ?_) n 0 h2 (by omega) (by rw [tab_congr (g := shiftF n r) (fun j hj => if_neg (by omega))]; exact w2)
        rw [hre] at w3
        exact ih (i + 1) _ h3 (by omega) hnb w3 hq
      · have h0 : (r 0 + ls[i]) % 2 = 0 := by omega
        rw [h0]
        have hre : tab n (shiftF n r) = tab n (refS n t r ls[i]) := tab_congr fun j _ => by unfold refS; rw [if_neg ho]
        rw [hre] at w2
        apply gabionref02_Sum.L16.ok
        refine xsIf_t (by simp; omega) (xsIf_f (by simp) ?_)
        rw [i64_in _ (by omega)]
        exact ih (i + 1) _ h2 (by omega) hnb w2 hq
  have loop3 : ∀ (j i : Nat) (h' : Heap), i + j = n → Own h h' 3 1 a n n (ints .i64 (tab n fun j => if j < i then 1 else 0)) → gabionref02_Sum.L3 l ls.length l_c turns n turns_c a n n i h' Q := by
    intro j
    induction j with
    | zero =>
      intro i h' hi w
      apply gabionref02_Sum.L3.ok
      refine xsIf_f (by simp; omega) ?_
      apply gabionref02_Sum.J6.ok
      rw [tab_congr (g := fun _ => 1) (fun j hj => if_pos (by omega))] at w
      exact loop7 ls.length 0 _ h' (by omega) (fun _ => .inr rfl) w (fun h'' w => hq _ _ _ w)
    | succ j ih =>
      intro i h' hi w
      apply gabionref02_Sum.L3.ok
      refine xsIf_t (by simp; omega) ⟨by omega, w.ibase (i := i) (by rw [tab_length]; omega) fun b hc hcan hput => ⟨by rw [Int.toNat_natCast]; exact hcan i (by rw [tab_length]; omega), ?_⟩⟩
      rw [Int.toNat_natCast, i64_in _ (by omega)]
      refine ih (i + 1) _ (by omega) ?_
      have := hput i 1 (by rw [tab_length]; omega)
      rw [tab_set, tab_congr (g := fun j => if j < i + 1 then 1 else 0)] at this
      · exact this
      · intro q hq
        by_cases e : q = i
        · subst e; rw [if_pos rfl, if_pos (by omega)]
        · rw [if_neg e]
          by_cases e2 : q < i
          · rw [if_pos e2, if_pos (by omega)]
          · rw [if_neg e2, if_neg (by omega)]
  refine loop3 n 0 h' (by omega) ?_
  have e : (tab n fun _ => (0 : Int)) = tab n fun j => if j < 0 then 1 else 0 := tab_congr fun j _ => by simp
  have w' : Own h h' 3 1 a n n (ints .i64 (tab n fun _ => 0)) := by
    have e2 : List.replicate n (Value.int .i64 0) = ints .i64 (List.replicate n 0) := by simp [ints]
    rw [← tab_replicate, ← e2]; simpa using w
  rw [e] at w'
  exact w'
end

/-- The number of a register. -/
def numL (l : List Int) : Nat := l.foldl (fun n x => 2 * n + x.toNat) 0

theorem gabionref02_number.c {a : Option Addr} {c : Nat} {ls : List Int} {h : Heap} {Q : Value → Heap → Prop} (hl : ls.length ≤ 60) (hb : ∀ x ∈ ls, Bit x) (hr : readsAt h a (ints .i64 ls)) (hq : Q (.int .u64 (numL ls)) h) :
    C Try.prog 35 #[.slice a ls.length c] h Q := by
  apply gabionref02_number.ok
  have loop : ∀ (j i n : Nat), i + j = ls.length → n < 2 ^ i → Q (.int .u64 ((ls.drop i).foldl (fun n x => 2 * n + x.toNat) n : Nat)) h → gabionref02_number.L3 a ls.length c n i h Q := by
    intro j
    induction j with
    | zero =>
      intro i n hi hn hq
      apply gabionref02_number.L3.ok
      refine xsIf_f (by simp; omega) ?_
      rw [List.drop_eq_nil_of_le (by omega)] at hq
      exact hq
    | succ j ih =>
      intro i n hi hn hq
      have hlt : i < ls.length := by omega
      rw [List.drop_eq_getElem_cons hlt, List.foldl_cons] at hq
      have hx := hb ls[i] (List.getElem_mem hlt)
      unfold Bit at hx
      have hp : 2 ^ i ≤ 2 ^ 60 := Nat.pow_le_pow_right (by omega) (by omega)
      apply gabionref02_number.L3.ok
      refine xsIf_t (by simp; omega) ⟨by omega, reads_ints (i := i) hr hlt fun b o hc => ⟨_, by rw [Int.toNat_natCast]; exact hc i _ (List.getElem?_eq_getElem hlt), ?_⟩⟩
      obtain ⟨x, hxe⟩ : ∃ x : Nat, ls[i] = x := ⟨ls[i].toNat, by omega⟩
      rw [hxe] at hx hq ⊢
      rw [show (2 : Int) * (n : Int) = ((2 * n : Nat) : Int) by omega, u64_nat' (by omega), u64_nat' (by omega), show ((2 * n : Nat) : Int) + (x : Int) = ((2 * n + x : Nat) : Int) by omega, u64_nat' (by omega), i64_in _ (by omega)]
      rw [Int.toNat_natCast] at hq
      exact ih (i + 1) _ (by omega) (by rw [Nat.pow_succ]; omega) hq
  exact loop ls.length 0 0 (by omega) (by omega) hq

end Go.Gb
