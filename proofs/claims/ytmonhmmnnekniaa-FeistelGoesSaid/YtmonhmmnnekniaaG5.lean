/- Own text for the seat: G5. -/
import Derived.Test.YtmonhmmnnekniaaG1
import Derived.Test.YtmonhmmnnekniaaG3
set_option linter.unusedVariables false
set_option linter.unusedSimpArgs false
set_option linter.unnecessarySimpa false
set_option linter.deprecated false
namespace Go.Gb
open Go.Proofs IntWalk

/-! ## gap: lines and slots -/

theorem emod_two {x n : Int} (h0 : 0 ≤ x) (h1 : x < 2 * n) (hn : 0 < n) : x % n = if x < n then x else x - n := by
  split
  · exact Int.emod_eq_of_lt h0 (by omega)
  · rw [← Int.sub_emod_right, Int.emod_eq_of_lt (by omega) (by omega)]

def lineE (s0 s1 n p : Int) : Int := if p = s1 then -1 else if s0 ≤ (if s1 < p then p - 1 else p) then (if s1 < p then p - 1 else p) - s0 else (if s1 < p then p - 1 else p) - s0 + n
def slotE (s0 s1 n i : Int) : Int := if s1 ≤ (if i + s0 < n then i + s0 else i + s0 - n) then (if i + s0 < n then i + s0 else i + s0 - n) + 1 else (if i + s0 < n then i + s0 else i + s0 - n)

theorem slotS_eq {s0 s1 n i : Int} (hp : rightP s0 s1 n) (h0 : 0 ≤ i) (h1 : i < n) : slotS s0 s1 n i = slotE s0 s1 n i := by
  have hp' := hp
  unfold rightP at hp'
  unfold slotS slotE
  rw [if_pos ⟨hp, h0, h1⟩, emod_two (by omega) (by omega) (by omega)]

def lineS (s0 s1 n p : Int) : Int := if rightP s0 s1 n ∧ 0 ≤ p ∧ p ≤ n then lineE s0 s1 n p else -1

theorem gap_State_Line.c {s0 s1 s2 n p r : Int} {h : Heap} {Q : Value → Heap → Prop} (hr : lineS s0 s1 n p = r) (hq : Q (.int .i64 r) h) :
    C Try.prog 31 #[.agg #[.int .i64 s0, .int .i64 s1, .int .u32 s2], .int .i64 n, .int .i64 p] h Q := by
  apply gap_State_Line.ok
  unfold gap_State_Line.wp
  refine gap_State_Right.c ⟨_, rfl, ?_⟩
  subst hr
  unfold lineS at hq
  refine xsIf_intro (fun hc => ?_) (fun hc => ?_)
  · simp at hc
    rw [if_neg (fun h => hc h.1)] at hq
    exact hq
  · simp at hc
    have hc' := hc
    unfold rightP at hc'
    refine xsIf_intro (fun h1 => ?_) (fun h1 => xsIf_intro (fun h2 => ?_) (fun h2 => xsIf_intro (fun h3 => ?_) (fun h3 => ?_)))
    · simp at h1; rw [if_neg (by omega)] at hq; exact hq
    · simp at h2; rw [if_neg (by omega)] at hq; exact hq
    · simp at h1 h2 h3
      rw [if_pos ⟨hc, by omega, by omega⟩] at hq
      unfold lineE at hq
      rw [if_pos h3] at hq; exact hq
    · simp at h1 h2 h3
      rw [if_pos ⟨hc, by omega, by omega⟩] at hq
      unfold lineE at hq
      rw [if_neg h3] at hq
      apply gap_State_Line.J3.ok
      unfold gap_State_Line.J3.wp
      refine xsIf_intro (fun h4 => ⟨by omega, ?_⟩) (fun h4 => ⟨by omega, ?_⟩) <;> simp at h4
      · rw [i64_in (p - 1) (by omega), i64_in (p - 1 - s0) (by omega), i64_in _ (by omega), irem_pos (by omega), emod_two (by omega) (by omega) (by omega)]
        simp only [if_pos h4] at hq
        have e : (if p - 1 - s0 + n < n then p - 1 - s0 + n else p - 1 - s0 + n - n) = if s0 ≤ p - 1 then p - 1 - s0 else p - 1 - s0 + n := by split <;> split <;> omega
        rw [e]; exact hq
      · rw [i64_in (p - s0) (by omega), i64_in _ (by omega), irem_pos (by omega), emod_two (by omega) (by omega) (by omega)]
        simp only [if_neg (show ¬ s1 < p by omega)] at hq
        have e : (if p - s0 + n < n then p - s0 + n else p - s0 + n - n) = if s0 ≤ p then p - s0 else p - s0 + n := by split <;> split <;> omega
        rw [e]; exact hq

theorem lineE_slotE {s0 s1 n i : Int} (hp : rightP s0 s1 n) (h0 : 0 ≤ i) (h1 : i < n) : lineE s0 s1 n (slotE s0 s1 n i) = i ∧ 0 ≤ slotE s0 s1 n i ∧ slotE s0 s1 n i ≤ n ∧ slotE s0 s1 n i ≠ s1 := by
  unfold rightP at hp
  unfold lineE slotE
  (repeat' split) <;> omega

theorem slotE_lineE {s0 s1 n p : Int} (hp : rightP s0 s1 n) (h0 : 0 ≤ p) (h1 : p ≤ n) (h2 : p ≠ s1) : slotE s0 s1 n (lineE s0 s1 n p) = p ∧ 0 ≤ lineE s0 s1 n p ∧ lineE s0 s1 n p < n := by
  unfold rightP at hp
  unfold lineE slotE
  (repeat' split) <;> omega

/-- The lines of a state, slot by slot. -/
def linesL (s0 s1 : Int) (N : Nat) : List Int := (List.range (N + 1)).map fun (p : Nat) => lineE s0 s1 N p

theorem linesL_get {s0 s1 : Int} {N p : Nat} (hp : p ≤ N) : (linesL s0 s1 N)[p]? = some (lineE s0 s1 N p) := by
  unfold linesL
  rw [List.getElem?_map, List.getElem?_range (by omega)]; rfl

theorem ints3 : cellZero Try.prog 3 = [.int .i64 0] ∧ cellBytes Try.prog 3 = 8 := ⟨by kernel_rfl, by kernel_rfl⟩

theorem toN (i : Int) (h : 0 ≤ i) : ∃ k : Nat, i = k := ⟨i.toNat, by omega⟩

/-- The reference's loop. -/
theorem gabionref06_Slots.L4.c {h0 : Heap} {Q : Value → Heap → Prop} {s0 s1 : Int} {N : Nat} {a : Option Addr} {c : Nat} (hp : rightP s0 s1 N)
    (hq : ∀ h', Own h0 h' 3 1 a (N + 1) c ((linesL s0 s1 N).map (Value.int .i64)) → Q (.slice a (N + 1) c) h') : ∀ (j : Nat) (i : Nat) (h : Heap) (vs : List Value), i + j = N →
    Own h0 h 3 1 a (N + 1) c vs → (∀ p : Nat, p ≤ N → vs[p]? = some (.int .i64 (if (p : Int) = s1 then -1 else if lineE s0 s1 N p < i then lineE s0 s1 N p else 0))) →
    gabionref06_Slots.L4 s0 s1 N a (N + 1) c i h Q := by
  have hp' := hp
  unfold rightP at hp'
  intro j
  induction j with
  | zero =>
    intro i h vs hi w hv
    apply gabionref06_Slots.L4.ok
    refine xsIf_f (by simp; omega) ?_
    apply hq
    have e : vs = (linesL s0 s1 N).map (Value.int .i64) := by
      apply List.ext_getElem?
      intro p
      by_cases hpn : p ≤ N
      · rw [hv p hpn, List.getElem?_map, linesL_get hpn]
        by_cases hps : (p : Int) = s1
        · rw [if_pos hps]; unfold lineE; rw [if_pos hps]; rfl
        · rw [if_neg hps, if_pos]; rfl
          have := slotE_lineE hp (p := p) (by omega) (by omega) hps
          omega
      · rw [List.getElem?_eq_none (by rw [w.len]; omega), List.getElem?_eq_none (by simp [linesL]; omega)]
    rw [← e]; exact w
  | succ j ih =>
    intro i h vs hi w hv
    apply gabionref06_Slots.L4.ok
    refine xsIf_t (by simp; omega) ⟨by omega, ?_⟩
    have hls := lineE_slotE hp (i := i) (by omega) (by omega)
    have next : ∀ p : Nat, (p : Int) = slotE s0 s1 N i → atBase a fun b o => h.can b (o + ((p : Nat) : Int).toNat * 1) 1 ∧ gabionref06_Slots.L4 s0 s1 N a (N + 1) c (IntKind.i64.wrap (i + 1)) (h.put b (o + ((p : Nat) : Int).toNat * 1) [.int .i64 i]) Q := by
      intro p hpe
      refine w.base (by omega) fun b _ hcan hput => ?_
      rw [Int.toNat_natCast]
      refine ⟨hcan p (by omega), ?_⟩
      rw [i64_in _ (by omega)]
      refine ih (i + 1) _ _ (by omega) (hput p _ (by omega)) ?_
      intro q hqn
      rw [List.getElem?_set]
      by_cases e : p = q
      · subst e
        rw [if_pos rfl, if_pos (by rw [w.len]; omega), if_neg (by omega), hpe, hls.1, if_pos (by omega)]
      · rw [if_neg e, hv q hqn]
        by_cases hqs : (q : Int) = s1
        · rw [if_pos hqs, if_pos hqs]
        · rw [if_neg hqs, if_neg hqs]
          have hsl := slotE_lineE hp (p := q) (by omega) (by omega) hqs
          have hne : lineE s0 s1 N q ≠ i := fun e2 => e (by rw [e2] at hsl; omega)
          by_cases hlt : lineE s0 s1 N q < i
          · rw [if_pos hlt, if_pos (by omega)]
          · rw [if_neg hlt, if_neg (by omega)]
    rw [i64_in ((i : Int) + s0) (by omega), irem_pos (by omega), emod_two (by omega) (by omega) (by omega)]
    unfold slotE at next hls
    generalize hqq : (if (i : Int) + s0 < N then (i : Int) + s0 else i + s0 - N) = q at *
    have hq0 : 0 ≤ q ∧ q < N := by rw [← hqq]; split <;> omega
    refine xsIf_intro (fun h1 => ?_) (fun h1 => ?_) <;> simp at h1
    · rw [i64_in (q + 1) (by omega)]
      obtain ⟨p, hpp⟩ := toN (q + 1) (by omega)
      rw [hpp]
      refine ⟨by omega, next p (by rw [if_pos h1]; omega)⟩
    · obtain ⟨p, hpp⟩ := toN q (by omega)
      rw [hpp] at next h1 ⊢
      refine ⟨by omega, next p (by rw [if_neg (by omega)])⟩

theorem gabionref06_Slots.c {s0 s1 : Int} {N : Nat} {h : Heap} {Q : Value → Heap → Prop} (hp : rightP s0 s1 N)
    (hq : ∀ a c h', Own h h' 3 1 a (N + 1) c ((linesL s0 s1 N).map (Value.int .i64)) → Q (.slice a (N + 1) c) h') : C Try.prog 30 #[.int .i64 s0, .int .i64 s1, .int .i64 N] h Q := by
  have hp' := hp
  unfold rightP at hp'
  apply gabionref06_Slots.ok
  unfold gabionref06_Slots.wp
  rw [i64_in ((N : Int) + 1) (by omega)]
  refine Own.make (h0 := h) (Part.refl h) ints3.1 (by omega) (by rw [ints3.2]; omega) (by omega) ?_
  intro a h' w
  rw [show ((N : Int) + 1).toNat = N + 1 by omega] at w ⊢
  refine ⟨by omega, ?_⟩
  obtain ⟨g, rfl⟩ := toN s1 (by omega)
  refine w.base (by omega) fun b _ hcan hput => ?_
  rw [Int.toNat_natCast]
  refine ⟨hcan g (by omega), ?_⟩
  refine gabionref06_Slots.L4.c hp (fun h'' w' => hq _ _ _ w') N 0 _ _ (by omega) (hput g _ (by omega)) ?_
  intro p hpn
  rw [List.getElem?_set]
  by_cases e : g = p
  · subst e
    rw [if_pos rfl, if_pos (by simp; omega), if_pos rfl]
  · rw [if_neg e, if_neg (by omega), List.getElem?_replicate, if_pos (by omega), if_neg]
    have := slotE_lineE hp (p := p) (by omega) (by omega) (by omega)
    omega

theorem slotS_no {s0 s1 n i : Int} (h : ¬ (rightP s0 s1 n ∧ 0 ≤ i ∧ i < n)) : slotS s0 s1 n i = -1 := if_neg h
theorem lineS_no {s0 s1 n i : Int} (h : ¬ (rightP s0 s1 n ∧ 0 ≤ i ∧ i ≤ n)) : lineS s0 s1 n i = -1 := if_neg h

theorem gabionlaw06_GapSlots.J11.c {i x0 x1 x2 : Int} {h : Heap} {Q : Value → Heap → Prop} (hq : Q (.bool true) h) : gabionlaw06_GapSlots.J11 i x0 x1 x2 h Q := by
  apply gabionlaw06_GapSlots.J11.ok
  unfold gabionlaw06_GapSlots.J11.wp
  have last : gabionlaw06_GapSlots.J15 x0 x1 x2 h Q := by
    apply gabionlaw06_GapSlots.J15.ok
    unfold gabionlaw06_GapSlots.J15.wp
    refine gap_First.c ⟨_, _, _, rfl, ?_⟩
    refine xsIf_intro (fun h1 => xsIf_intro (fun h2 => ?_) (fun h2 => ?_)) (fun h1 => ?_)
    · simp at h1 h2
      refine gabionlaw06_wakes.c ⟨_, rfl, xsIf_t rfl ?_⟩
      rw [if_pos ⟨h1, h2⟩]; simpa using hq
    · simp at h1 h2
      refine gabionlaw06_wakes.c ⟨_, rfl, xsIf_t rfl ?_⟩
      rw [if_neg (by omega)]; simpa using hq
    · simp at h1
      refine gabionlaw06_wakes.c ⟨_, rfl, xsIf_t rfl ?_⟩
      rw [if_neg (by omega)]; simpa using hq
  refine gabionref06_Right.c ⟨_, rfl, ?_⟩
  refine gap_State_Right.c ⟨_, rfl, ?_⟩
  refine xsIf_f (by simp) ?_
  refine xsIf_intro (fun h1 => ?_) (fun _ => last)
  simp at h1
  refine gap_State_Slot.c (slotS_no (fun h => h1 h.1)) ⟨_, rfl, xsIf_f (by simp) ?_⟩
  exact gap_State_Line.c (lineS_no (fun h => h1 h.1)) ⟨_, rfl, xsIf_f (by simp) last⟩

theorem gabionlaw06_GapSlots.L4.c {h0 : Heap} {Q : Value → Heap → Prop} {s0 s1 s2 i x0 x1 x2 : Int} {N : Nat} {a : Option Addr} {c : Nat} {h : Heap} (hp : rightP s0 s1 N)
    (w : Own h0 h 3 1 a (N + 1) c ((linesL s0 s1 N).map (Value.int .i64))) (hq : Q (.bool true) h) : ∀ (j k : Nat), k + j = N + 1 →
    gabionlaw06_GapSlots.L4 i N a (N + 1) c ((N + 1 : Nat) : Int) k x0 x1 x2 s0 s1 s2 h Q := by
  have hp' := hp
  unfold rightP at hp'
  intro j
  induction j with
  | zero =>
    intro k hk
    apply gabionlaw06_GapSlots.L4.ok
    refine xsIf_f (by simp; omega) ?_
    apply gabionlaw06_GapSlots.J9.ok
    unfold gabionlaw06_GapSlots.J9.wp
    refine gap_State_Slot.c (slotS_no (by omega)) ⟨_, rfl, xsIf_f (by simp) ?_⟩
    refine gap_State_Slot.c (slotS_no (by omega)) ⟨_, rfl, xsIf_f (by simp) ?_⟩
    rw [i64_in _ (by omega)]
    refine gap_State_Line.c (lineS_no (by omega)) ⟨_, rfl, xsIf_f (by simp) ?_⟩
    refine gap_State_Line.c (lineS_no (by omega)) ⟨_, rfl, xsIf_f (by simp) ?_⟩
    exact gabionlaw06_GapSlots.J11.c hq
  | succ j ih =>
    intro k hk
    apply gabionlaw06_GapSlots.L4.ok
    refine xsIf_t (by simp; omega) ⟨by omega, ?_⟩
    have next := ih (k + 1) (by omega)
    refine w.base (by omega) fun b hcell _ _ => ⟨lineE s0 s1 N k, ?_, ?_⟩
    · rw [Int.toNat_natCast, hcell k (by omega), List.getElem?_map, linesL_get (by omega)]; rfl
    refine gap_State_Line.c (show lineS s0 s1 N k = lineE s0 s1 N k from if_pos ⟨hp, by omega, by omega⟩) ⟨_, rfl, xsIf_f (by simp) ?_⟩
    rw [i64_in _ (by omega)]
    refine xsIf_intro (fun h1 => ?_) (fun h1 => next)
    simp at h1
    have hks : (k : Int) ≠ s1 := fun e => by unfold lineE at h1; rw [if_pos e] at h1; omega
    have hsl := slotE_lineE hp (p := k) (by omega) (by omega) hks
    refine gap_State_Slot.c (show slotS s0 s1 N (lineE s0 s1 N k) = k by rw [slotS_eq hp hsl.2.1 hsl.2.2]; exact hsl.1) ⟨_, rfl, xsIf_f (by simp) next⟩

theorem gabionlaw06_GapSlots.law (ns : List Int) (hl : ns.length = 3) (hw : ∀ x ∈ ns, IntKind.i64.min ≤ x ∧ x ≤ IntKind.i64.max) (i : Int) (wi : IntKind.i64.min ≤ i ∧ i ≤ IntKind.i64.max) (h : Heap) :
    C Try.prog 9 #[.agg (ns.map (Value.int .i64)).toArray, .int .i64 i] h fun v h' => v = .bool true ∧ Part h h' := by
  match ns, hl with
  | [x0, x1, x2], _ =>
  apply gabionlaw06_GapSlots.ok
  show gabionlaw06_GapSlots.wp x0 x1 x2 i h _
  unfold gabionlaw06_GapSlots.wp
  refine gabionlaw06_tame.c (hw x1 (by simp)).2 (hw x2 (by simp)).2 fun n a b c hn hn' ha ha' hb hb' hc hc' hcw => ⟨_, _, _, _, rfl, ?_⟩
  obtain ⟨N, rfl⟩ := toN n (by omega)
  have hp : rightP a b N := ⟨hn, by omega, ha, ha', hb, hb'⟩
  refine gabionref06_Slots.c hp fun t c' h' w => ⟨_, _, _, rfl, ?_⟩
  exact gabionlaw06_GapSlots.L4.c hp w ⟨rfl, w.part⟩ (N + 1) 0 (by omega)

end Go.Gb
