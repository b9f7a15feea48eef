/- Own text for the seat: G1. -/
import Derived.Test.YtmonhmmnnekniaaW
import Derived.Test.YtmonhmmnnekniaaGbSl
import Derived.Test.YtmonhmmnnekniaaGbClose
set_option linter.unusedVariables false
set_option linter.unusedSimpArgs false
set_option linter.unnecessarySimpa false
set_option linter.deprecated false
namespace Go.Gb
open Go.Proofs IntWalk

def rightP (s0 s1 n : Int) : Prop := 1 ≤ n ∧ n ≤ 1024 ∧ 0 ≤ s0 ∧ s0 < n ∧ 0 ≤ s1 ∧ s1 ≤ n
instance (a b c : Int) : Decidable (rightP a b c) := by unfold rightP; infer_instance


theorem gap_may.c {n : Int} {h : Heap} {Q : Value → Heap → Prop} (hq : Q (.bool (decide (1 ≤ n ∧ n ≤ 1024))) h) : C Try.prog 45 #[.int .i64 n] h Q := by
  apply gap_may.ok
  unfold gap_may.wp
  refine xsIf_intro (fun hc => ?_) (fun hc => ?_) <;> simp at hc
  · rw [show decide (n ≤ 1024) = decide (1 ≤ n ∧ n ≤ 1024) by simp [hc]]; exact hq
  · rw [show false = decide (1 ≤ n ∧ n ≤ 1024) by simp; omega]; exact hq

theorem gap_State_Right.c {s0 s1 s2 n : Int} {h : Heap} {Q : Value → Heap → Prop} (hq : Q (.bool (decide (rightP s0 s1 n))) h) :
    C Try.prog 33 #[.agg #[.int .i64 s0, .int .i64 s1, .int .u32 s2], .int .i64 n] h Q := by
  have hq' : ∀ b, (b = true ↔ rightP s0 s1 n) → Q (.bool b) h := fun b hb => by
    rw [show b = decide (rightP s0 s1 n) by rw [Bool.eq_iff_iff]; simpa using hb]; exact hq
  apply gap_State_Right.ok
  unfold gap_State_Right.wp
  refine gap_may.c ⟨_, rfl, ?_⟩
  repeat' refine xsIf_intro (fun hc => ?_) (fun hc => ?_)
  all_goals
    apply hq'
    unfold rightP
    simp at *
    omega

def nextS (s0 s1 s2 n : Int) : Int × Int × Int × Int × Int :=
  if rightP s0 s1 n then
    if 0 < s1 then (s0, s1 - 1, IntKind.u32.wrap (s2 + 1), s1 - 1, s1)
    else ((s0 + 1) % n, n, IntKind.u32.wrap (s2 + 1), n, 0)
  else (0, 0, 0, 0, 0)

theorem gap_State_Next.c {s0 s1 s2 n a b c d e : Int} {h : Heap} {Q : Value → Heap → Prop} (hr : nextS s0 s1 s2 n = (a, b, c, d, e))
    (hq : Q (.tuple #[.agg #[.int .i64 a, .int .i64 b, .int .u32 c], .int .i64 d, .int .i64 e]) h) :
    C Try.prog 16 #[.agg #[.int .i64 s0, .int .i64 s1, .int .u32 s2], .int .i64 n] h Q := by
  apply gap_State_Next.ok
  unfold gap_State_Next.wp
  refine gap_State_Right.c ⟨_, rfl, ?_⟩
  unfold nextS at hr
  refine xsIf_intro (fun hc => ?_) (fun hc => ?_)
  · simp at hc
    rw [if_neg hc] at hr
    cases hr
    exact hq
  · simp at hc
    rw [if_pos hc] at hr
    unfold rightP at hc
    refine xsIf_intro (fun h1 => ?_) (fun h1 => ?_)
    · simp at h1
      rw [if_pos h1] at hr
      cases hr
      rw [i64_in _ (by omega)]
      exact hq
    · simp at h1
      rw [if_neg (by omega)] at hr
      cases hr
      refine ⟨by omega, ?_⟩
      unfold irem
      rw [i64_in _ (by omega), rem_in _ _ (by omega)]
      exact hq

theorem gap_First.c {n : Int} {h : Heap} {Q : Value → Heap → Prop} (hq : Q (.agg #[.int .i64 0, .int .i64 (if 1 ≤ n ∧ n ≤ 1024 then n else 0), .int .u32 0]) h) : C Try.prog 20 #[.int .i64 n] h Q := by
  apply gap_First.ok
  unfold gap_First.wp
  refine gap_may.c ⟨_, rfl, ?_⟩
  refine xsIf_intro (fun hc => ?_) (fun hc => ?_) <;> simp at hc
  · rw [if_neg (by omega)] at hq; exact hq
  · rw [if_pos hc] at hq; exact hq

def slotS (s0 s1 n i : Int) : Int := if rightP s0 s1 n ∧ 0 ≤ i ∧ i < n then (if s1 ≤ (i + s0) % n then (i + s0) % n + 1 else (i + s0) % n) else -1

theorem gap_State_Slot.c {s0 s1 s2 n i r : Int} {h : Heap} {Q : Value → Heap → Prop} (hr : slotS s0 s1 n i = r) (hq : Q (.int .i64 r) h) :
    C Try.prog 32 #[.agg #[.int .i64 s0, .int .i64 s1, .int .u32 s2], .int .i64 n, .int .i64 i] h Q := by
  apply gap_State_Slot.ok
  unfold gap_State_Slot.wp
  refine gap_State_Right.c ⟨_, rfl, ?_⟩
  subst hr
  unfold slotS at hq
  refine xsIf_intro (fun hc => ?_) (fun hc => ?_)
  · simp at hc
    rw [if_neg (fun h => hc h.1)] at hq
    exact hq
  · simp at hc
    have hc' := hc
    unfold rightP at hc'
    refine xsIf_intro (fun h1 => ?_) (fun h1 => xsIf_intro (fun h2 => ?_) (fun h2 => ?_))
    · simp at h1; rw [if_neg (by omega)] at hq; exact hq
    · simp at h2; rw [if_neg (by omega)] at hq; exact hq
    · simp at h1 h2
      rw [if_pos ⟨hc, by omega, by omega⟩] at hq
      apply gap_State_Slot.J3.ok
      unfold gap_State_Slot.J3.wp irem
      rw [i64_in _ (by omega), rem_in _ _ (by omega)]
      have hm := Int.emod_lt_of_pos (i + s0) (show 0 < n by omega)
      have hm0 := Int.emod_nonneg (i + s0) (show n ≠ 0 by omega)
      rw [i64_in ((i + s0) % n + 1) (by omega)]
      refine ⟨by omega, xsIf_intro (fun h3 => ?_) (fun h3 => ?_)⟩ <;> simp at h3
      · rw [if_pos h3] at hq; exact hq
      · rw [if_neg (by omega)] at hq; exact hq

theorem gabionlaw06_wakes.c {h : Heap} {Q : Value → Heap → Prop} (hq : Q (.bool true) h) : C Try.prog 19 #[] h Q := by
  apply gabionlaw06_wakes.ok
  unfold gabionlaw06_wakes.wp
  refine gap_First.c ⟨_, _, _, rfl, ?_⟩
  rw [show (if (1 : Int) ≤ 4 ∧ (4 : Int) ≤ 1024 then (4 : Int) else 0) = 4 by decide]
  refine gap_State_Slot.c (r := 0) (by decide) ⟨_, rfl, ?_⟩
  refine gap_State_Next.c (a := 0) (b := 3) (c := 1) (d := 3) (e := 4) (by decide) ⟨_, _, _, _, _, rfl, ?_⟩
  apply gabionlaw06_wakes.L5.ok
  refine xsIf_t rfl ?_
  refine gap_State_Next.c (a := 0) (b := 3) (c := 1) (d := 3) (e := 4) (by decide) ⟨_, _, _, _, _, rfl, ?_⟩
  apply gabionlaw06_wakes.L5.ok
  refine xsIf_t (by decide) ?_
  refine gap_State_Next.c (a := 0) (b := 2) (c := 2) (d := 2) (e := 3) (by decide) ⟨_, _, _, _, _, rfl, ?_⟩
  apply gabionlaw06_wakes.L5.ok
  refine xsIf_t (by decide) ?_
  refine gap_State_Next.c (a := 0) (b := 1) (c := 3) (d := 1) (e := 2) (by decide) ⟨_, _, _, _, _, rfl, ?_⟩
  apply gabionlaw06_wakes.L5.ok
  refine xsIf_t (by decide) ?_
  refine gap_State_Next.c (a := 0) (b := 0) (c := 4) (d := 0) (e := 1) (by decide) ⟨_, _, _, _, _, rfl, ?_⟩
  apply gabionlaw06_wakes.L5.ok
  refine xsIf_f (by decide) ?_
  apply gabionlaw06_wakes.J8.ok
  refine gap_State_Next.c (a := 1) (b := 4) (c := 5) (d := 4) (e := 0) (by decide) ⟨_, _, _, _, _, rfl, ?_⟩
  refine xsIf_t rfl ?_
  refine gap_State_Slot.c (r := 4) (by decide) ⟨_, rfl, ?_⟩
  refine xsIf_t rfl (xsIf_t rfl (xsIf_t rfl ?_))
  refine gap_State_Slot.c (r := 1) (by decide) ⟨_, rfl, ?_⟩
  exact xsIf_t rfl hq

/-! GapLater -/
def laterS (m k : Int) : Int × Int × Int := (k / (m + 1) % m, m - k % (m + 1), k)

theorem nextS_later {m k : Int} (hm : 1 ≤ m) (hm' : m ≤ 30) (hk : 0 ≤ k) (hk' : k < 700) :
    ∃ d e, nextS (k / (m + 1) % m) (m - k % (m + 1)) k m = ((k + 1) / (m + 1) % m, m - (k + 1) % (m + 1), k + 1, d, e) := by
  have h1 := Int.emod_lt_of_pos (k / (m + 1)) (show 0 < m by omega)
  have h2 := Int.emod_nonneg (k / (m + 1)) (show m ≠ 0 by omega)
  have h3 := Int.emod_lt_of_pos k (show 0 < m + 1 by omega)
  have h4 := Int.emod_nonneg k (show m + 1 ≠ 0 by omega)
  have hd := Int.emod_add_mul_ediv k (m + 1)
  unfold nextS
  rw [if_pos ⟨by omega, by omega, by omega, by omega, by omega, by omega⟩, u32_in _ (by omega)]
  split
  · rename_i hp
    have e1 : (k + 1) / (m + 1) = k / (m + 1) := by
      rw [show k + 1 = (k % (m + 1) + 1) + (m + 1) * (k / (m + 1)) by omega, Int.add_mul_ediv_left _ _ (by omega), Int.ediv_eq_zero_of_lt (by omega) (by omega)]
      omega
    have e2 : (k + 1) % (m + 1) = k % (m + 1) + 1 := by
      have := Int.emod_add_mul_ediv (k + 1) (m + 1)
      rw [e1] at this
      omega
    rw [e1, e2]
    exact ⟨_, _, by congr 2; omega⟩
  · rename_i hp
    have e0 : k % (m + 1) = m := by omega
    have e1 : (k + 1) / (m + 1) = k / (m + 1) + 1 := by
      rw [show k + 1 = 0 + (m + 1) * (k / (m + 1) + 1) by rw [Int.mul_add]; omega, Int.add_mul_ediv_left _ _ (by omega), Int.zero_ediv]
      omega
    have e2 : (k + 1) % (m + 1) = 0 := by
      have := Int.emod_add_mul_ediv (k + 1) (m + 1)
      rw [e1, Int.mul_add] at this
      omega
    rw [e1, e2]
    refine ⟨m, 0, ?_⟩
    rw [Int.emod_add_emod]
    simp

theorem gabionlaw06_GapLater.L5.c {m k : Int} {h : Heap} {Q : Value → Heap → Prop} (hm : 1 ≤ m) (hm' : m ≤ 30) (hk' : k < 700) (hq : Q (.bool true) h) : ∀ (j : Nat) (t : Int), 0 ≤ t → t + j = k →
    gabionlaw06_GapLater.L5 m k k t (t / (m + 1) % m) (m - t % (m + 1)) t h Q := by
  intro j
  induction j with
  | zero =>
    intro t ht hj
    apply gabionlaw06_GapLater.L5.ok
    refine xsIf_f (by simp; omega) ?_
    apply gabionlaw06_GapLater.J8.ok
    refine gabionlaw06_wakes.c ⟨_, rfl, ?_⟩
    refine xsIf_t rfl ?_
    have h3 := Int.emod_lt_of_pos k (show 0 < m + 1 by omega)
    have h4 := Int.emod_nonneg k (show m + 1 ≠ 0 by omega)
    unfold irem iquo
    rw [i64_in (m + 1) (by omega), rem_in k _ (by omega), i64_quo _ _ (by omega), i64_in _ (by omega), u32_in _ (by omega), rem_in _ _ (Int.ediv_nonneg (by omega) (by omega))]
    refine ⟨by omega, by omega, by omega, ?_⟩
    simp at hj
    subst hj
    simpa using hq
  | succ j ih =>
    intro t ht hj
    apply gabionlaw06_GapLater.L5.ok
    refine xsIf_t (by simp; omega) ?_
    obtain ⟨d, e, hr⟩ := nextS_later hm hm' ht (show t < 700 by omega)
    refine gap_State_Next.c hr ⟨_, _, _, _, _, rfl, ?_⟩
    rw [i64_in _ (by omega)]
    exact ih (t + 1) (by omega) (by omega)

theorem gabionlaw06_GapLater.c {n moves : Int} {h : Heap} {Q : Value → Heap → Prop} (hn : 0 ≤ n) (hm : 0 ≤ moves) (hm' : moves ≤ 65535) (hq : Q (.bool true) h) :
    C Try.prog 4 #[.int .u8 n, .int .u16 moves] h Q := by
  apply gabionlaw06_GapLater.ok
  unfold gabionlaw06_GapLater.wp irem
  have h1 := Int.emod_lt_of_pos n (show 0 < 30 by omega)
  have h2 := Int.emod_nonneg n (show 30 ≠ 0 by omega)
  have h3 := Int.emod_lt_of_pos moves (show 0 < 700 by omega)
  have h4 := Int.emod_nonneg moves (show 700 ≠ 0 by omega)
  rw [rem_in n _ hn, i64_in (n % 30) (by omega), i64_in _ (by omega), i64_in moves (by omega), rem_in moves _ hm]
  refine gap_First.c ⟨_, _, _, rfl, ?_⟩
  rw [if_pos (by omega)]
  have := gabionlaw06_GapLater.L5.c (m := 1 + n % 30) (k := moves % 700) (by omega) (by omega) (by omega) hq (moves % 700).toNat 0 (by omega) (by omega)
  simpa using this


/-! GapMoves -/
theorem gabionlaw06_tame.c {x0 x1 x2 : Int} {h : Heap} {Q : Value → Heap → Prop} (hx1 : x1 ≤ 9223372036854775807) (hx2 : x2 ≤ 9223372036854775807)
    (hq : ∀ n a b c, 1 ≤ n → n ≤ 40 → 0 ≤ a → a < n → 0 ≤ b → b ≤ n → 0 ≤ c → c ≤ 4294967295 → c = IntKind.u32.wrap x0 → Q (.tuple #[.int .i64 n, .agg #[.int .i64 a, .int .i64 b, .int .u32 c]]) h) :
    C Try.prog 15 #[.agg #[.int .i64 x0, .int .i64 x1, .int .i64 x2]] h Q := by
  apply gabionlaw06_tame.ok
  unfold gabionlaw06_tame.wp irem
  obtain ⟨a, ha⟩ : ∃ a, a = imax 0 x0 := ⟨_, rfl⟩
  obtain ⟨b, hb⟩ : ∃ a, a = imax 0 x1 := ⟨_, rfl⟩
  obtain ⟨c, hc⟩ : ∃ a, a = imax 0 x2 := ⟨_, rfl⟩
  rw [← ha, ← hb, ← hc]
  have a0 : 0 ≤ a := by rw [ha, imax_eq]; omega
  have b0 : 0 ≤ b := by rw [hb, imax_eq]; omega
  have c0 : 0 ≤ c := by rw [hc, imax_eq]; omega
  have h1 := Int.emod_lt_of_pos a (show 0 < 40 by omega)
  have h2 := Int.emod_nonneg a (show 40 ≠ 0 by omega)
  rw [rem_in a _ a0, i64_in (1 + a % 40) (by omega), i64_in _ (by omega), rem_in b _ b0, rem_in c _ c0]
  have h3 := Int.emod_lt_of_pos b (show 0 < 1 + a % 40 by omega)
  have h4 := Int.emod_nonneg b (show 1 + a % 40 ≠ 0 by omega)
  have h5 := Int.emod_lt_of_pos c (show 0 < 1 + a % 40 + 1 by omega)
  have h6 := Int.emod_nonneg c (show 1 + a % 40 + 1 ≠ 0 by omega)
  refine ⟨by omega, by omega, hq _ _ _ _ (by omega) (by omega) h4 h3 h6 (by omega) ?_ ?_ rfl⟩ <;> rw [IntKind.wrap_u32] <;> omega

theorem gabionref06_Right.c {s0 s1 n : Int} {h : Heap} {Q : Value → Heap → Prop} (hq : Q (.bool (decide (rightP s0 s1 n))) h) :
    C Try.prog 18 #[.int .i64 s0, .int .i64 s1, .int .i64 n] h Q := by
  have hq' : ∀ b, (b = true ↔ rightP s0 s1 n) → Q (.bool b) h := fun b hb => by
    rw [show b = decide (rightP s0 s1 n) by rw [Bool.eq_iff_iff]; simpa using hb]; exact hq
  apply gabionref06_Right.ok
  unfold gabionref06_Right.wp
  repeat' refine xsIf_intro (fun hc => ?_) (fun hc => ?_)
  all_goals
    apply hq'
    unfold rightP
    simp at *
    omega

theorem gabionref06_Next.c {a b m n u v t w z : Int} {h : Heap} {Q : Value → Heap → Prop} (hp : rightP a b n) (hr : nextS a b m n = (u, v, t, w, z))
    (hq : Q (.tuple #[.int .i64 u, .int .i64 v, .int .i64 w, .int .i64 z]) h) :
    C Try.prog 17 #[.int .i64 a, .int .i64 b, .int .i64 n] h Q := by
  apply gabionref06_Next.ok
  unfold gabionref06_Next.wp
  unfold nextS at hr
  rw [if_pos hp] at hr
  unfold rightP at hp
  refine xsIf_intro (fun h1 => ?_) (fun h1 => ?_) <;> simp at h1
  · rw [if_pos h1] at hr
    cases hr
    rw [i64_in _ (by omega)]
    exact hq
  · rw [if_neg (by omega)] at hr
    cases hr
    rw [i64_in _ (by omega)]
    refine xsIf_intro (fun h2 => ?_) (fun h2 => ?_) <;> simp at h2
    · rw [h2, Int.emod_self] at hq
      exact hq
    · rw [Int.emod_eq_of_lt (by omega) (by omega)] at hq
      exact hq

theorem nextS_t {a b m n u v t w z : Int} (hp : rightP a b n) (hr : nextS a b m n = (u, v, t, w, z)) : t = IntKind.u32.wrap (m + 1) := by
  unfold nextS at hr
  rw [if_pos hp] at hr
  split at hr <;> cases hr <;> rfl

theorem gabionlaw06_GapMoves.c {x0 x1 x2 : Int} {h : Heap} {Q : Value → Heap → Prop} (hx1 : x1 ≤ 9223372036854775807) (hx2 : x2 ≤ 9223372036854775807) (hq : Q (.bool true) h) :
    C Try.prog 3 #[.agg #[.int .i64 x0, .int .i64 x1, .int .i64 x2]] h Q := by
  apply gabionlaw06_GapMoves.ok
  unfold gabionlaw06_GapMoves.wp
  refine gabionlaw06_tame.c hx1 hx2 fun n a b c hn hn' ha ha' hb hb' hc hc' hcw => ⟨_, _, _, _, rfl, ?_⟩
  have hp : rightP a b n := ⟨hn, by omega, ha, ha', hb, hb'⟩
  obtain ⟨⟨u, v, t, w, z⟩, hr⟩ : ∃ r, r = nextS a b c n := ⟨_, rfl⟩
  refine gap_State_Next.c hr.symm ⟨_, _, _, _, _, rfl, ?_⟩
  refine gabionref06_Next.c hp hr.symm ⟨_, _, _, _, rfl, ?_⟩
  have ht := nextS_t hp hr.symm
  refine xsIf_f (by simpa using ht) (xsIf_f (by simp) (xsIf_f (by simp) ?_))
  apply gabionlaw06_GapMoves.J6.ok
  unfold gabionlaw06_GapMoves.J6.wp
  obtain ⟨⟨u, v, t, w, z⟩, hr⟩ : ∃ r, r = nextS x1 x2 0 x0 := ⟨_, rfl⟩
  refine gap_State_Next.c hr.symm ⟨_, _, _, _, _, rfl, ?_⟩
  refine gabionref06_Right.c ⟨_, rfl, ?_⟩
  refine xsIf_intro (fun h1 => ?_) (fun h1 => ?_) <;> simp at h1
  · unfold nextS at hr
    rw [if_neg h1] at hr
    cases hr
    exact xsIf_f rfl (xsIf_f rfl (xsIf_f rfl (gabionlaw06_wakes.c ⟨_, rfl, hq⟩)))
  · exact gabionlaw06_wakes.c ⟨_, rfl, hq⟩

theorem gabionlaw06_GapMoves.law (ns : List Int) (hl : ns.length = 3) (hw : ∀ x ∈ ns, IntKind.i64.min ≤ x ∧ x ≤ IntKind.i64.max) (h : Heap) :
    C Try.prog 3 #[.agg (ns.map (Value.int .i64)).toArray] h fun v h' => v = .bool true ∧ Part h h' := by
  match ns, hl with
  | [a, b, c], _ => exact gabionlaw06_GapMoves.c (hw b (by simp)).2 (hw c (by simp)).2 ⟨rfl, fun _ _ h => h⟩

theorem gabionlaw06_GapLater.law (a : Int) (wa : IntKind.u8.min ≤ a ∧ a ≤ IntKind.u8.max) (b : Int) (wb : IntKind.u16.min ≤ b ∧ b ≤ IntKind.u16.max) (h : Heap) :
    C Try.prog 4 #[.int .u8 a, .int .u16 b] h fun v h' => v = .bool true ∧ Part h h' :=
  gabionlaw06_GapLater.c wa.1 wb.1 wb.2 ⟨rfl, fun _ _ h => h⟩

end Go.Gb
