/- Own text for the seat: G6. -/
import Derived.Test.YtmonhmmnnekniaaG5
set_option linter.unusedVariables false
set_option linter.unusedSimpArgs false
set_option linter.unnecessarySimpa false
set_option linter.deprecated false
namespace Go.Gb
open Go.Proofs IntWalk

/-! ## gap: the moves, with contents -/

theorem nextS_move {s0 s1 s2 : Int} {N : Nat} (hp : rightP s0 s1 N) : ∃ t0 t1, nextS s0 s1 s2 N = (t0, t1, IntKind.u32.wrap (s2 + 1), t1, s1) ∧ rightP t0 t1 N ∧ t1 ≠ s1 ∧
    (∀ p : Int, 0 ≤ p → p ≤ N → lineE t0 t1 N p = if p = t1 then -1 else if p = s1 then lineE s0 s1 N t1 else lineE s0 s1 N p) ∧
    (0 < s1 → t1 = s1 - 1 ∧ t0 = s0) ∧ (s1 = 0 → t1 = N ∧ t0 = (s0 + 1) % N) := by
  have hp' := hp
  unfold rightP at hp'
  unfold nextS
  rw [if_pos hp]
  by_cases h : 0 < s1
  · rw [if_pos h]
    refine ⟨s0, s1 - 1, rfl, ⟨by omega, by omega, by omega, by omega, by omega, by omega⟩, by omega, ?_, fun _ => ⟨rfl, rfl⟩, fun e => by omega⟩
    intro p h0 h1
    unfold lineE
    (repeat' split) <;> omega
  · rw [if_neg h]
    have hs1 : s1 = 0 := by omega
    subst hs1
    rw [emod_two (by omega) (by omega) (by omega)]
    refine ⟨_, N, rfl, ⟨by omega, by omega, by split <;> omega, by split <;> omega, by omega, by omega⟩, by omega, ?_, fun e => by omega, fun _ => ⟨rfl, rfl⟩⟩
    intro p h0 h1
    unfold lineE
    (repeat' split) <;> omega

theorem Own.cells_eq {h0 h : Heap} {T : TypeId} {n c : Nat} {a : Option Addr} {vs us : List Value} (w : Own h0 h T 1 a n c vs) (hl : us.length = n) (he : ∀ p, p < n → vs[p]? = us[p]?) : Own h0 h T 1 a n c us := by
  have : vs = us := by
    apply List.ext_getElem?
    intro p
    by_cases hp : p < n
    · exact he p hp
    · rw [List.getElem?_eq_none (by rw [w.len]; omega), List.getElem?_eq_none (by omega)]
  rw [← this]; exact w

def lineVs (s0 s1 : Int) (N : Nat) : List Value := (linesL s0 s1 N).map (Value.int .i64)
theorem lineVs_len (s0 s1 : Int) (N : Nat) : (lineVs s0 s1 N).length = N + 1 := by simp [lineVs, linesL]
theorem lineVs_get {s0 s1 : Int} {N p : Nat} (hp : p ≤ N) : (lineVs s0 s1 N)[p]? = some (.int .i64 (lineE s0 s1 N p)) := by
  unfold lineVs
  rw [List.getElem?_map, linesL_get hp]; rfl

/-- How the state stands to the one at the beginning, after so many moves. -/
def sinceP (w0 w1 s0 s1 : Int) (N k : Nat) : Prop :=
  ((k : Int) ≤ w1 → s1 = w1 - k ∧ s0 = w0) ∧ (w1 < k → k ≤ N + 1 → s1 = w1 - k + N + 1 ∧ s0 = (w0 + 1) % N)

theorem gabionlaw06_GapTurns.L18.c {h0 : Heap} {Q : Value → Heap → Prop} {N : Nat} {a : Option Addr} {c : Nat} {k0 t44 t45 s0 s1 s2 w0 w1 w2 : Int} {h : Heap} (hp : rightP s0 s1 N)
    (w : Own h0 h 3 1 a (N + 1) c (lineVs s0 s1 N)) (hq : gabionlaw06_GapTurns.J24 N a (N + 1) c k0 t44 t45 s0 s1 s2 w0 w1 w2 h Q) : ∀ (j i : Nat), i + j = N →
    gabionlaw06_GapTurns.L18 N a (N + 1) c k0 t44 t45 N i s0 s1 s2 w0 w1 w2 h Q := by
  have hp' := hp
  unfold rightP at hp'
  intro j
  induction j with
  | zero =>
    intro i hi
    apply gabionlaw06_GapTurns.L18.ok
    exact xsIf_f (by simp; omega) hq
  | succ j ih =>
    intro i hi
    apply gabionlaw06_GapTurns.L18.ok
    refine xsIf_t (by simp; omega) ?_
    have hls := lineE_slotE hp (i := i) (by omega) (by omega)
    refine gap_State_Slot.c (slotS_eq hp (by omega) (by omega)) ⟨_, rfl, ?_⟩
    obtain ⟨p, hpe⟩ := toN (slotE s0 s1 N i) (by omega)
    rw [hpe] at hls ⊢
    refine xsIf_f (by simp) (xsIf_f (by simp; omega) ⟨by omega, ?_⟩)
    refine w.base (by omega) fun b hcell _ _ => ⟨i, ?_, xsIf_f (by simp) ?_⟩
    · rw [Int.toNat_natCast, hcell p (by omega), lineVs_get (by omega), hls.1]
    · rw [i64_in _ (by omega)]
      exact ih (i + 1) (by omega)

theorem gabionlaw06_GapTurns.L10.c {h0 : Heap} {Q : Value → Heap → Prop} {N : Nat} {a : Option Addr} {c tot : Nat} {w0 w1 w2 : Int} (ht : tot ≤ 1000) (hw : rightP w0 w1 N) (hq : ∀ h, Part h0 h → Q (.bool true) h) :
    ∀ (j k : Nat) (s0 s1 s2 : Int) (h : Heap), k + j = tot → rightP s0 s1 N → sinceP w0 w1 s0 s1 N k → Own h0 h 3 1 a (N + 1) c (lineVs s0 s1 N) →
    gabionlaw06_GapTurns.L10 N a (N + 1) c tot k s0 s1 s2 w0 w1 w2 h Q := by
  have hw' := hw
  unfold rightP at hw'
  intro j
  induction j with
  | zero =>
    intro k s0 s1 s2 h hk hp hs w
    apply gabionlaw06_GapTurns.L10.ok
    refine xsIf_f (by simp; omega) ?_
    exact gabionlaw06_wakes.c ⟨_, rfl, hq _ w.part⟩
  | succ j ih =>
    intro k s0 s1 s2 h hk hp hs w
    apply gabionlaw06_GapTurns.L10.ok
    refine xsIf_t (by simp; omega) ?_
    obtain ⟨t0, t1, hn, hpt, hne, hmv, hc1, hc2⟩ := nextS_move (s2 := s2) hp
    refine gap_State_Next.c hn ⟨_, _, _, _, _, rfl, ?_⟩
    have hp' := hp
    unfold rightP at hp'
    have hpt' := hpt
    unfold rightP at hpt'
    refine xsIf_f (by simp; omega) (xsIf_f (by simp; omega) (xsIf_f (by simp; omega) (xsIf_f (by simp; omega) (xsIf_f (by simpa using hne) ⟨by omega, ?_⟩))))
    obtain ⟨g, hg⟩ := toN s1 (by omega)
    obtain ⟨f, hf⟩ := toN t1 (by omega)
    subst hg
    subst hf
    refine w.base (by omega) fun b hcell _ _ => ⟨-1, ?_, xsIf_f (by simp) ?_⟩
    · rw [Int.toNat_natCast, hcell g (by omega), lineVs_get (by omega)]
      unfold lineE; rw [if_pos rfl]
    apply gabionlaw06_GapTurns.J15.ok
    refine ⟨by omega, ?_⟩
    refine w.base (by omega) fun b hcell _ _ => ⟨lineE s0 g N f, ?_, by omega, ?_⟩
    · rw [Int.toNat_natCast, hcell f (by omega), lineVs_get (by omega)]
    refine w.base (by omega) fun b _ hcan hput => ?_
    rw [Int.toNat_natCast]
    refine ⟨hcan g (by omega), by omega, ?_⟩
    have w2' := hput g (.int .i64 (lineE s0 g N f)) (by omega)
    refine w2'.base (by omega) fun b' _ hcan hput => ?_
    rw [Int.toNat_natCast]
    refine ⟨hcan f (by omega), ?_⟩
    have w3 := hput f (.int .i64 (-1)) (by omega)
    have hgf : g ≠ f := fun e => hne (by rw [e])
    have w4 : Own h0 _ 3 1 a (N + 1) c (lineVs t0 f N) := w3.cells_eq (lineVs_len _ _ _) (by
      intro p hpn
      rw [lineVs_get (by omega), hmv p (by omega) (by omega), List.getElem?_set, List.getElem?_set]
      by_cases e1 : f = p
      · subst e1
        rw [if_pos rfl, if_pos (by rw [w2'.len]; omega), if_pos rfl]
      · rw [if_neg e1, if_neg (show ¬ (p : Int) = f by omega)]
        by_cases e2 : g = p
        · subst e2
          rw [if_pos rfl, if_pos (by rw [lineVs_len]; omega), if_pos rfl]
        · rw [if_neg e2, if_neg (show ¬ (p : Int) = g by omega), lineVs_get (by omega)])
    have hs2 : sinceP w0 w1 t0 f N (k + 1) := by
      unfold sinceP at hs ⊢
      by_cases hg0 : 0 < (g : Int)
      · have hcc := hc1 hg0
        constructor
        · intro h1
          have := hs.1 (by omega)
          omega
        · intro h1 h2
          have := hs.2
          by_cases hk1 : (k : Int) ≤ w1
          · have := hs.1 hk1; omega
          · have := hs.2 (by omega) (by omega)
            exact ⟨by omega, by rw [hcc.2]; exact this.2⟩
      · have hc := hc2 (by omega)
        constructor
        · intro h1
          have := hs.1 (by omega)
          omega
        · intro h1 h2
          by_cases hk1 : (k : Int) ≤ w1
          · have := hs.1 hk1
            exact ⟨by omega, by rw [hc.2, this.2]⟩
          · have := hs.2 (by omega) (by omega)
            omega
    have next : gabionlaw06_GapTurns.L10 N a (N + 1) c tot (IntKind.i64.wrap ((k : Int) + 1)) t0 f (IntKind.u32.wrap (s2 + 1)) w0 w1 w2 ((h.put b (0 + g * 1) [.int .i64 (lineE s0 g N f)]).put b' (0 + f * 1) [.int .i64 (-1)]) Q := by
      rw [i64_in _ (by omega)]
      exact ih (k + 1) _ _ _ _ (by omega) hpt hs2 w4
    refine gabionlaw06_GapTurns.L18.c hpt w4 ?_ N 0 (by omega)
    apply gabionlaw06_GapTurns.J24.ok
    refine xsIf_intro (fun h1 => ?_) (fun _ => next)
    simp at h1
    unfold sinceP at hs2
    have h2 := hs2.2 (by omega) (by omega)
    refine xsIf_f (by simp; omega) ⟨by omega, xsIf_f ?_ next⟩
    rw [i64_in _ (by omega), irem_pos (by omega)]
    simpa using h2.2

theorem gabionlaw06_GapTurns.L4.c {h0 : Heap} {Q : Value → Heap → Prop} {N : Nat} {a : Option Addr} {c : Nat} {rounds s0 s1 s2 : Int} (hp : rightP s0 s1 N)
    (hq : ∀ h, Own h0 h 3 1 a (N + 1) c (lineVs s0 s1 N) → gabionlaw06_GapTurns.J8 rounds N a (N + 1) c s0 s1 s2 h Q) : ∀ (j i : Nat) (h : Heap) (vs : List Value), i + j = N + 1 → Own h0 h 3 1 a (N + 1) c vs →
    (∀ p, p < i → vs[p]? = (lineVs s0 s1 N)[p]?) → gabionlaw06_GapTurns.L4 rounds N a (N + 1) c ((N + 1 : Nat) : Int) i s0 s1 s2 h Q := by
  have hp' := hp
  unfold rightP at hp'
  intro j
  induction j with
  | zero =>
    intro i h vs hi w hv
    apply gabionlaw06_GapTurns.L4.ok
    refine xsIf_f (by simp; omega) (hq _ (w.cells_eq (lineVs_len _ _ _) fun p hp => hv p (by omega)))
  | succ j ih =>
    intro i h vs hi w hv
    apply gabionlaw06_GapTurns.L4.ok
    refine xsIf_t (by simp; omega) ?_
    refine gap_State_Line.c (show lineS s0 s1 N i = lineE s0 s1 N i from if_pos ⟨hp, by omega, by omega⟩) ⟨_, rfl, by omega, ?_⟩
    refine w.base (by omega) fun b _ hcan hput => ?_
    rw [Int.toNat_natCast]
    refine ⟨hcan i (by omega), ?_⟩
    rw [i64_in _ (by omega)]
    refine ih (i + 1) _ _ (by omega) (hput i _ (by omega)) ?_
    intro p hpi
    rw [List.getElem?_set]
    by_cases e : i = p
    · subst e
      rw [if_pos rfl, if_pos (by rw [w.len]; omega), lineVs_get (by omega)]
    · rw [if_neg e]; exact hv p (by omega)

theorem gabionlaw06_GapTurns.law (ns : List Int) (hl : ns.length = 3) (hw : ∀ x ∈ ns, IntKind.i64.min ≤ x ∧ x ≤ IntKind.i64.max) (r : Int) (wr : IntKind.u8.min ≤ r ∧ r ≤ IntKind.u8.max) (h : Heap) :
    C Try.prog 10 #[.agg (ns.map (Value.int .i64)).toArray, .int .u8 r] h fun v h' => v = .bool true ∧ Part h h' := by
  match ns, hl with
  | [x0, x1, x2], _ =>
  obtain ⟨r, rfl, hr⟩ := nat_of rfl wr
  have hr : r < 256 := hr
  apply gabionlaw06_GapTurns.ok
  show gabionlaw06_GapTurns.wp x0 x1 x2 r h _
  unfold gabionlaw06_GapTurns.wp
  refine gabionlaw06_tame.c (hw x1 (by simp)).2 (hw x2 (by simp)).2 fun n a b c hn hn' ha ha' hb hb' hc hc' hcw => ⟨_, _, _, _, rfl, ?_⟩
  obtain ⟨N, rfl⟩ := toN n (by omega)
  have hp : rightP a b N := ⟨hn, by omega, ha, ha', hb, hb'⟩
  rw [i64_in ((N : Int) + 1) (by omega)]
  refine Own.make (h0 := h) (Part.refl h) ints3.1 (by omega) (by rw [ints3.2]; omega) (by omega) ?_
  intro t h' w
  rw [show ((N : Int) + 1).toNat = N + 1 by omega] at w ⊢
  refine gabionlaw06_GapTurns.L4.c hp (fun h' w => ?_) (N + 1) 0 _ _ (by omega) w (fun p hp => by omega)
  apply gabionlaw06_GapTurns.J8.ok
  unfold gabionlaw06_GapTurns.J8.wp
  have hm := Nat.mod_lt r (show 3 > 0 by omega)
  have hmul : (N + 1) * (1 + r % 3) ≤ 41 * 3 := Nat.mul_le_mul (by omega) (by omega)
  rw [show (3 : Int) = ((3 : Nat) : Int) from rfl, irem_nat, i64_in ((N : Int) + 1) (by omega), i64_in ((r % 3 : Nat) : Int) (by omega), i64_in (1 + ((r % 3 : Nat) : Int)) (by omega),
    show ((N : Int) + 1) * (1 + ((r % 3 : Nat) : Int)) = (((N + 1) * (1 + r % 3) : Nat) : Int) by rw [Int.natCast_mul]; rfl, i64_in _ (by omega)]
  refine gabionlaw06_GapTurns.L10.c (tot := (N + 1) * (1 + r % 3)) (by omega) hp (fun h p => ⟨rfl, p⟩) ((N + 1) * (1 + r % 3)) 0 a b c _ (by omega) hp ⟨fun _ => ⟨by omega, rfl⟩, fun h => by omega⟩ w

end Go.Gb
