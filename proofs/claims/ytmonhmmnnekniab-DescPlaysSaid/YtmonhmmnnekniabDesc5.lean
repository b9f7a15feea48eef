/- Own text for the seat: Desc5. -/
import Derived.Test.YtmonhmmnnekniabDesc4
import Derived.Test.YtmonhmmnnekniabGbArgs2
set_option linter.unusedVariables false
set_option linter.unusedSimpArgs false
set_option linter.unnecessarySimpa false
set_option linter.deprecated false
namespace Go.Gb
open Go.Proofs IntWalk

/-! ## desc: DescPlays -/

/-- The two say the same. -/
structure Rel (nc : Nat) (M : Nat → Nat → Option Op4) (L : List Row5) : Prop where
  mem : ∀ c fd d, c < nc → fd < 16 → ((∃ b, M c fd = some (b, d)) ↔ (c, fd, d) ∈ L)
  rng : ∀ e, e ∈ L → e.1 < nc ∧ e.2.1 < 16
  nod : L.Pairwise fun e e' => ¬ (e.1 = e'.1 ∧ e.2.1 = e'.2.1)

section
variable {nc : Nat} {M : Nat → Nat → Option Op4} {L : List Row5}

theorem Rel.one (r : Rel nc M L) {i j : Nat} {e e' : Row5} (hi : L[i]? = some e) (hj : L[j]? = some e') (h1 : e.1 = e'.1) (h2 : e.2.1 = e'.2.1) : i = j := by
  have key := List.pairwise_iff_getElem.1 r.nod
  obtain ⟨a1, a2⟩ := List.getElem?_eq_some_iff.1 hi
  obtain ⟨b1, b2⟩ := List.getElem?_eq_some_iff.1 hj
  rcases Nat.lt_trichotomy i j with h | h | h
  · exact absurd ⟨by rw [a2, b2]; exact h1, by rw [a2, b2]; exact h2⟩ (key i j a1 b1 h)
  · exact h
  · exact absurd ⟨by rw [a2, b2]; exact h1.symm, by rw [a2, b2]; exact h2.symm⟩ (key j i b1 a1 h)

theorem Rel.none (r : Rel nc M L) {c fd : Nat} (hc : c < nc) (hf : fd < 16) : M c fd = Option.none ↔ ∀ e, e ∈ L → ¬ (e.1 = c ∧ e.2.1 = fd) := by
  constructor
  · intro hm e he hk
    obtain ⟨b, hb⟩ := (r.mem c fd e.2.2 hc hf).2 (by obtain ⟨h1, h2⟩ := hk; rw [← h1, ← h2]; exact he)
    rw [hm] at hb; cases hb
  · intro h
    cases hm : M c fd with
    | none => rfl
    | some e => exact absurd ⟨rfl, rfl⟩ (h (c, fd, e.2) ((r.mem c fd e.2 hc hf).1 ⟨e.1, hm⟩))

theorem Rel.some (r : Rel nc M L) {c fd : Nat} {e : Op4} (hc : c < nc) (hf : fd < 16) (hm : M c fd = Option.some e) : ∃ i : Nat, L[i]? = Option.some (c, fd, e.2) :=
  List.getElem?_of_mem ((r.mem c fd e.2 hc hf).1 ⟨e.1, hm⟩)

theorem Rel.empty (nc : Nat) : Rel nc (fun _ _ => Option.none) [] := ⟨fun c fd d _ _ => ⟨fun ⟨b, h⟩ => (by cases h), fun h => (by cases h)⟩, fun e h => (by cases h), .nil⟩

theorem Rel.add (r : Rel nc M L) {c fd b : Nat} {d : Int × Int × Int} (hc : c < nc) (hf : fd < 16) (hm : M c fd = Option.none) : Rel nc (setM M c fd (Option.some (b, d))) (L ++ [(c, fd, d)]) := by
  have hno := (r.none hc hf).1 hm
  refine ⟨fun c' fd' d' hc' hf' => ?_, fun e he => ?_, ?_⟩
  · rw [List.mem_append, List.mem_singleton]
    by_cases e : c' = c ∧ fd' = fd
    · obtain ⟨rfl, rfl⟩ := e
      rw [setM_same]
      constructor
      · rintro ⟨b', h⟩; cases h; exact .inr rfl
      · rintro (h | h)
        · exact absurd ⟨rfl, rfl⟩ (hno _ h)
        · cases h; exact ⟨b, rfl⟩
    · rw [setM_other e, r.mem c' fd' d' hc' hf']
      exact ⟨.inl, fun h => h.resolve_right fun h => e (by cases h; exact ⟨rfl, rfl⟩)⟩
  · rcases List.mem_append.1 he with h | h
    · exact r.rng e h
    · simp at h; subst h; exact ⟨hc, hf⟩
  · rw [List.pairwise_append]
    exact ⟨r.nod, List.pairwise_singleton _ _, fun e he e' he' => by simp at he'; subst he'; exact hno e he⟩

theorem Rel.seek (r : Rel nc M L) {i : Nat} {e : Row5} {o : Op4} {at0 : Int} (hi : L[i]? = Option.some e) (hm : M e.1 e.2.1 = Option.some o) :
    Rel nc (setM M e.1 e.2.1 (Option.some (o.1, o.2.1, o.2.2.1, at0))) (L.set i (e.1, e.2.1, e.2.2.1, e.2.2.2.1, at0)) := by
  have hmem := List.mem_of_getElem? hi
  obtain ⟨hc, hf⟩ := r.rng e hmem
  obtain ⟨j, hj⟩ := r.some hc hf hm
  have hij := r.one hi hj rfl rfl
  subst hij
  rw [hi] at hj
  have hd : e.2.2 = o.2 := congrArg (fun x : Row5 => x.2.2) (Option.some.inj hj)
  have hlt := (List.getElem?_eq_some_iff.1 hi).1
  refine ⟨fun c' fd' d' hc' hf' => ?_, fun x hx => ?_, ?_⟩
  · by_cases e2 : c' = e.1 ∧ fd' = e.2.1
    · obtain ⟨rfl, rfl⟩ := e2
      rw [setM_same]
      constructor
      · rintro ⟨b', h⟩
        cases h
        rw [← hd]
        exact List.mem_of_getElem? (i := i) (by rw [List.getElem?_set, if_pos rfl, if_pos hlt])
      · intro h
        obtain ⟨j, hj⟩ := List.getElem?_of_mem h
        rw [List.getElem?_set] at hj
        by_cases e3 : i = j
        · rw [if_pos e3] at hj
          subst e3
          rw [if_pos hlt] at hj
          cases hj
          exact ⟨o.1, by rw [hd]⟩
        · rw [if_neg e3] at hj
          exact absurd (r.one hi hj rfl rfl) e3
    · rw [setM_other e2, r.mem c' fd' d' hc' hf']
      constructor
      · intro h
        obtain ⟨j, hj⟩ := List.getElem?_of_mem h
        refine List.mem_of_getElem? (i := j) ?_
        rw [List.getElem?_set, if_neg (fun e3 => ?_)]
        · exact hj
        · subst e3; rw [hi] at hj; cases hj; exact e2 ⟨rfl, rfl⟩
      · intro h
        obtain ⟨j, hj⟩ := List.getElem?_of_mem h
        rw [List.getElem?_set] at hj
        by_cases e3 : i = j
        · rw [if_pos e3] at hj
          subst e3
          rw [if_pos hlt] at hj
          cases hj
          exact absurd ⟨rfl, rfl⟩ e2
        · rw [if_neg e3] at hj; exact List.mem_of_getElem? hj
  · obtain ⟨j, hj⟩ := List.getElem?_of_mem hx
    rw [List.getElem?_set] at hj
    by_cases e3 : i = j
    · rw [if_pos e3] at hj
      subst e3
      rw [if_pos hlt] at hj
      cases hj; exact ⟨hc, hf⟩
    · rw [if_neg e3] at hj; exact r.rng x (List.mem_of_getElem? hj)
  · rw [List.pairwise_iff_getElem]
    intro a b ha hb hab hk
    have key : ∀ (k : Nat) (hk : k < (L.set i (e.1, e.2.1, e.2.2.1, e.2.2.2.1, at0)).length), ∃ y, L[k]? = Option.some y ∧ y.1 = ((L.set i (e.1, e.2.1, e.2.2.1, e.2.2.2.1, at0))[k]).1 ∧ y.2.1 = ((L.set i (e.1, e.2.1, e.2.2.1, e.2.2.2.1, at0))[k]).2.1 := by
      intro k hk
      have hk' : k < L.length := by rw [List.length_set] at hk; exact hk
      by_cases e3 : i = k
      · subst e3; exact ⟨e, hi, by simp, by simp⟩
      · refine ⟨L[k], List.getElem?_eq_getElem hk', ?_, ?_⟩ <;> rw [List.getElem_set_ne e3]
    obtain ⟨y1, g1, g2, g3⟩ := key a ha
    obtain ⟨y2, k1, k2, k3⟩ := key b hb
    have := r.one g1 k1 (by rw [g2, k2]; exact hk.1) (by rw [g3, k3]; exact hk.2)
    omega

theorem Rel.close (r : Rel nc M L) {i : Nat} {e : Row5} (hi : L[i]? = Option.some e) : Rel nc (setM M e.1 e.2.1 Option.none) (L.eraseIdx i) := by
  have hmem := List.mem_of_getElem? hi
  obtain ⟨hc, hf⟩ := r.rng e hmem
  have herase : ∀ x, x ∈ L.eraseIdx i ↔ x ∈ L ∧ ¬ (x.1 = e.1 ∧ x.2.1 = e.2.1) := by
    intro x
    constructor
    · intro hx
      obtain ⟨j, hj⟩ := List.getElem?_of_mem hx
      rw [List.getElem?_eraseIdx] at hj
      split at hj
      · rename_i hlt
        refine ⟨List.mem_of_getElem? hj, fun hk => ?_⟩
        have := r.one hj hi hk.1 hk.2
        omega
      · refine ⟨List.mem_of_getElem? hj, fun hk => ?_⟩
        have := r.one hj hi hk.1 hk.2
        omega
    · rintro ⟨hx, hne⟩
      obtain ⟨j, hj⟩ := List.getElem?_of_mem hx
      have hji : j ≠ i := fun h => by subst h; rw [hi] at hj; cases hj; exact hne ⟨rfl, rfl⟩
      by_cases hlt : j < i
      · exact List.mem_of_getElem? (i := j) (by rw [List.getElem?_eraseIdx, if_pos hlt]; exact hj)
      · exact List.mem_of_getElem? (i := j - 1) (by rw [List.getElem?_eraseIdx, if_neg (by omega), show j - 1 + 1 = j by omega]; exact hj)
  refine ⟨fun c' fd' d' hc' hf' => ?_, fun x hx => r.rng x ((herase x).1 hx).1, r.nod.sublist (List.eraseIdx_sublist _ _)⟩
  rw [herase]
  by_cases e2 : c' = e.1 ∧ fd' = e.2.1
  · obtain ⟨rfl, rfl⟩ := e2
    rw [setM_same]
    exact ⟨fun ⟨b, h⟩ => (by cases h), fun ⟨_, h⟩ => absurd ⟨rfl, rfl⟩ h⟩
  · rw [setM_other e2, r.mem c' fd' d' hc' hf']
    exact ⟨fun h => ⟨h, e2⟩, fun h => h.1⟩

/-- All that is open, client by client. -/
def ents (M : Nat → Nat → Option Op4) (n : Nat) : List Row5 := (List.range n).flatMap fun c => (List.range 16).filterMap fun fd => (M c fd).map fun e => (c, fd, e.2)

theorem mem_ents {x : Row5} : x ∈ ents M nc ↔ x.1 < nc ∧ x.2.1 < 16 ∧ ∃ b, M x.1 x.2.1 = Option.some (b, x.2.2) := by
  unfold ents
  rw [List.mem_flatMap]
  constructor
  · rintro ⟨c, hc, hx⟩
    obtain ⟨fd, hf, hx⟩ := List.mem_filterMap.1 hx
    obtain ⟨e, he, rfl⟩ := Option.map_eq_some_iff.1 hx
    exact ⟨by simpa using hc, by simpa using hf, e.1, he⟩
  · rintro ⟨hc, hf, b, hb⟩
    exact ⟨x.1, by simpa using hc, List.mem_filterMap.2 ⟨x.2.1, by simpa using hf, by rw [hb]; rfl⟩⟩

theorem ents_nodup : (ents M nc).Nodup := by
  unfold ents List.Nodup
  rw [List.pairwise_flatMap]
  refine ⟨fun c hc => ?_, ?_⟩
  · rw [List.pairwise_filterMap]
    refine List.Pairwise.imp (fun {a b} hab => ?_) (List.nodup_range (n := 16))
    intro x hx y hy e
    obtain ⟨p, _, rfl⟩ := Option.map_eq_some_iff.1 hx
    obtain ⟨q, _, rfl⟩ := Option.map_eq_some_iff.1 hy
    exact hab (congrArg (fun x : Row5 => x.2.1) e)
  · refine List.Pairwise.imp (fun {a b} hab => ?_) (List.nodup_range (n := nc))
    intro x hx y hy e
    obtain ⟨f, _, hx⟩ := List.mem_filterMap.1 hx
    obtain ⟨g, _, hy⟩ := List.mem_filterMap.1 hy
    obtain ⟨p, _, rfl⟩ := Option.map_eq_some_iff.1 hx
    obtain ⟨q, _, rfl⟩ := Option.map_eq_some_iff.1 hy
    exact hab (congrArg (fun x : Row5 => x.1) e)

theorem Rel.perm (r : Rel nc M L) : (ents M nc).Perm L := by
  refine (List.perm_ext_iff_of_nodup ents_nodup ?_).2 fun x => ?_
  · exact r.nod.imp fun {a b} h e => h (by rw [e]; exact ⟨rfl, rfl⟩)
  · rw [mem_ents]
    constructor
    · rintro ⟨h1, h2, h3⟩; exact (r.mem x.1 x.2.1 x.2.2 h1 h2).1 h3
    · intro hx
      obtain ⟨h1, h2⟩ := r.rng x hx
      exact ⟨h1, h2, (r.mem x.1 x.2.1 x.2.2 h1 h2).2 hx⟩

theorem cntAll_ents (x : Int) : cntAll M x nc = (ents M nc).countP fun e => decide (e.2.2.1 = x) := by
  unfold cntAll ents cntRow
  rw [List.countP_flatMap]
  congr 1
  apply List.map_congr_left
  intro c _
  show _ = List.countP _ (List.filterMap _ _)
  rw [List.countP_filterMap]
  apply List.countP_congr
  intro fd _
  cases M c fd <;> simp [isN]

/-- How many the first clients have. -/
def lens (M : Nat → Nat → Option Op4) (n : Nat) : Nat := ((List.range n).map fun c => (openN M c 16).length).sum
theorem lens_succ (n : Nat) : lens M (n + 1) = lens M n + (openN M n 16).length := by unfold lens; rw [List.range_succ, List.map_append, List.sum_append]; simp
theorem lens_le (n : Nat) : lens M n ≤ 16 * n := by
  induction n with
  | zero => simp [lens]
  | succ n ih => rw [lens_succ]; have := openN_length M n 16; omega

theorem lens_ents : lens M nc = (ents M nc).length := by
  unfold lens ents
  rw [List.length_flatMap]
  congr 1
  apply List.map_congr_left
  intro c _
  unfold openN
  rw [List.length_filterMap_eq_countP, ← List.countP_eq_length_filter]
  apply List.countP_congr
  intro fd _
  cases M c fd <;> simp

theorem Rel.lens (r : Rel nc M L) : lens M nc = L.length := by rw [lens_ents, r.perm.length_eq]
theorem Rel.count (r : Rel nc M L) (x : Int) : cntAll M x nc = L.countP fun e => decide (e.2.2.1 = x) := by rw [cntAll_ents]; exact r.perm.countP_eq _

theorem openN_mem {c k x : Nat} : x ∈ openN M c k ↔ x < k ∧ (M c x).isSome = true := by unfold openN; simp
theorem openN_rises {c k i j x y : Nat} (hi : (openN M c k)[i]? = Option.some x) (hj : (openN M c k)[j]? = Option.some y) (hij : i < j) : x < y := by
  have hp : (openN M c k).Pairwise (· < ·) := by unfold openN; exact List.Pairwise.filter _ List.pairwise_lt_range
  obtain ⟨a1, a2⟩ := List.getElem?_eq_some_iff.1 hi
  obtain ⟨b1, b2⟩ := List.getElem?_eq_some_iff.1 hj
  have := List.pairwise_iff_getElem.1 hp i j a1 b1 hij
  rw [a2, b2] at this; exact this
end
end Go.Gb
