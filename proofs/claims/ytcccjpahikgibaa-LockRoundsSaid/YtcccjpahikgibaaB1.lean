/- Own texts for the seat: Mi1. -/
import Derived.Test.YtcccjpahikgibaaA8
import Derived.Test.YtcccjpahikgibaaA7
set_option linter.unusedVariables false
set_option linter.unusedSimpArgs false
set_option linter.unnecessarySimpa false
set_option linter.deprecated false
namespace Go.Gb

/-! Maps with numbers for keys, and what a loop over one has seen. -/

structure MI (l : List (Int × Value × Nat)) (c : Nat) : Prop where
  born : ∀ e ∈ l, e.2.2 < c
  bn : (l.map (·.2.2)).Nodup
  kn : (l.map (·.1)).Nodup

theorem MI.nil (c : Nat) : MI [] c := ⟨fun _ h => (by cases h), List.nodup_nil, List.nodup_nil⟩

theorem MI.add {l : List (Int × Value × Nat)} {c : Nat} {k : Int} {v : Value} (m : MI l c) (hn : ∀ (j : Nat) (v : Value) (b : Nat), ¬ mnth l j = some (k, v, b)) : MI (madd l (k, v, c)) (c + 1) := by
  refine ⟨fun e he => ?_, ?_, ?_⟩
  · rcases List.mem_append.1 he with h | h
    · have := m.born e h; omega
    · simp at h; subst h; show c < c + 1; omega
  · show ((l ++ [(k, v, c)]).map (·.2.2)).Nodup
    rw [List.map_append, List.nodup_append]
    refine ⟨m.bn, by simp, ?_⟩
    intro a ha b hb
    simp at hb
    obtain ⟨e, he, rfl⟩ := List.mem_map.1 ha
    have := m.born e he
    omega
  · show ((l ++ [(k, v, c)]).map (·.1)).Nodup
    rw [List.map_append, List.nodup_append]
    refine ⟨m.kn, by simp, ?_⟩
    intro a ha b hb
    simp at hb
    obtain ⟨e, he, rfl⟩ := List.mem_map.1 ha
    obtain ⟨j, hj⟩ := List.getElem?_of_mem he
    intro e1
    exact hn j e.2.1 e.2.2 (by rw [← hb, ← e1]; exact hj)

theorem nodup_at {α β : Type} {f : α → β} {l : List α} (hn : (l.map f).Nodup) {i j : Nat} {x y : α} (hi : l[i]? = some x) (hj : l[j]? = some y) (h : f x = f y) : i = j := by
  have hn := List.pairwise_iff_getElem.1 (List.nodup_iff_pairwise_ne.1 hn)
  have h1 : (l.map f)[i]? = some (f x) := by rw [List.getElem?_map, hi]; rfl
  have h2 : (l.map f)[j]? = some (f x) := by rw [List.getElem?_map, hj, h]; rfl
  have hil : i < (l.map f).length := (List.getElem?_eq_some_iff.1 h1).1
  have hjl : j < (l.map f).length := (List.getElem?_eq_some_iff.1 h2).1
  rcases Nat.lt_trichotomy i j with h | h | h
  · exact absurd ((List.getElem?_eq_some_iff.1 h1).2.trans (List.getElem?_eq_some_iff.1 h2).2.symm) (hn i j hil hjl h)
  · exact h
  · exact absurd ((List.getElem?_eq_some_iff.1 h2).2.trans (List.getElem?_eq_some_iff.1 h1).2.symm) (hn j i hjl hil h)
theorem nodup_mem {α β : Type} {f : α → β} {l : List α} (hn : (l.map f).Nodup) {x y : α} (hx : x ∈ l) (hy : y ∈ l) (h : f x = f y) : x = y := by
  obtain ⟨i, hi⟩ := List.getElem?_of_mem hx
  obtain ⟨j, hj⟩ := List.getElem?_of_mem hy
  have := nodup_at hn hi hj h
  subst this
  rw [hi] at hj; exact Option.some.inj hj

theorem MI.key {l : List (Int × Value × Nat)} {c : Nat} (m : MI l c) {i j : Nat} {k : Int} {v v' : Value} {b b' : Nat} (hi : mnth l i = some (k, v, b)) (hj : mnth l j = some (k, v', b')) : i = j := nodup_at m.kn hi hj rfl
theorem MI.bkey {l : List (Int × Value × Nat)} {c : Nat} (m : MI l c) {i j : Nat} {k k' : Int} {v v' : Value} {b : Nat} (hi : mnth l i = some (k, v, b)) (hj : mnth l j = some (k', v', b)) : i = j := nodup_at m.bn hi hj rfl

theorem MI.sub {l m : List (Int × Value × Nat)} {c : Nat} (w : MI l c) (hs : m.Sublist l) : MI m c :=
  ⟨fun e he => w.born e (hs.subset he), (hs.map _).nodup w.bn, (hs.map _).nodup w.kn⟩

theorem erase_filter {l : List (Int × Value × Nat)} (hn : (l.map (·.2.2)).Nodup) {j : Nat} {e : Int × Value × Nat} (hj : l[j]? = some e) : l.eraseIdx j = l.filter fun x => !(x.2.2 == e.2.2) := by
  induction l generalizing j with
  | nil => simp at hj
  | cons x r ih =>
    have hn' := List.nodup_cons.1 (show (x.2.2 :: r.map (·.2.2)).Nodup from hn)
    cases j with
    | zero =>
      simp at hj
      subst hj
      rw [List.eraseIdx_cons_zero, List.filter_cons_of_neg (by simp)]
      refine (List.filter_eq_self.2 fun y hy => ?_).symm
      have : y.2.2 ≠ x.2.2 := fun e => hn'.1 (List.mem_map.2 ⟨y, hy, e⟩)
      simpa using this
    | succ j =>
      rw [List.getElem?_cons_succ] at hj
      have : x.2.2 ≠ e.2.2 := fun h => hn'.1 (List.mem_map.2 ⟨e, List.mem_of_getElem? hj, h.symm⟩)
      rw [List.eraseIdx_cons_succ, List.filter_cons_of_pos (by simpa using this), ih hn'.2 hj]

/-- How many are to come still. -/
def leftK (l : List (Int × Value × Nat)) (seen : List Nat) : Nat := (l.filter fun e => !seen.elem e.2.2).length
theorem leftK_step {l : List (Int × Value × Nat)} {seen : List Nat} {e : Int × Value × Nat} (he : e ∈ l) (hs : seen.elem e.2.2 = false) : leftK l (snoc seen e.2.2) < leftK l seen := by
  unfold leftK
  have hsub : (l.filter fun x => !(snoc seen e.2.2).elem x.2.2) = (l.filter fun x => !seen.elem x.2.2).filter fun x => !(x.2.2 == e.2.2) := by
    rw [List.filter_filter]
    refine List.filter_congr fun x _ => ?_
    show (!(seen ++ [e.2.2]).elem x.2.2) = _
    rw [Bool.eq_iff_iff]
    simp [and_comm, not_or]
  rw [hsub]
  refine List.length_filter_lt_length_iff_exists.2 ⟨e, ?_, by simp⟩
  rw [List.mem_filter]
  exact ⟨he, by rw [hs]; rfl⟩
theorem leftK_le (l : List (Int × Value × Nat)) (seen : List Nat) : leftK l seen ≤ l.length := List.length_filter_le _ _
theorem mem_snoc {seen : List Nat} {b x : Nat} : x ∈ snoc seen b ↔ x ∈ seen ∨ x = b := by
  show x ∈ seen ++ [b] ↔ _
  simp
end Go.Gb
