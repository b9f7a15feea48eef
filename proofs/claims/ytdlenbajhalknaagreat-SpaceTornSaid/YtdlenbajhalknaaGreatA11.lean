/- Own texts for the seat: GbArgs GbArgs2 GbArgs3. -/
import Derived.Test.YtdlenbajhalknaaGreatA10
import Derived.Test.YtdlenbajhalknaaGreatA6
import Derived.SizedLaws
set_option linter.unusedVariables false
set_option linter.unusedSimpArgs false
set_option linter.unnecessarySimpa false
set_option linter.deprecated false
namespace Go.Gb
open Go.ChangeShapes Go.WideShapes Go.ChangeAt Go.RowKit
theorem mapM_get {α β : Type} {f : α → Option β} : ∀ {l : List α} {r : List β}, l.mapM f = some r → r.length = l.length ∧ ∀ (i : Nat) (x : α), l[i]? = some x → ∃ y, r[i]? = some y ∧ f x = some y := by
 intro l
 induction l with
 | nil => intro r h; simp at h; subst h; exact ⟨rfl, by simp⟩
 | cons a l ih =>
  intro r h
  rw [List.mapM_cons] at h
  simp only [Option.bind_eq_bind, Option.bind_eq_some_iff, Option.pure_def, Option.some.injEq] at h
  obtain ⟨y, hy, zs, hz, rfl⟩ := h
  obtain ⟨h1, h2⟩ := ih hz
  refine ⟨by simp [h1], fun i x hx => ?_⟩
  cases i with
  | zero => simp at hx; subst hx; exact ⟨y, rfl, hy⟩
  | succ i => simp only [List.getElem?_cons_succ] at hx ⊢; exact h2 i x hx
end Go.Gb
namespace Go.Gb
end Go.Gb
namespace Go.Gb
open Go.ChangeShapes Go.WideShapes Go.ChangeAt Go.RowKit
section
variable {H : Type} {enc : TypeId × Value → H} {P : Program} {w : World} {h : Heap} {base : Nat} {sp : Nat → Bool} {held : Bool}
theorem trod_arr2 {t e : TypeId} {n fuel : Nat} {cs : List Value} {x : DataW H × List MemPlace} (ht : P.underlying t = some (.array n e)) (h : DataW.trod enc P w base sp held fuel t cs = some x) :
  ∃ (f' : Nat) (ys : List (DataW H × List MemPlace)), x.1 = .agg (ys.map (·.1)) ∧ ys.length = n ∧ ∀ i, i < n → ∃ y, ys[i]? = some y ∧ DataW.trod enc P w base sp held f' e ((cs.drop (i * P.cellsOf e)).take (P.cellsOf e)) = some y := by
 cases fuel with
 | zero => simp [DataW.trod] at h
 | succ m =>
  rw [DataW.trod_step] at h
  unfold DataW.trodStep at h
  simp only [ht] at h
  split at h
  ·simp only [Option.map_eq_some_iff] at h
   obtain ⟨ys, hy, rfl⟩ := h
   obtain ⟨h1, h2⟩ := mapM_get hy
   refine ⟨m, ys, rfl, by simpa using h1, fun i hi => ?_⟩
   exact h2 i i (by simp [hi])
  ·cases h
theorem weights_all_mem {e : TypeId} : ∀ {ds : List (DataW H)} {j : Nat} {d : DataW H}, ds[j]? = some d → ∀ n ∈ d.weights P e, n ∈ DataW.weightsAll P e ds
 | d0 :: ds, 0, d, hd, n, hn => by
  simp only [List.getElem?_cons_zero, Option.some.injEq] at hd
  subst hd
  simp only [DataW.weightsAll, List.mem_append]
  exact Or.inl hn
 | d0 :: ds, j + 1, d, hd, n, hn => by
  simp only [List.getElem?_cons_succ] at hd
  simp only [DataW.weightsAll, List.mem_append]
  exact Or.inr (weights_all_mem hd n hn)
 | [], _, _, hd, _, _ => by simp at hd
theorem open_strs {r : Reach} {b0 : Nat} {t e : TypeId} {n : Nat} {v : Value} {d : DataW H} {ps : List MemPlace} {ts : List TypeId} {ds : List (DataW H)} {j : Nat}
  (ht : P.underlying t = some (.array n e)) (he : P.underlying e = some .string) (hc : P.cellsOf e = 1) (hn : P.cellsOf t = n)
  (hval : Value.okWide P w r b0 t v) (hd : DataW.Trod enc P w base sp held t v d ps)
  (hz : (DataW.weightsEach P ts ds).all (· ≤ reachBytes) = true) (hj : ts[j]? = some t) (hdj : ds[j]? = some d) :
  ∃ ss : List ByteArray, v = .agg (ss.map Value.string).toArray ∧ ss.length = n ∧ ∀ s ∈ ss, s.size ≤ 140737488351232 := by
 unfold Value.okWide at hval
 simp only [ht] at hval
 obtain ⟨cs, rfl, -, -⟩ := hval
 obtain ⟨fuel, hf⟩ := hd
 obtain ⟨hl, -⟩ := trod_arr ht hf
 obtain ⟨f', ys, hx, hy, hi⟩ := trod_arr2 ht hf
 simp only [Value.cells] at hl hi
 rw [hn] at hl
 have hx2 : ∀ i (h : i < cs.toList.length), ∃ s : ByteArray, cs.toList[i] = .string s ∧ s.size ≤ 140737488351232 := by
  intro i h
  obtain ⟨y, hy1, hy2⟩ := hi i (by omega)
  rw [hc, Nat.mul_one] at hy2
  obtain ⟨s, h1, h2, -⟩ := DataW.trod_string he hy2
  rw [List.drop_eq_getElem_cons h] at h1
  simp at h1
  refine ⟨s, by simpa using h1, ?_⟩
  have hm : s.data.toList.length ∈ d.weights P t := by
   have hx : d = .agg (ys.map (·.1)) := hx
   rw [hx]
   unfold DataW.weights
   simp only [ht]
   refine weights_all_mem (j := i) (d := y.1) (by rw [List.getElem?_map, hy1]; rfl) _ ?_
   rw [h2]
   simp [DataW.weights]
  have := List.all_eq_true.1 hz _ (DataW.weights_mem_each hj hdj _ hm)
  have h3 : s.data.toList.length ≤ reachBytes := by simpa using this
  rw [Array.length_toList] at h3
  exact h3
 obtain ⟨ls, hls⟩ : ∃ ls, ls = cs.toList := ⟨_, rfl⟩
 have hcs : cs = ls.toArray := by rw [hls]
 rw [← hls] at hx2 hl
 rw [hcs]
 clear hi hf hls hcs hn hc ht
 have : ∀ (ls : List Value), (∀ i (h : i < ls.length), ∃ s : ByteArray, ls[i] = .string s ∧ s.size ≤ 140737488351232) → ∃ ss : List ByteArray, ls = ss.map Value.string ∧ ∀ s ∈ ss, s.size ≤ 140737488351232 := by
  intro ls
  induction ls with
  | nil => intro _; exact ⟨[], rfl, by simp⟩
  | cons a ls ih =>
   intro h
   obtain ⟨s, h1, h2⟩ := h 0 (by simp)
   obtain ⟨ss, rfl, h3⟩ := ih fun i hi => h (i + 1) (Nat.succ_lt_succ hi)
   refine ⟨s :: ss, ?_, ?_⟩
   ·have h1 : a = .string s := by simpa using h1
    rw [h1]; rfl
   ·intro x hx
    rcases List.mem_cons.1 hx with rfl | hx
    ·exact h2
    ·exact h3 x hx
 obtain ⟨ss, rfl, h3⟩ := this ls hx2
 exact ⟨ss, rfl, by simpa using hl, h3⟩
end
end Go.Gb
