/- Own texts for the seat: Hp. -/
import Derived.Test.YtpmghonehgnjlaaGreatA6
import Derived.Test.YtpmghonehgnjlaaGreatA11
set_option linter.unusedVariables false
set_option linter.unusedSimpArgs false
set_option linter.unnecessarySimpa false
set_option linter.deprecated false
namespace Go.Gb
open IntWalk

/-! Small helps. -/

theorem iquo8 {a : Nat} (b : Nat) (h : a < 256) : iquo .u8 (a : Int) (b : Int) = ((a / b : Nat) : Int) := by
  unfold iquo
  rw [Int.tdiv_eq_ediv_of_nonneg (by omega)]
  have : (a : Int) / (b : Int) = ((a / b : Nat) : Int) := rfl
  rw [this, u8_nat' (Nat.lt_of_le_of_lt (Nat.div_le_self a b) h)]

theorem slBase0 (a : Option Addr) (c : Int) (sz : Nat) : slBase a c 0 sz = a := by
  unfold slBase
  split
  · rfl
  · cases a with
    | none => rfl
    | some x => simp [Addr.add]

theorem okc_arrlen {P : Program} {h : Heap} {d : Nat} {t e : TypeId} {n : Nat} {cs : List Value} (ht : P.underlying t = some (.array n e)) (hk : Okc P h (d + 1) t cs) : cs.length = P.cellsOf t := by
  unfold Okc at hk; rw [ht] at hk; exact hk.1
theorem okc_strlen {P : Program} {h : Heap} {d : Nat} {t : TypeId} {fs : Array Field} {cs : List Value} (ht : P.underlying t = some (.struct fs)) (hk : Okc P h (d + 1) t cs) : cs.length = P.cellsOf t := by
  unfold Okc at hk; rw [ht] at hk; exact hk.1

/-- A slice of truths. -/
theorem okc_bools {P : Program} {h : Heap} {d : Nat} {t e : TypeId} {v : Value} (ht : P.underlying t = some (.slice e)) (he : P.underlying e = some .bool) (hsz : P.cellsOf e = 1) (hk : Okc P h (d + 2) t [v]) :
    ∃ (a : Option Addr) (n c : Nat) (l : List Bool), v = .slice a n c ∧ n ≤ c ∧ c ≤ 9223372036854775807 ∧ l.length = n ∧ readsAt h a (l.map Value.bool) := by
  obtain ⟨a, n, c, dss, rfl, h1, h2, h3, h4, h5⟩ := okc_slice ht hsz (by omega) hk
  obtain ⟨l, rfl, -⟩ := typed (f := fun x => [Value.bool x]) (p := fun _ => True) dss (fun ds hds => by
    have := (h4 ds hds).2
    unfold Okc at this
    rw [he] at this
    obtain ⟨b, hb⟩ := this
    exact ⟨b, hb, trivial⟩)
  refine ⟨a, n, c, l, rfl, h1, h2, by simpa using h3, ?_⟩
  have : (l.map fun x => [Value.bool x]).flatten = l.map Value.bool := by
    clear h3 h4 h5
    induction l with
    | nil => rfl
    | cons x l ih => simp at ih ⊢; exact ih
  rw [← this]; exact h5

/-- Cells of one kind. -/
theorem row_of {α : Type} [Inhabited α] {g : α → Value} : ∀ (n : Nat) (cs : List Value), cs.length = n → (∀ (i : Nat) (v : Value), cs[i]? = some v → ∃ x, v = g x) → ∃ f : Nat → α, cs = (List.range n).map fun k => g (f k) := by
  intro n cs hn hv
  refine ⟨fun k => if hk : k < cs.length then (hv k _ (List.getElem?_eq_getElem hk)).choose else default, ?_⟩
  apply List.ext_getElem?
  intro i
  by_cases hi : i < cs.length
  · rw [List.getElem?_eq_getElem hi, List.getElem?_map, List.getElem?_range (by omega)]
    simp only [Option.map_some, hi, dif_pos]
    congr 1
    exact (hv i _ (List.getElem?_eq_getElem hi)).choose_spec
  · rw [List.getElem?_eq_none (by omega), List.getElem?_eq_none (by simp; omega)]

theorem lsub_row {α : Type} {g : α → Value} (f : Nat → α) {n o m : Nat} (h : o + m ≤ n) : lsub ((List.range n).map fun k => g (f k)) o m = (List.range m).map fun k => g (f (o + k)) := by
  apply List.ext_getElem?
  intro i
  unfold lsub
  by_cases hi : i < m
  · simp [List.getElem?_take, hi, List.getElem?_range (show o + i < n by omega)]
  · rw [List.getElem?_eq_none (by simp; omega), List.getElem?_eq_none (by simp; omega)]

theorem lput_all {zs vs : List Value} (h : vs.length = zs.length) : lput zs 0 vs = vs := by
  unfold lput
  apply List.ext_getElem?
  intro i
  rw [setL_get vs zs 0 i (by omega)]
  by_cases hi : i < vs.length
  · rw [if_pos (by omega)]; rfl
  · rw [if_neg (by omega), List.getElem?_eq_none (by omega), List.getElem?_eq_none (by omega)]

theorem oneCells_of : ∀ {l : List Value}, (∀ v, v ∈ l → Value.oneCell' v = true) → oneCells l = true
  | [], _ => rfl
  | v :: l, h => by
    show (Value.oneCell' v && oneCells l) = true
    rw [h v (by simp), oneCells_of fun w hw => h w (by simp [hw])]; rfl

end Go.Gb
