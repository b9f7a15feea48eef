/- Own text for the seat: GbSl2. -/
import Derived.Test.YtbphidfhcijbhaaGbSl
set_option linter.unusedVariables false
set_option linter.unusedSimpArgs false
set_option linter.unnecessarySimpa false
set_option linter.deprecated false
namespace Go.Gb
open IntWalk

/-! Slices that are read; lists of numbers as cells; tables. -/

theorem Part.cell {h h' : Heap} (p : Part h h') {b o : Nat} {v : Value} (hc : h.cell b o = some v) : h'.cell b o = some v := by
  unfold Heap.cell at hc ⊢
  cases hb : h b with
  | none => rw [hb] at hc; cases hc
  | some ob => rw [hb] at hc; rw [p b ob hb]; exact hc

theorem reads_base {h : Heap} {a : Option Addr} {vs : List Value} {K : Nat → Nat → Prop} (hr : readsAt h a vs) (hn : 0 < vs.length)
    (hk : ∀ b o, (∀ i, i < vs.length → h.cell b (o + i * 1) = vs[i]?) → K b o) : atBase a K := by
  rcases hr with rfl | ⟨b, o, rfl, hc⟩
  · simp at hn
  · exact ⟨b, o, rfl, hk b o fun i hi => by rw [Nat.mul_one]; exact hc i hi⟩

/-- Numbers as cells. -/
def ints (k : IntKind) (l : List Int) : List Value := l.map (Value.int k)
theorem ints_length (k : IntKind) (l : List Int) : (ints k l).length = l.length := by simp [ints]
theorem ints_get (k : IntKind) (l : List Int) (i : Nat) : (ints k l)[i]? = (l[i]?).map (Value.int k) := by simp [ints]
theorem ints_set (k : IntKind) (l : List Int) (i : Nat) (x : Int) : (ints k l).set i (.int k x) = ints k (l.set i x) := by simp [ints, List.map_set]
theorem ints_append (k : IntKind) (l : List Int) (m : List Int) : ints k l ++ ints k m = ints k (l ++ m) := by simp [ints]
theorem ints_one (k : IntKind) (l : List Int) : oneCells (ints k l) = true := by
  induction l with
  | nil => rfl
  | cons x r ih => show (Value.oneCell' _ && oneCells (ints k r)) = true; rw [ih]; rfl

/-- A table. -/
def tab (n : Nat) (f : Nat → Int) : List Int := (List.range n).map f
theorem tab_length (n : Nat) (f : Nat → Int) : (tab n f).length = n := by simp [tab]
theorem tab_get {n : Nat} (f : Nat → Int) {i : Nat} (h : i < n) : (tab n f)[i]? = some (f i) := by simp [tab, h]
theorem tab_congr {n : Nat} {f g : Nat → Int} (h : ∀ i, i < n → f i = g i) : tab n f = tab n g := by
  unfold tab; apply List.map_congr_left; intro i hi; exact h i (by simpa using hi)
theorem tab_set {n : Nat} (f : Nat → Int) (i : Nat) (x : Int) : (tab n f).set i x = tab n (fun j => if j = i then x else f j) := by
  apply List.ext_getElem?
  intro j
  rw [List.getElem?_set]
  by_cases hj : j < n
  · rw [tab_get _ hj, tab_length]
    by_cases e : i = j
    · subst e; rw [tab_get _ hj]; simp [hj]
    · rw [if_neg e, tab_get _ hj, if_neg (fun h => e h.symm)]
  · have h1 : (tab n f)[j]? = none := List.getElem?_eq_none (by rw [tab_length]; omega)
    have h2 : (tab n (fun j => if j = i then x else f j))[j]? = none := List.getElem?_eq_none (by rw [tab_length]; omega)
    rw [h1, h2]
    by_cases e : i = j
    · rw [if_pos e, if_neg (by rw [tab_length]; omega)]
    · rw [if_neg e]
theorem tab_snoc (n : Nat) (f : Nat → Int) : tab n f ++ [f n] = tab (n + 1) f := by simp [tab, List.range_succ]
theorem tab_replicate (n : Nat) (x : Int) : List.replicate n x = tab n (fun _ => x) := by
  apply List.ext_getElem?
  intro j
  by_cases hj : j < n
  · rw [tab_get _ hj, List.getElem?_replicate, if_pos hj]
  · rw [List.getElem?_eq_none (by simp; omega), List.getElem?_eq_none (by rw [tab_length]; omega)]

/-- A cell of an owned slice of numbers. -/
theorem Own.ibase {h0 h : Heap} {T : TypeId} {k : IntKind} {n c : Nat} {a : Option Addr} {l : List Int} {K : Nat → Nat → Prop} (w : Own h0 h T 1 a n c (ints k l)) {i : Nat} (hi : i < l.length)
    (hk : ∀ b, (∀ j x, l[j]? = some x → h.cell b (0 + j * 1) = some (.int k x)) → (∀ j, j < l.length → h.can b (0 + j * 1) 1) → (∀ j x, j < l.length → Own h0 (h.put b (0 + j * 1) [.int k x]) T 1 a n c (ints k (l.set j x))) → K b 0) : atBase a K := by
  have hn : n = l.length := by have := w.len; rw [ints_length] at this; omega
  refine w.base (by omega) fun b h1 h2 h3 => hk b (fun j x hj => ?_) (fun j hj => h2 j (by omega)) (fun j x hj => ?_)
  · have hlt : j < l.length := (List.getElem?_eq_some_iff.1 hj).1
    rw [h1 j (by omega), ints_get, hj]; rfl
  · have := h3 j (.int k x) (by omega)
    rw [ints_set] at this
    exact this

/-- Numbers that are read. -/
theorem reads_ints {h : Heap} {a : Option Addr} {k : IntKind} {l : List Int} {K : Nat → Nat → Prop} (hr : readsAt h a (ints k l)) {i : Nat} (hi : i < l.length)
    (hk : ∀ b o, (∀ j x, l[j]? = some x → h.cell b (o + j * 1) = some (.int k x)) → K b o) : atBase a K := by
  refine reads_base hr (by rw [ints_length]; omega) fun b o hc => hk b o fun j x hj => ?_
  have hlt : j < l.length := (List.getElem?_eq_some_iff.1 hj).1
  rw [hc j (by rw [ints_length]; omega), ints_get, hj]; rfl

/-- A number behind a slice of the call's own. -/
theorem Own.isnoc {P : Program} {h0 h : Heap} {T : TypeId} {k : IntKind} {n c b : Nat} {a : Option Addr} {l : List Int} {x : Int} {K : Option Addr → Nat → Nat → Heap → Prop} (w : Own h0 h T 1 a n c (ints k l)) (hb : h b = none)
    (hsz : cellSize P T = 1) (hz : (cellZero P T).length = 1) (hcap : (2 * (n + 1) + 192) * cellBytes P T ≤ 2 ^ 48)
    (hk : ∀ a' c' h', Own h0 h' T 1 a' (n + 1) c' (ints k (l ++ [x])) → K a' (n + 1) c' h') : xsApp P T (upd h b (.cells #[.int k x] T (0, 0))) a n c (some ⟨b, 0, none⟩) 1 K := by
  refine Own.append (w.keep (Part.upd hb _)) hsz (by omega) (new := ints k [x]) rfl rfl (readsAt_new T (ints k [x])) hz hcap fun a' c' h' w' => ?_
  rw [ints_append] at w'
  exact hk a' c' h' w'

theorem wrapU_id {k : IntKind} (hk : k.signed = false) {x : Nat} (h : x < 2 ^ k.bits) : k.wrap (x : Int) = (x : Int) := by
  rw [wrapU k hk, ← Int.natCast_emod, Nat.mod_eq_of_lt h]
theorem iandU {k : IntKind} (hk : k.signed = false) {a b : Nat} (ha : a < 2 ^ k.bits) (hb : b < 2 ^ k.bits) : iand k (a : Int) (b : Int) = ((a &&& b : Nat) : Int) := by
  unfold iand
  rw [BitVec.toNat_and, bv_nat, bv_nat, Nat.mod_eq_of_lt ha, Nat.mod_eq_of_lt hb, wrapU_id hk (Nat.lt_of_le_of_lt Nat.and_le_left ha)]
theorem iorU {k : IntKind} (hk : k.signed = false) {a b : Nat} (ha : a < 2 ^ k.bits) (hb : b < 2 ^ k.bits) : ior k (a : Int) (b : Int) = ((a ||| b : Nat) : Int) := by
  unfold ior
  rw [BitVec.toNat_or, bv_nat, bv_nat, Nat.mod_eq_of_lt ha, Nat.mod_eq_of_lt hb, wrapU_id hk (Nat.or_lt_two_pow ha hb)]
theorem ixorU {k : IntKind} (hk : k.signed = false) {a b : Nat} (ha : a < 2 ^ k.bits) (hb : b < 2 ^ k.bits) : ixor k (a : Int) (b : Int) = ((a ^^^ b : Nat) : Int) := by
  unfold ixor
  rw [BitVec.toNat_xor, bv_nat, bv_nat, Nat.mod_eq_of_lt ha, Nat.mod_eq_of_lt hb, wrapU_id hk (Nat.xor_lt_two_pow ha hb)]
theorem inotU {k : IntKind} (hk : k.signed = false) {m : Nat} (hm : k.max = (m : Int)) (hmb : m < 2 ^ k.bits) {a : Nat} (ha : a < 2 ^ k.bits) : inot k (a : Int) = ((a ^^^ m : Nat) : Int) := by
  unfold inot
  rw [hk]
  simp only [Bool.false_eq_true, if_false]
  rw [hm, ixorU hk hmb ha, Nat.xor_comm]
theorem ishrU {k : IntKind} {a s : Nat} (h : s ≤ k.bits) : ishr k (a : Int) (s : Int) = ((a / 2 ^ s : Nat) : Int) := by
  rw [ishr_nat]; congr 3; exact Nat.min_eq_left h
theorem ishlU {k : IntKind} (hk : k.signed = false) {a s : Nat} (h : s ≤ k.bits) : ishl k (a : Int) (s : Int) = ((a * 2 ^ s % 2 ^ k.bits : Nat) : Int) := by
  rw [ishl_nat, show Nat.min s k.bits = s from Nat.min_eq_left h, wrapU k hk, ← Int.natCast_emod]

end Go.Gb
