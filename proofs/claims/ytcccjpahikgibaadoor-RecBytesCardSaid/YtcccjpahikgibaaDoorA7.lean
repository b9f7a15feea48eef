/- Own texts for the seat: GbInt GbSl GbSl2 GbOwn. -/
import Derived.Test.YtcccjpahikgibaaDoorA6
import Derived.IntWalk
import Derived.Laws.Bits64
set_option linter.unusedVariables false
set_option linter.unusedSimpArgs false
set_option linter.unnecessarySimpa false
set_option linter.deprecated false
namespace Go.Gb
open IntWalk

/-! Numbers: unsigned ones as naturals. -/

theorem xsIf_t {b : Bool} {x y : Prop} (hb : b = true) (hx : x) : xsIf b x y := xsIf_intro (fun _ => hx) fun h => by simp [hb] at h
theorem xsIf_f {b : Bool} {x y : Prop} (hb : b = false) (hy : y) : xsIf b x y := xsIf_intro (fun h => by simp [hb] at h) fun _ => hy

theorem imax_eq (x y : Int) : imax x y = max x y := by unfold imax; split <;> omega
theorem imin_eq (x y : Int) : imin x y = min x y := by unfold imin; split <;> omega

theorem wrapU (k : IntKind) (hk : k.signed = false) (x : Int) : k.wrap x = x % (2 ^ k.bits : Nat) := by
  unfold IntKind.wrap
  simp [hk]
theorem u64_nat (x : Nat) : IntKind.u64.wrap (x : Int) = ((x % 18446744073709551616 : Nat) : Int) := wrapU .u64 rfl _
theorem u32_nat (x : Nat) : IntKind.u32.wrap (x : Int) = ((x % 4294967296 : Nat) : Int) := wrapU .u32 rfl _
theorem u8_nat (x : Nat) : IntKind.u8.wrap (x : Int) = ((x % 256 : Nat) : Int) := wrapU .u8 rfl _
theorem u64_nat' {x : Nat} (h : x < 18446744073709551616) : IntKind.u64.wrap (x : Int) = (x : Int) := by rw [u64_nat, Nat.mod_eq_of_lt h]
theorem u32_nat' {x : Nat} (h : x < 4294967296) : IntKind.u32.wrap (x : Int) = (x : Int) := by rw [u32_nat, Nat.mod_eq_of_lt h]
theorem irem_nat (a b : Nat) : irem (a : Int) (b : Int) = ((a % b : Nat) : Int) := by
  unfold irem; rw [Int.tmod_eq_emod_of_nonneg (by omega)]; rfl
theorem irem_pos {a b : Int} (h : 0 ≤ a) : irem a b = a % b := by unfold irem; rw [Int.tmod_eq_emod_of_nonneg h]

theorem iquo_u64 {a : Nat} (b : Nat) (h : a < 18446744073709551616) : iquo .u64 (a : Int) (b : Int) = ((a / b : Nat) : Int) := by
  unfold iquo
  rw [Int.tdiv_eq_ediv_of_nonneg (by omega)]
  have : (a : Int) / (b : Int) = ((a / b : Nat) : Int) := rfl
  rw [this, u64_nat']
  exact Nat.lt_of_le_of_lt (Nat.div_le_self a b) h
theorem cast_pow (b n : Nat) : (((b ^ n : Nat)) : Int) = (b : Int) ^ n := by simp

theorem ishr_nat (k : IntKind) (a s : Nat) : ishr k (a : Int) (s : Int) = ((a / 2 ^ (Nat.min s k.bits) : Nat) : Int) := by
  unfold ishr
  rw [Int.toNat_natCast, Int.fdiv_eq_ediv_of_nonneg _ (by rw [show (2 : Int) = ((2 : Nat) : Int) from rfl, ← cast_pow]; exact Int.natCast_nonneg _)]
  rw [show (2 : Int) = ((2 : Nat) : Int) from rfl, ← cast_pow]
  rfl
theorem ishr_u64 {a s : Nat} (h : s ≤ 64) : ishr .u64 (a : Int) (s : Int) = ((a / 2 ^ s : Nat) : Int) := by
  rw [ishr_nat]; congr 3; exact Nat.min_eq_left h

theorem ishl_nat (k : IntKind) (a s : Nat) : ishl k (a : Int) (s : Int) = k.wrap ((a * 2 ^ (Nat.min s k.bits) : Nat) : Int) := by
  unfold ishl
  rw [Int.toNat_natCast, show (2 : Int) = ((2 : Nat) : Int) from rfl, ← cast_pow, ← Int.natCast_mul]
theorem ishl_u64 {a s : Nat} (h : s ≤ 64) : ishl .u64 (a : Int) (s : Int) = ((a * 2 ^ s % 18446744073709551616 : Nat) : Int) := by
  rw [ishl_nat, show Nat.min s IntKind.u64.bits = s from Nat.min_eq_left h, u64_nat]

theorem bv_nat (n a : Nat) : (BitVec.ofInt n (a : Int)).toNat = a % 2 ^ n := by
  simp [BitVec.toNat_ofInt]

theorem ior_u64 {a b : Nat} (ha : a < 18446744073709551616) (hb : b < 18446744073709551616) : ior .u64 (a : Int) (b : Int) = ((a ||| b : Nat) : Int) := by
  unfold ior
  rw [BitVec.toNat_or, bv_nat, bv_nat]
  show IntKind.u64.wrap ((a % 18446744073709551616 ||| b % 18446744073709551616 : Nat) : Int) = _
  rw [Nat.mod_eq_of_lt ha, Nat.mod_eq_of_lt hb, u64_nat' (Nat.or_lt_two_pow (n := 64) ha hb)]
end Go.Gb
namespace Go.Gb

/-! Slices that a call owns: outside the heap that it began with. -/

theorem Part.refl (h : Heap) : Part h h := fun _ _ x => x
theorem Part.trans {a b c : Heap} (h : Part a b) (k : Part b c) : Part a c := fun i o x => k i o (h i o x)
theorem Part.upd {h : Heap} {b : Nat} (hb : h b = none) (o : Obj) : Part h (upd h b o) := by
  intro k o' hk
  unfold Go.Gb.upd
  rw [if_neg (fun e => by rw [e, hb] at hk; cases hk)]
  exact hk
theorem Part.upd' {h h' : Heap} {b : Nat} (p : Part h h') (hb : h b = none) (o : Obj) : Part h (Go.Gb.upd h' b o) := by
  intro k o' hk
  unfold Go.Gb.upd
  rw [if_neg (fun e => by rw [e, hb] at hk; cases hk)]
  exact p k o' hk
theorem Part.put {h h' : Heap} {b : Nat} (p : Part h h') (hb : h b = none) (o : Nat) (vs : List Value) : Part h (h'.put b o vs) := by
  intro k o' hk
  unfold Heap.put
  rw [if_neg (fun e => by rw [e, hb] at hk; cases hk)]
  exact p k o' hk
theorem Part.none {h h' : Heap} {b : Nat} (p : Part h h') (hb : h' b = none) : h b = none := by
  cases e : h b with
  | none => rfl
  | some o => rw [p b o e] at hb; cases hb

theorem upd_same (h : Heap) (b : Nat) (o : Obj) : upd h b o b = some o := by simp [upd]
theorem upd_other (h : Heap) {b k : Nat} (o : Obj) (hk : k ≠ b) : upd h b o k = h k := by simp [upd, hk]

/-- A slice, with its cells, in a block of its own. -/
structure Own (h0 h : Heap) (T : TypeId) (sz : Nat) (a : Option Addr) (n c : Nat) (vs : List Value) : Prop where
  part : Part h0 h
  len : vs.length = n * sz
  place : (a = none ∧ n = 0 ∧ c = 0) ∨ ∃ b cs, a = some ⟨b, 0, none⟩ ∧ h0 b = none ∧ h b = some (.cells cs T (0, 0)) ∧ cs.size = c * sz ∧ n ≤ c ∧ cs.toList.take (n * sz) = vs

theorem Own.nil {h0 h : Heap} {T : TypeId} {sz : Nat} (p : Part h0 h) : Own h0 h T sz none 0 0 [] := ⟨p, by simp, .inl ⟨rfl, rfl, rfl⟩⟩

theorem readsAt_part {h h' : Heap} {a : Option Addr} {vs : List Value} (hr : readsAt h a vs) (p : Part h h') : readsAt h' a vs := by
  rcases hr with rfl | ⟨b, o, rfl, hc⟩
  · exact .inl rfl
  · refine .inr ⟨b, o, rfl, fun j hj => ?_⟩
    have h1 := hc j hj
    have h2 : vs[j]? = some vs[j] := by simp [hj]
    rw [h2] at h1 ⊢
    unfold Heap.cell at h1 ⊢
    cases hb : h b with
    | none => rw [hb] at h1; cases h1
    | some ob => rw [hb] at h1; rw [p b ob hb]; exact h1

theorem Own.reads {h0 h : Heap} {T : TypeId} {sz n c : Nat} {a : Option Addr} {vs : List Value} (w : Own h0 h T sz a n c vs) : readsAt h a vs := by
  rcases w.place with ⟨rfl, rfl, rfl⟩ | ⟨b, cs, rfl, h1, h2, h3, h4, h5⟩
  · left; exact List.eq_nil_of_length_eq_zero (by simpa using w.len)
  · right
    refine ⟨b, 0, rfl, fun j hj => ?_⟩
    unfold Heap.cell
    rw [h2, Nat.zero_add]
    show cs[j]? = vs[j]?
    rw [← h5, List.getElem?_take, if_pos (by rw [← w.len]; exact hj)]
    simp

theorem readsAt_new {h : Heap} {b : Nat} (T : TypeId) (vs : List Value) : readsAt (upd h b (.cells vs.toArray T (0, 0))) (some ⟨b, 0, none⟩) vs := by
  right
  refine ⟨b, 0, rfl, fun j hj => ?_⟩
  unfold Heap.cell
  rw [upd_same]
  simp

theorem Own.keep {h0 h h' : Heap} {T : TypeId} {sz n c : Nat} {a : Option Addr} {vs : List Value} (w : Own h0 h T sz a n c vs) (p : Part h h') : Own h0 h' T sz a n c vs :=
  ⟨w.part.trans p, w.len, w.place.imp id fun ⟨b, cs, h1, h2, h3, h4⟩ => ⟨b, cs, h1, h2, p _ _ h3, h4⟩⟩

theorem growBy_le (need : Nat) : ∀ (r c : Nat), c < need → Builtin.growBy need r c ≤ need + (need + 768) / 4 := by
  intro r
  induction r with
  | zero => intro c h; simp [Builtin.growBy]; omega
  | succ r ih =>
    intro c h
    unfold Builtin.growBy
    rw [if_neg (by omega)]
    by_cases hc : c + (c + 768) / 4 < need
    · exact ih _ hc
    · cases r with
      | zero => simp [Builtin.growBy]; omega
      | succ r => unfold Builtin.growBy; rw [if_pos (by omega)]; omega

theorem nextcap_le {need c : Nat} (h : c < need) : Builtin.nextslicecap need c ≤ 2 * need + 192 := by
  unfold Builtin.nextslicecap
  split
  · omega
  · split
    · omega
    · have := growBy_le need 4 c h; omega

theorem setL_get (vs : List Value) : ∀ (cs : List Value) (o j : Nat), o + vs.length ≤ cs.length → (setL cs o vs)[j]? = if o ≤ j ∧ j < o + vs.length then vs[j - o]? else cs[j]? := by
  induction vs with
  | nil => intro cs o j h; simp [setL]; intro h1 h2; omega
  | cons v r ih =>
    intro cs o j h
    unfold setL
    simp only [List.length_cons] at h
    rw [ih _ _ _ (by simp; omega)]
    simp only [List.length_cons]
    by_cases h1 : j = o
    · subst h1
      rw [if_neg (by omega), if_pos (by omega)]
      have : j < cs.length := by omega
      simp [this]
    · rw [List.getElem?_set_ne (fun e => h1 e.symm)]
      by_cases h2 : o + 1 ≤ j ∧ j < o + 1 + r.length
      · rw [if_pos h2, if_pos (by omega)]
        obtain ⟨d, hd⟩ : ∃ d, j = o + 1 + d := ⟨j - (o + 1), by omega⟩
        subst hd
        rw [show o + 1 + d - o = d + 1 by omega, show o + 1 + d - (o + 1) = d by omega]
        simp
      · rw [if_neg h2, if_neg (by omega)]

theorem setL_append (vs : List Value) (cs : List Value) (o : Nat) (h : o + vs.length ≤ cs.length) : (setL cs o vs).take (o + vs.length) = cs.take o ++ vs := by
  apply List.ext_getElem?
  intro j
  rw [List.getElem?_take]
  by_cases hj : j < o + vs.length
  · rw [if_pos hj, setL_get _ _ _ _ h]
    by_cases h1 : o ≤ j
    · rw [if_pos ⟨h1, hj⟩, List.getElem?_append_right (by simp; omega)]
      congr 1; simp; omega
    · rw [if_neg (by omega), List.getElem?_append_left (by simp; omega), List.getElem?_take, if_pos (by omega)]
  · rw [if_neg hj, List.getElem?_eq_none]
    simp; omega

/-- append to a slice that the call owns. -/
theorem Own.append {P : Program} {h0 h : Heap} {T : TypeId} {sz n c m : Nat} {a x : Option Addr} {vs new : List Value} {K : Option Addr → Nat → Nat → Heap → Prop}
    (w : Own h0 h T sz a n c vs) (hsz : cellSize P T = sz) (hpos : 0 < sz) (hlen : new.length = m * sz) (hone : oneCells new = true) (hr : readsAt h x new) (hz : (cellZero P T).length = sz)
    (hcap : (2 * (n + m) + 192) * cellBytes P T ≤ 2 ^ 48)
    (hk : ∀ a' c' h', Own h0 h' T sz a' (n + m) c' (vs ++ new) → K a' (n + m) c' h') : xsApp P T h a n c x m K := by
  refine ⟨new, by rw [hsz]; exact hlen, hone, hr, ?_, ?_⟩
  · intro hc
    rw [hsz]
    rcases w.place with ⟨rfl, rfl, rfl⟩ | ⟨b, cs, rfl, h1, h2, h3, h4, h5⟩
    · left
      have hm : m = 0 := by omega
      subst hm
      have hn : new = [] := List.eq_nil_of_length_eq_zero (by simpa using hlen)
      subst hn
      refine ⟨rfl, rfl, hk _ _ _ ?_⟩
      rw [List.append_nil]
      exact w
    · right
      have hle : n * sz + m * sz ≤ c * sz := by rw [← Nat.add_mul]; exact Nat.mul_le_mul_right _ hc
      refine ⟨b, 0, rfl, ⟨cs, T, 0, 0, h2, by omega, .inr (Nat.zero_le _)⟩, hk _ _ _ ⟨w.part.put h1 _ _, by rw [List.length_append, w.len, hlen, Nat.add_mul], .inr ⟨b, _, rfl, h1, by simp [Heap.put, h2, putObj]; rfl, ?_, hc, ?_⟩⟩⟩
      · simp [setL_length, h3]
      · rw [← h5, Nat.add_mul]
        have := setL_append new cs.toList (0 + n * sz) (by simp; omega)
        rw [Nat.zero_add, hlen] at this
        simpa using this
  · intro hc
    rw [hsz]
    refine ⟨?_, vs, w.len, w.reads, ?_⟩
    · exact Nat.le_trans (Nat.mul_le_mul_right _ (nextcap_le hc)) hcap
    · intro b c' hb hc'
      refine hk _ _ _ ⟨w.part.upd' (w.part.none hb) _, by rw [List.length_append, w.len, hlen, Nat.add_mul], .inr ⟨b, _, rfl, w.part.none hb, upd_same _ _ _, ?_, hc', ?_⟩⟩
      · have hzl : (zeros P T (c' - (n + m))).length = (c' - (n + m)) * sz := by
          unfold zeros; simp [hz]
        simp only [List.size_toArray, List.length_append, w.len, hlen, hzl]
        rw [← Nat.add_mul, ← Nat.add_mul]; congr 1; omega
      · have hl2 : (vs ++ new).length = (n + m) * sz := by rw [List.length_append, w.len, hlen, Nat.add_mul]
        rw [← hl2]
        simp only [List.take_append_of_le_length (Nat.le_refl _), List.take_length]

/-- An owned slice of one-cell elements: its cells, and writing them. -/
theorem Own.at {h0 h : Heap} {T : TypeId} {n c : Nat} {a : Option Addr} {vs : List Value} (w : Own h0 h T 1 a n c vs) (hn : 0 < n) :
    ∃ b, a = some ⟨b, 0, none⟩ ∧ h0 b = none ∧ (∀ i, i < n → h.cell b (0 + i * 1) = vs[i]?) ∧ (∀ i, i < n → h.can b (0 + i * 1) 1) ∧
      (∀ i v, i < n → Own h0 (h.put b (0 + i * 1) [v]) T 1 a n c (vs.set i v)) := by
  rcases w.place with ⟨rfl, rfl, rfl⟩ | ⟨b, cs, rfl, h1, h2, h3, h4, h5⟩
  · omega
  · refine ⟨b, rfl, h1, ?_, ?_, ?_⟩
    · intro i hi
      unfold Heap.cell
      rw [h2]
      show cs[0 + i * 1]? = _
      rw [Nat.zero_add, Nat.mul_one, ← h5, List.getElem?_take, if_pos (by omega)]
      simp
    · intro i hi
      exact ⟨cs, T, 0, 0, h2, by omega, .inr (Nat.zero_le _)⟩
    · intro i v hi
      refine ⟨w.part.put h1 _ _, by simpa using w.len, .inr ⟨b, (cs.toList.set i v).toArray, rfl, h1, ?_, by simp [h3], h4, ?_⟩⟩
      · simp [Heap.put, h2, putObj, setL]
      · rw [← h5]
        simp [List.take_set]

theorem Own.base {h0 h : Heap} {T : TypeId} {n c : Nat} {a : Option Addr} {vs : List Value} {K : Nat → Nat → Prop} (w : Own h0 h T 1 a n c vs) (hn : 0 < n)
    (hk : ∀ b, (∀ i, i < n → h.cell b (0 + i * 1) = vs[i]?) → (∀ i, i < n → h.can b (0 + i * 1) 1) → (∀ i v, i < n → Own h0 (h.put b (0 + i * 1) [v]) T 1 a n c (vs.set i v)) → K b 0) : atBase a K := by
  obtain ⟨b, rfl, _, h1, h2, h3⟩ := w.at hn
  exact ⟨b, 0, rfl, hk b h1 h2 h3⟩

/-- A new slice of zeros. -/
theorem Own.make {P : Program} {h0 h : Heap} {T : TypeId} {n : Int} {z : Value} {K : Option Addr → Nat → Nat → Heap → Prop} (p : Part h0 h) (hz : cellZero P T = [z]) (h1 : 0 ≤ n) (h2 : (cellBytes P T : Int) * n ≤ 281474976710656) (h3 : n ≤ 9223372036854775807)
    (hk : ∀ a h', Own h0 h' T 1 a n.toNat n.toNat (List.replicate n.toNat z) → K a n.toNat n.toNat h') : xsMk P T h n n K := by
  have ez : ∀ m, zeros P T m = List.replicate m z := by
    intro m; unfold zeros; rw [hz]
    induction m with
    | zero => rfl
    | succ m ih => rw [List.replicate_succ, List.flatten_cons, ih]; rfl
  refine ⟨h1, Int.le_refl _, h3, h2, fun b hb => hk _ _ ⟨p.upd' (p.none hb) _, by simp, .inr ⟨b, _, rfl, p.none hb, upd_same _ _ _, by simp [ez], Nat.le_refl _, by simp [ez]⟩⟩⟩

end Go.Gb
namespace Go.Gb
open IntWalk

/-! Slices that are read; lists of numbers as cells; tables. -/

theorem Part.cell {h h' : Heap} (p : Part h h') {b o : Nat} {v : Value} (hc : h.cell b o = some v) : h'.cell b o = some v := by
  unfold Heap.cell at hc ⊢
  cases hb : h b with
  | none => rw [hb] at hc; cases hc
  | some ob => rw [hb] at hc; rw [p b ob hb]; exact hc

theorem reads_base {h : Heap} {a : Option Addr} {vs : List Value} {K : Nat → Nat → Prop} (hr : readsAt h a vs) (hn : 0 < vs.length)
    (hk : ∀ b o, (∀ i, i < vs.length → h.cell b (o + i * 1) = vs[i]?) → K b o) : atBase a K := by
  rcases hr with rfl | ⟨b, o, rfl, hc⟩
  · simp at hn
  · exact ⟨b, o, rfl, hk b o fun i hi => by rw [Nat.mul_one]; exact hc i hi⟩

/-- Numbers as cells. -/
def ints (k : IntKind) (l : List Int) : List Value := l.map (Value.int k)
theorem ints_length (k : IntKind) (l : List Int) : (ints k l).length = l.length := by simp [ints]
theorem ints_get (k : IntKind) (l : List Int) (i : Nat) : (ints k l)[i]? = (l[i]?).map (Value.int k) := by simp [ints]
theorem ints_set (k : IntKind) (l : List Int) (i : Nat) (x : Int) : (ints k l).set i (.int k x) = ints k (l.set i x) := by simp [ints, List.map_set]
theorem ints_append (k : IntKind) (l : List Int) (m : List Int) : ints k l ++ ints k m = ints k (l ++ m) := by simp [ints]
/-- A table. -/
def tab (n : Nat) (f : Nat → Int) : List Int := (List.range n).map f
theorem tab_length (n : Nat) (f : Nat → Int) : (tab n f).length = n := by simp [tab]
theorem tab_get {n : Nat} (f : Nat → Int) {i : Nat} (h : i < n) : (tab n f)[i]? = some (f i) := by simp [tab, h]
theorem tab_congr {n : Nat} {f g : Nat → Int} (h : ∀ i, i < n → f i = g i) : tab n f = tab n g := by
  unfold tab; apply List.map_congr_left; intro i hi; exact h i (by simpa using hi)
theorem tab_set {n : Nat} (f : Nat → Int) (i : Nat) (x : Int) : (tab n f).set i x = tab n (fun j => if j = i then x else f j) := by
  apply List.ext_getElem?
  intro j
  rw [List.getElem?_set]
  by_cases hj : j < n
  · rw [tab_get _ hj, tab_length]
    by_cases e : i = j
    · subst e; rw [tab_get _ hj]; simp [hj]
    · rw [if_neg e, tab_get _ hj, if_neg (fun h => e h.symm)]
  · have h1 : (tab n f)[j]? = none := List.getElem?_eq_none (by rw [tab_length]; omega)
    have h2 : (tab n (fun j => if j = i then x else f j))[j]? = none := List.getElem?_eq_none (by rw [tab_length]; omega)
    rw [h1, h2]
    by_cases e : i = j
    · rw [if_pos e, if_neg (by rw [tab_length]; omega)]
    · rw [if_neg e]
theorem tab_snoc (n : Nat) (f : Nat → Int) : tab n f ++ [f n] = tab (n + 1) f := by simp [tab, List.range_succ]
theorem tab_replicate (n : Nat) (x : Int) : List.replicate n x = tab n (fun _ => x) := by
  apply List.ext_getElem?
  intro j
  by_cases hj : j < n
  · rw [tab_get _ hj, List.getElem?_replicate, if_pos hj]
  · rw [List.getElem?_eq_none (by simp; omega), List.getElem?_eq_none (by rw [tab_length]; omega)]

/-- A cell of an owned slice of numbers. -/
theorem Own.ibase {h0 h : Heap} {T : TypeId} {k : IntKind} {n c : Nat} {a : Option Addr} {l : List Int} {K : Nat → Nat → Prop} (w : Own h0 h T 1 a n c (ints k l)) {i : Nat} (hi : i < l.length)
    (hk : ∀ b, (∀ j x, l[j]? = some x → h.cell b (0 + j * 1) = some (.int k x)) → (∀ j, j < l.length → h.can b (0 + j * 1) 1) → (∀ j x, j < l.length → Own h0 (h.put b (0 + j * 1) [.int k x]) T 1 a n c (ints k (l.set j x))) → K b 0) : atBase a K := by
  have hn : n = l.length := by have := w.len; rw [ints_length] at this; omega
  refine w.base (by omega) fun b h1 h2 h3 => hk b (fun j x hj => ?_) (fun j hj => h2 j (by omega)) (fun j x hj => ?_)
  · have hlt : j < l.length := (List.getElem?_eq_some_iff.1 hj).1
    rw [h1 j (by omega), ints_get, hj]; rfl
  · have := h3 j (.int k x) (by omega)
    rw [ints_set] at this
    exact this

/-- Numbers that are read. -/
theorem reads_ints {h : Heap} {a : Option Addr} {k : IntKind} {l : List Int} {K : Nat → Nat → Prop} (hr : readsAt h a (ints k l)) {i : Nat} (hi : i < l.length)
    (hk : ∀ b o, (∀ j x, l[j]? = some x → h.cell b (o + j * 1) = some (.int k x)) → K b o) : atBase a K := by
  refine reads_base hr (by rw [ints_length]; omega) fun b o hc => hk b o fun j x hj => ?_
  have hlt : j < l.length := (List.getElem?_eq_some_iff.1 hj).1
  rw [hc j (by rw [ints_length]; omega), ints_get, hj]; rfl

/-- A number behind a slice of the call's own. -/
theorem Own.isnoc {P : Program} {h0 h : Heap} {T : TypeId} {k : IntKind} {n c b : Nat} {a : Option Addr} {l : List Int} {x : Int} {K : Option Addr → Nat → Nat → Heap → Prop} (w : Own h0 h T 1 a n c (ints k l)) (hb : h b = none)
    (hsz : cellSize P T = 1) (hz : (cellZero P T).length = 1) (hcap : (2 * (n + 1) + 192) * cellBytes P T ≤ 2 ^ 48)
    (hk : ∀ a' c' h', Own h0 h' T 1 a' (n + 1) c' (ints k (l ++ [x])) → K a' (n + 1) c' h') : xsApp P T (upd h b (.cells #[.int k x] T (0, 0))) a n c (some ⟨b, 0, none⟩) 1 K := by
  refine Own.append (w.keep (Part.upd hb _)) hsz (by omega) (new := ints k [x]) rfl rfl (readsAt_new T (ints k [x])) hz hcap fun a' c' h' w' => ?_
  rw [ints_append] at w'
  exact hk a' c' h' w'

theorem wrapU_id {k : IntKind} (hk : k.signed = false) {x : Nat} (h : x < 2 ^ k.bits) : k.wrap (x : Int) = (x : Int) := by
  rw [wrapU k hk, ← Int.natCast_emod, Nat.mod_eq_of_lt h]
theorem iandU {k : IntKind} (hk : k.signed = false) {a b : Nat} (ha : a < 2 ^ k.bits) (hb : b < 2 ^ k.bits) : iand k (a : Int) (b : Int) = ((a &&& b : Nat) : Int) := by
  unfold iand
  rw [BitVec.toNat_and, bv_nat, bv_nat, Nat.mod_eq_of_lt ha, Nat.mod_eq_of_lt hb, wrapU_id hk (Nat.lt_of_le_of_lt Nat.and_le_left ha)]
theorem ixorU {k : IntKind} (hk : k.signed = false) {a b : Nat} (ha : a < 2 ^ k.bits) (hb : b < 2 ^ k.bits) : ixor k (a : Int) (b : Int) = ((a ^^^ b : Nat) : Int) := by
  unfold ixor
  rw [BitVec.toNat_xor, bv_nat, bv_nat, Nat.mod_eq_of_lt ha, Nat.mod_eq_of_lt hb, wrapU_id hk (Nat.xor_lt_two_pow ha hb)]
theorem inotU {k : IntKind} (hk : k.signed = false) {m : Nat} (hm : k.max = (m : Int)) (hmb : m < 2 ^ k.bits) {a : Nat} (ha : a < 2 ^ k.bits) : inot k (a : Int) = ((a ^^^ m : Nat) : Int) := by
  unfold inot
  rw [hk]
  simp only [Bool.false_eq_true, if_false]
  rw [hm, ixorU hk hmb ha, Nat.xor_comm]
theorem ishrU {k : IntKind} {a s : Nat} (h : s ≤ k.bits) : ishr k (a : Int) (s : Int) = ((a / 2 ^ s : Nat) : Int) := by
  rw [ishr_nat]; congr 3; exact Nat.min_eq_left h
end Go.Gb
namespace Go.Gb
open IntWalk

/-! What is whose: blocks by owners. -/

/-- A block with these cells. -/
def Blk (h : Heap) (b : Nat) (cs : List Value) : Prop := ∃ T, h b = some (.cells cs.toArray T (0, 0))

theorem Blk.cell {h : Heap} {b : Nat} {cs : List Value} (w : Blk h b cs) (o : Nat) : h.cell b o = cs[o]? := by
  obtain ⟨T, e⟩ := w
  unfold Heap.cell; rw [e]; simp
theorem Blk.can {h : Heap} {b : Nat} {cs : List Value} (w : Blk h b cs) {o n : Nat} (hn : o + n ≤ cs.length) : h.can b o n := by
  obtain ⟨T, e⟩ := w
  exact ⟨_, T, 0, 0, e, by simpa using hn, .inr (Nat.zero_le _)⟩
theorem Blk.put {h : Heap} {b : Nat} {cs : List Value} (w : Blk h b cs) (o : Nat) (vs : List Value) : Blk (h.put b o vs) b (setL cs o vs) := by
  obtain ⟨T, e⟩ := w
  exact ⟨T, by simp [Heap.put, e, putObj]⟩
theorem put_other (h : Heap) {b k : Nat} (o : Nat) (vs : List Value) (hk : k ≠ b) : h.put b o vs k = h k := by unfold Heap.put; rw [if_neg hk]
theorem Blk.new (h : Heap) (b : Nat) (cs : Array Value) (T : TypeId) : Blk (upd h b (.cells cs T (0, 0))) b cs.toList := ⟨T, by rw [upd_same]⟩
theorem Blk.keep {h h' : Heap} {b : Nat} {cs : List Value} (w : Blk h b cs) (e : h' b = h b) : Blk h' b cs := by obtain ⟨T, he⟩ := w; exact ⟨T, by rw [e, he]⟩
/-- All blocks of an owner are there. -/
def Live (F : Nat → Prop) (h : Heap) : Prop := ∀ k, F k → h k ≠ none
/-- Two owners have nothing in common. -/
def Apart (F G : Nat → Prop) : Prop := ∀ k, G k → ¬ F k

/-- From one state to another: only the owner's blocks have changed; what it has more is new. -/
structure Step (F : Nat → Prop) (h : Heap) (F' : Nat → Prop) (h' : Heap) : Prop where
  keep : ∀ k, ¬ F k → h k ≠ none → h' k = h k
  sub : ∀ k, F' k → F k ∨ h k = none
  live : ∀ k, h k ≠ none → h' k ≠ none
  dom : Live F h → Live F' h'

theorem Step.refl (F : Nat → Prop) (h : Heap) : Step F h F h := ⟨fun _ _ _ => rfl, fun _ h => .inl h, fun _ h => h, id⟩

theorem Step.trans {F F' F'' : Nat → Prop} {h h' h'' : Heap} (s : Step F h F' h') (t : Step F' h' F'' h'') : Step F h F'' h'' := by
  refine ⟨fun k hf hk => ?_, fun k hk => ?_, fun k hk => t.live k (s.live k hk), fun h => t.dom (s.dom h)⟩
  · rw [← s.keep k hf hk]
    refine t.keep k (fun hf' => ?_) (s.live k hk)
    rcases s.sub k hf' with h1 | h1
    · exact hf h1
    · exact hk h1
  · rcases t.sub k hk with h1 | h1
    · exact s.sub k h1
    · cases e : h k with
      | none => exact .inr rfl
      | some o => exact absurd h1 (s.live k (by rw [e]; simp))

theorem Step.part {F F' : Nat → Prop} {h h' h0 : Heap} (s : Step F h F' h') (p : Part h0 h) (hf : ∀ k, h0 k ≠ none → ¬ F k) : Part h0 h' := by
  intro k o ho
  have h1 := p k o ho
  rw [s.keep k (hf k (by rw [ho]; simp)) (by rw [h1]; simp), h1]

/-- Another owner's blocks are as they were. -/
theorem Step.same {F F' G : Nat → Prop} {h h' : Heap} (s : Step F h F' h') (hd : Apart F G) : ∀ k, G k → h k ≠ none → h' k = h k := fun k hk hn => s.keep k (hd k hk) hn
theorem Step.apart {F F' G : Nat → Prop} {h h' : Heap} (s : Step F h F' h') (hd : Apart F G) (hg : Live G h) : Apart F' G := fun k hk hf => by
  rcases s.sub k hf with h1 | h1
  · exact hd k hk h1
  · exact hg k hk h1
theorem Apart.symm {F G : Nat → Prop} (a : Apart F G) : Apart G F := fun k hk hg => a k hg hk

theorem put_live {h : Heap} {b k : Nat} (o : Nat) (vs : List Value) (hk : h k ≠ none) : h.put b o vs k ≠ none := by
  by_cases e : k = b
  · subst e; unfold Heap.put; rw [if_pos rfl]
    cases hh : h k with
    | none => exact absurd hh hk
    | some o => simp
  · rw [put_other h o vs e]; exact hk
theorem upd_live {h : Heap} {b k : Nat} (o : Obj) (hk : h k ≠ none) : upd h b o k ≠ none := by
  by_cases e : k = b
  · subst e; rw [upd_same]; simp
  · rw [upd_other h o e]; exact hk

theorem Step.put {F : Nat → Prop} {h : Heap} {b : Nat} (hb : F b) (o : Nat) (vs : List Value) : Step F h F (h.put b o vs) :=
  ⟨fun k hf _ => put_other h o vs (fun e => hf (by rw [e]; exact hb)), fun _ h => .inl h, fun _ hk => put_live o vs hk, fun hl k hk => put_live o vs (hl k hk)⟩

theorem Step.set {F : Nat → Prop} {h : Heap} {b : Nat} (hb : F b) (o : Obj) : Step F h F (upd h b o) :=
  ⟨fun k hf _ => upd_other h o (fun e => hf (by rw [e]; exact hb)), fun _ h => .inl h, fun _ hk => upd_live o hk, fun hl k hk => upd_live o (hl k hk)⟩

theorem Step.new {F : Nat → Prop} {h : Heap} {b : Nat} (hb : h b = none) (o : Obj) : Step F h (fun k => F k ∨ k = b) (upd h b o) := by
  refine ⟨fun k _ hk => upd_other h o (fun e => hk (by rw [e]; exact hb)), fun k hk => ?_, fun k hk => upd_live o hk, fun hl k hk => ?_⟩
  · rcases hk with h1 | h1
    · exact .inl h1
    · exact .inr (by rw [h1]; exact hb)
  · rcases hk with h1 | h1
    · exact upd_live o (hl k h1)
    · subst h1; rw [upd_same]; simp

/-- Something new that is nobody's. -/
theorem Step.lost {F : Nat → Prop} {h : Heap} {b : Nat} (hb : h b = none) (o : Obj) : Step F h F (upd h b o) :=
  ⟨fun k _ hk => upd_other h o (fun e => hk (by rw [e]; exact hb)), fun k hk => .inl hk, fun k hk => upd_live o hk, fun hl k hk => upd_live o (hl k hk)⟩

theorem part_live {h h' : Heap} (p : Part h h') {k : Nat} (hk : h k ≠ none) : h' k = h k := by
  cases e : h k with
  | none => exact absurd e hk
  | some o => exact p k o e

/-- A slice in a block of its owner's. -/
structure Sl (F : Nat → Prop) (h : Heap) (T : TypeId) (sz : Nat) (a : Option Addr) (n c : Nat) (vs : List Value) : Prop where
  len : vs.length = n * sz
  place : (a = none ∧ n = 0 ∧ c = 0) ∨ ∃ b cs, a = some ⟨b, 0, none⟩ ∧ F b ∧ h b = some (.cells cs T (0, 0)) ∧ cs.size = c * sz ∧ n ≤ c ∧ cs.toList.take (n * sz) = vs

theorem Sl.nil (F : Nat → Prop) (h : Heap) (T : TypeId) (sz : Nat) : Sl F h T sz none 0 0 [] := ⟨by simp, .inl ⟨rfl, rfl, rfl⟩⟩

theorem Sl.keep {F F' : Nat → Prop} {h h' : Heap} {T : TypeId} {sz n c : Nat} {a : Option Addr} {vs : List Value} (w : Sl F h T sz a n c vs) (hf : ∀ k, F k → F' k) (e : ∀ k, F k → h k ≠ none → h' k = h k) : Sl F' h' T sz a n c vs :=
  ⟨w.len, w.place.imp id fun ⟨b, cs, h1, h2, h3, h4⟩ => ⟨b, cs, h1, hf b h2, by rw [e b h2 (by rw [h3]; simp), h3], h4⟩⟩

/-- The heap without a slice's block. -/
def hdel (h : Heap) (a : Option Addr) : Heap := match a with
  | none => h
  | some x => fun k => if k = x.block then none else h k

theorem hdel_part (h : Heap) (a : Option Addr) : Part (hdel h a) h := by
  intro k o ho
  cases a with
  | none => exact ho
  | some x =>
    unfold hdel at ho
    dsimp only at ho
    split at ho
    · cases ho
    · exact ho

theorem Sl.own {F : Nat → Prop} {h : Heap} {T : TypeId} {sz n c : Nat} {a : Option Addr} {vs : List Value} (w : Sl F h T sz a n c vs) : Own (hdel h a) h T sz a n c vs :=
  ⟨hdel_part h a, w.len, w.place.imp id fun ⟨b, cs, h1, _, h3, h4, h5, h6⟩ => ⟨b, cs, h1, by rw [h1]; simp [hdel], h3, h4, h5, h6⟩⟩

theorem Own.sl {h0 h : Heap} {T : TypeId} {sz n c : Nat} {a : Option Addr} {vs : List Value} (w : Own h0 h T sz a n c vs) : Sl (fun k => h0 k = none) h T sz a n c vs :=
  ⟨w.len, w.place.imp id fun ⟨b, cs, h1, h2, h3, h4⟩ => ⟨b, cs, h1, h2, h3, h4⟩⟩

/-- What was done with the slice alone. -/
theorem Sl.of_own {F : Nat → Prop} {h h' : Heap} {T : TypeId} {sz n c n' c' : Nat} {a a' : Option Addr} {vs vs' : List Value} (w : Sl F h T sz a n c vs) (w' : Own (hdel h a) h' T sz a' n' c' vs') :
    Sl (fun k => F k ∨ ∃ x, a' = some x ∧ k = x.block) h' T sz a' n' c' vs' ∧ ((∀ k, h k ≠ none → h' k ≠ none) → Step F h (fun k => F k ∨ ∃ x, a' = some x ∧ k = x.block) h') := by
  refine ⟨⟨w'.len, w'.place.imp id fun ⟨b, cs, h1, _, h3, h4⟩ => ⟨b, cs, h1, .inr ⟨_, h1, rfl⟩, h3, h4⟩⟩, fun hl => ⟨fun k hf hk => ?_, fun k hk => ?_, hl, fun hlv k hk => ?_⟩⟩
  · have hd : hdel h a k = h k := by
      rcases w.place with ⟨rfl, _⟩ | ⟨b, cs, rfl, hb, _⟩
      · rfl
      · unfold hdel; dsimp only; rw [if_neg (fun e => hf (by rw [e]; exact hb))]
    cases e : h k with
    | none => exact absurd e hk
    | some o => rw [e] at hd; exact w'.part k o hd
  · rcases hk with h1 | ⟨x, hx, rfl⟩
    · exact .inl h1
    · rcases w'.place with ⟨e, _⟩ | ⟨b, cs, e, hb, _⟩
      · rw [e] at hx; cases hx
      · rw [e] at hx
        cases hx
        dsimp only
        rcases w.place with ⟨rfl, _⟩ | ⟨b2, cs2, rfl, hb2, _⟩
        · exact .inr hb
        · unfold hdel at hb
          dsimp only at hb
          split at hb
          · rename_i e2; exact .inl (e2 ▸ hb2)
          · exact .inr hb
  · rcases hk with h1 | ⟨x, hx, rfl⟩
    · exact hl k (hlv k h1)
    · rcases w'.place with ⟨e, _⟩ | ⟨b, cs, e, _, hb, _⟩
      · rw [e] at hx; cases hx
      · rw [e] at hx
        cases hx
        show h' b ≠ none
        rw [hb]; simp

/-- All that there was is there still. -/
theorem Own.live {h0 h h' : Heap} {T : TypeId} {sz n c : Nat} {a : Option Addr} {vs vs' : List Value} {n' c' : Nat} {a' : Option Addr} (w : Own (hdel h a) h T sz a n c vs) (w' : Own (hdel h a) h' T sz a' n' c' vs')
    (hs : ∀ x, a = some x → h' x.block ≠ none) : ∀ k, h k ≠ none → h' k ≠ none := by
  intro k hk
  cases a with
  | none => rw [part_live w'.part hk]; exact hk
  | some x =>
    by_cases e : k = x.block
    · rw [e]; exact hs x rfl
    · have : hdel h (some x) k = h k := by unfold hdel; dsimp only; rw [if_neg e]
      rw [part_live w'.part (by rw [this]; exact hk), this]; exact hk

/-- append to a slice that the call owns. -/
theorem Own.append2 {P : Program} {h0 h : Heap} {T : TypeId} {sz n c m : Nat} {a x : Option Addr} {vs new : List Value} {K : Option Addr → Nat → Nat → Heap → Prop}
    (w : Own h0 h T sz a n c vs) (hsz : cellSize P T = sz) (hpos : 0 < sz) (hlen : new.length = m * sz) (hone : oneCells new = true) (hr : readsAt h x new) (hz : (cellZero P T).length = sz)
    (hcap : (2 * (n + m) + 192) * cellBytes P T ≤ 2 ^ 48)
    (hk : ∀ a' c' h', Own h0 h' T sz a' (n + m) c' (vs ++ new) → (∀ k, h k ≠ none → h' k ≠ none) → K a' (n + m) c' h') : xsApp P T h a n c x m K := by
  refine ⟨new, by rw [hsz]; exact hlen, hone, hr, ?_, ?_⟩
  · intro hc
    rw [hsz]
    rcases w.place with ⟨rfl, rfl, rfl⟩ | ⟨b, cs, rfl, h1, h2, h3, h4, h5⟩
    · left
      have hm : m = 0 := by omega
      subst hm
      have hn : new = [] := List.eq_nil_of_length_eq_zero (by simpa using hlen)
      subst hn
      refine ⟨rfl, rfl, hk _ _ _ ?_ (fun _ hk => hk)⟩
      rw [List.append_nil]
      exact w
    · right
      have hle : n * sz + m * sz ≤ c * sz := by rw [← Nat.add_mul]; exact Nat.mul_le_mul_right _ hc
      refine ⟨b, 0, rfl, ⟨cs, T, 0, 0, h2, by omega, .inr (Nat.zero_le _)⟩, hk _ _ _ ⟨w.part.put h1 _ _, by rw [List.length_append, w.len, hlen, Nat.add_mul], .inr ⟨b, _, rfl, h1, by simp [Heap.put, h2, putObj]; rfl, ?_, hc, ?_⟩⟩ (fun _ hk => put_live _ _ hk)⟩
      · simp [setL_length, h3]
      · rw [← h5, Nat.add_mul]
        have := setL_append new cs.toList (0 + n * sz) (by simp; omega)
        rw [Nat.zero_add, hlen] at this
        simpa using this
  · intro hc
    rw [hsz]
    refine ⟨?_, vs, w.len, w.reads, ?_⟩
    · exact Nat.le_trans (Nat.mul_le_mul_right _ (nextcap_le hc)) hcap
    · intro b c' hb hc'
      refine hk _ _ _ ⟨w.part.upd' (w.part.none hb) _, by rw [List.length_append, w.len, hlen, Nat.add_mul], .inr ⟨b, _, rfl, w.part.none hb, upd_same _ _ _, ?_, hc', ?_⟩⟩ (fun _ hk => upd_live _ hk)
      · have hzl : (zeros P T (c' - (n + m))).length = (c' - (n + m)) * sz := by
          unfold zeros; simp [hz]
        simp only [List.size_toArray, List.length_append, w.len, hlen, hzl]
        rw [← Nat.add_mul, ← Nat.add_mul]; congr 1; omega
      · have hl2 : (vs ++ new).length = (n + m) * sz := by rw [List.length_append, w.len, hlen, Nat.add_mul]
        rw [← hl2]
        simp only [List.take_append_of_le_length (Nat.le_refl _), List.take_length]

/-- append to a slice of an owner's. -/
theorem Sl.append {P : Program} {F : Nat → Prop} {h : Heap} {T : TypeId} {sz n c m : Nat} {a x : Option Addr} {vs new : List Value} {K : Option Addr → Nat → Nat → Heap → Prop}
    (w : Sl F h T sz a n c vs) (hsz : cellSize P T = sz) (hpos : 0 < sz) (hlen : new.length = m * sz) (hone : oneCells new = true) (hr : readsAt h x new) (hz : (cellZero P T).length = sz)
    (hcap : (2 * (n + m) + 192) * cellBytes P T ≤ 2 ^ 48)
    (hk : ∀ a' c' F' h', Sl F' h' T sz a' (n + m) c' (vs ++ new) → Step F h F' h' → (∀ k, F k → F' k) → K a' (n + m) c' h') : xsApp P T h a n c x m K :=
  Own.append2 w.own hsz hpos hlen hone hr hz hcap fun a' c' h' w' hl => hk a' c' _ h' (w.of_own w').1 ((w.of_own w').2 hl) (fun _ h => .inl h)

/-- One element behind, which was laid ahead in a block of its own. -/
theorem Sl.snoc {P : Program} {F : Nat → Prop} {h : Heap} {T T' : TypeId} {sz n c b : Nat} {a : Option Addr} {vs new : List Value} {K : Option Addr → Nat → Nat → Heap → Prop} (w : Sl F h T sz a n c vs) (hb : h b = none)
    (hsz : cellSize P T = sz) (hpos : 0 < sz) (hlen : new.length = sz) (hone : oneCells new = true) (hz : (cellZero P T).length = sz) (hcap : (2 * (n + 1) + 192) * cellBytes P T ≤ 2 ^ 48)
    (hk : ∀ a' c' F' h', Sl F' h' T sz a' (n + 1) c' (vs ++ new) → Step F h F' h' → (∀ k, F k → F' k) → K a' (n + 1) c' h') : xsApp P T (upd h b (.cells new.toArray T' (0, 0))) a n c (some ⟨b, 0, none⟩) 1 K := by
  have s1 : Step F h F (upd h b (.cells new.toArray T' (0, 0))) := Step.lost hb _
  have w1 : Sl F (upd h b (.cells new.toArray T' (0, 0))) T sz a n c vs := w.keep (fun _ h => h) (fun k _ hk => upd_other h _ (fun e => hk (by rw [e]; exact hb)))
  exact w1.append hsz hpos (by rw [Nat.one_mul]; exact hlen) hone (readsAt_new T' new) hz hcap fun a' c' F' h' w' s hs => hk a' c' F' h' w' (s1.trans s) hs

/-- A slice's cells. -/
theorem Sl.base {F : Nat → Prop} {h : Heap} {T : TypeId} {sz n c : Nat} {a : Option Addr} {vs : List Value} {K : Nat → Nat → Prop} (w : Sl F h T sz a n c vs) (hn : 0 < n)
    (hk : ∀ b, F b → (∀ j, j < n * sz → h.cell b (0 + j) = vs[j]?) → (∀ o m, o + m ≤ n * sz → h.can b (0 + o) m) → (∀ o v, o < n * sz → Sl F (h.put b (0 + o) [v]) T sz a n c (vs.set o v)) → K b 0) : atBase a K := by
  rcases w.place with ⟨rfl, rfl, rfl⟩ | ⟨b, cs, rfl, h1, h2, h3, h4, h5⟩
  · omega
  · have hle : n * sz ≤ c * sz := Nat.mul_le_mul_right _ h4
    refine ⟨b, 0, rfl, hk b h1 (fun j hj => ?_) (fun o m ho => ⟨cs, T, 0, 0, h2, by omega, .inr (Nat.zero_le _)⟩) (fun o v ho => ⟨by rw [List.length_set]; exact w.len, .inr ⟨b, (cs.toList.set o v).toArray, rfl, h1, ?_, by simp [h3], h4, ?_⟩⟩)⟩
    · unfold Heap.cell
      rw [h2, Nat.zero_add]
      show cs[j]? = _
      rw [← h5, List.getElem?_take, if_pos hj]
      simp
    · simp [Heap.put, h2, putObj, setL]
    · rw [← h5]
      simp [List.take_set]

theorem Sl.reads {F : Nat → Prop} {h : Heap} {T : TypeId} {sz n c : Nat} {a : Option Addr} {vs : List Value} (w : Sl F h T sz a n c vs) : readsAt h a vs := w.own.reads

end Go.Gb
