/- Own text for the seat: GbSl. -/
import Derived.Test.YtbphidfhcijbhaaGbInt
set_option linter.unusedVariables false
set_option linter.unusedSimpArgs false
set_option linter.unnecessarySimpa false
set_option linter.deprecated false
namespace Go.Gb

/-! Slices that a call owns: outside the heap that it began with. -/

theorem Part.refl (h : Heap) : Part h h := fun _ _ x => x
theorem Part.trans {a b c : Heap} (h : Part a b) (k : Part b c) : Part a c := fun i o x => k i o (h i o x)
theorem Part.upd {h : Heap} {b : Nat} (hb : h b = none) (o : Obj) : Part h (upd h b o) := by
  intro k o' hk
  unfold Go.Gb.upd
  rw [if_neg (fun e => by rw [e, hb] at hk; cases hk)]
  exact hk
theorem Part.upd' {h h' : Heap} {b : Nat} (p : Part h h') (hb : h b = none) (o : Obj) : Part h (Go.Gb.upd h' b o) := by
  intro k o' hk
  unfold Go.Gb.upd
  rw [if_neg (fun e => by rw [e, hb] at hk; cases hk)]
  exact p k o' hk
theorem Part.put {h h' : Heap} {b : Nat} (p : Part h h') (hb : h b = none) (o : Nat) (vs : List Value) : Part h (h'.put b o vs) := by
  intro k o' hk
  unfold Heap.put
  rw [if_neg (fun e => by rw [e, hb] at hk; cases hk)]
  exact p k o' hk
theorem Part.none {h h' : Heap} {b : Nat} (p : Part h h') (hb : h' b = none) : h b = none := by
  cases e : h b with
  | none => rfl
  | some o => rw [p b o e] at hb; cases hb

theorem upd_same (h : Heap) (b : Nat) (o : Obj) : upd h b o b = some o := by simp [upd]
theorem upd_other (h : Heap) {b k : Nat} (o : Obj) (hk : k ≠ b) : upd h b o k = h k := by simp [upd, hk]

/-- A slice, with its cells, in a block of its own. -/
structure Own (h0 h : Heap) (T : TypeId) (sz : Nat) (a : Option Addr) (n c : Nat) (vs : List Value) : Prop where
  part : Part h0 h
  len : vs.length = n * sz
  place : (a = none ∧ n = 0 ∧ c = 0) ∨ ∃ b cs, a = some ⟨b, 0, none⟩ ∧ h0 b = none ∧ h b = some (.cells cs T (0, 0)) ∧ cs.size = c * sz ∧ n ≤ c ∧ cs.toList.take (n * sz) = vs

theorem Own.nil {h0 h : Heap} {T : TypeId} {sz : Nat} (p : Part h0 h) : Own h0 h T sz none 0 0 [] := ⟨p, by simp, .inl ⟨rfl, rfl, rfl⟩⟩

theorem readsAt_part {h h' : Heap} {a : Option Addr} {vs : List Value} (hr : readsAt h a vs) (p : Part h h') : readsAt h' a vs := by
  rcases hr with rfl | ⟨b, o, rfl, hc⟩
  · exact .inl rfl
  · refine .inr ⟨b, o, rfl, fun j hj => ?_⟩
    have h1 := hc j hj
    have h2 : vs[j]? = some vs[j] := by simp [hj]
    rw [h2] at h1 ⊢
    unfold Heap.cell at h1 ⊢
    cases hb : h b with
    | none => rw [hb] at h1; cases h1
    | some ob => rw [hb] at h1; rw [p b ob hb]; exact h1

theorem Own.reads {h0 h : Heap} {T : TypeId} {sz n c : Nat} {a : Option Addr} {vs : List Value} (w : Own h0 h T sz a n c vs) : readsAt h a vs := by
  rcases w.place with ⟨rfl, rfl, rfl⟩ | ⟨b, cs, rfl, h1, h2, h3, h4, h5⟩
  · left; exact List.eq_nil_of_length_eq_zero (by simpa using w.len)
  · right
    refine ⟨b, 0, rfl, fun j hj => ?_⟩
    unfold Heap.cell
    rw [h2, Nat.zero_add]
    show cs[j]? = vs[j]?
    rw [← h5, List.getElem?_take, if_pos (by rw [← w.len]; exact hj)]
    simp

theorem readsAt_new {h : Heap} {b : Nat} (T : TypeId) (vs : List Value) : readsAt (upd h b (.cells vs.toArray T (0, 0))) (some ⟨b, 0, none⟩) vs := by
  right
  refine ⟨b, 0, rfl, fun j hj => ?_⟩
  unfold Heap.cell
  rw [upd_same]
  simp

theorem Own.keep {h0 h h' : Heap} {T : TypeId} {sz n c : Nat} {a : Option Addr} {vs : List Value} (w : Own h0 h T sz a n c vs) (p : Part h h') : Own h0 h' T sz a n c vs :=
  ⟨w.part.trans p, w.len, w.place.imp id fun ⟨b, cs, h1, h2, h3, h4⟩ => ⟨b, cs, h1, h2, p _ _ h3, h4⟩⟩

theorem growBy_le (need : Nat) : ∀ (r c : Nat), c < need → Builtin.growBy need r c ≤ need + (need + 768) / 4 := by
  intro r
  induction r with
  | zero => intro c h; simp [Builtin.growBy]; omega
  | succ r ih =>
    intro c h
    unfold Builtin.growBy
    rw [if_neg (by omega)]
    by_cases hc : c + (c + 768) / 4 < need
    · exact ih _ hc
    · cases r with
      | zero => simp [Builtin.growBy]; omega
      | succ r => unfold Builtin.growBy; rw [if_pos (by omega)]; omega

theorem nextcap_le {need c : Nat} (h : c < need) : Builtin.nextslicecap need c ≤ 2 * need + 192 := by
  unfold Builtin.nextslicecap
  split
  · omega
  · split
    · omega
    · have := growBy_le need 4 c h; omega

theorem setL_get (vs : List Value) : ∀ (cs : List Value) (o j : Nat), o + vs.length ≤ cs.length → (setL cs o vs)[j]? = if o ≤ j ∧ j < o + vs.length then vs[j - o]? else cs[j]? := by
  induction vs with
  | nil => intro cs o j h; simp [setL]; intro h1 h2; omega
  | cons v r ih =>
    intro cs o j h
    unfold setL
    simp only [List.length_cons] at h
    rw [ih _ _ _ (by simp; omega)]
    simp only [List.length_cons]
    by_cases h1 : j = o
    · subst h1
      rw [if_neg (by omega), if_pos (by omega)]
      have : j < cs.length := by omega
      simp [this]
    · rw [List.getElem?_set_ne (fun e => h1 e.symm)]
      by_cases h2 : o + 1 ≤ j ∧ j < o + 1 + r.length
      · rw [if_pos h2, if_pos (by omega)]
        obtain ⟨d, hd⟩ : ∃ d, j = o + 1 + d := ⟨j - (o + 1), by omega⟩
        subst hd
        rw [show o + 1 + d - o = d + 1 by omega, show o + 1 + d - (o + 1) = d by omega]
        simp
      · rw [if_neg h2, if_neg (by omega)]

theorem setL_append (vs : List Value) (cs : List Value) (o : Nat) (h : o + vs.length ≤ cs.length) : (setL cs o vs).take (o + vs.length) = cs.take o ++ vs := by
  apply List.ext_getElem?
  intro j
  rw [List.getElem?_take]
  by_cases hj : j < o + vs.length
  · rw [if_pos hj, setL_get _ _ _ _ h]
    by_cases h1 : o ≤ j
    · rw [if_pos ⟨h1, hj⟩, List.getElem?_append_right (by simp; omega)]
      congr 1; simp; omega
    · rw [if_neg (by omega), List.getElem?_append_left (by simp; omega), List.getElem?_take, if_pos (by omega)]
  · rw [if_neg hj, List.getElem?_eq_none]
    simp; omega

/-- append to a slice that the call owns. -/
theorem Own.append {P : Program} {h0 h : Heap} {T : TypeId} {sz n c m : Nat} {a x : Option Addr} {vs new : List Value} {K : Option Addr → Nat → Nat → Heap → Prop}
    (w : Own h0 h T sz a n c vs) (hsz : cellSize P T = sz) (hpos : 0 < sz) (hlen : new.length = m * sz) (hone : oneCells new = true) (hr : readsAt h x new) (hz : (cellZero P T).length = sz)
    (hcap : (2 * (n + m) + 192) * cellBytes P T ≤ 2 ^ 48)
    (hk : ∀ a' c' h', Own h0 h' T sz a' (n + m) c' (vs ++ new) → K a' (n + m) c' h') : xsApp P T h a n c x m K := by
  refine ⟨new, by rw [hsz]; exact hlen, hone, hr, ?_, ?_⟩
  · intro hc
    rw [hsz]
    rcases w.place with ⟨rfl, rfl, rfl⟩ | ⟨b, cs, rfl, h1, h2, h3, h4, h5⟩
    · left
      have hm : m = 0 := by omega
      subst hm
      have hn : new = [] := List.eq_nil_of_length_eq_zero (by simpa using hlen)
      subst hn
      refine ⟨rfl, rfl, hk _ _ _ ?_⟩
      rw [List.append_nil]
      exact w
    · right
      have hle : n * sz + m * sz ≤ c * sz := by rw [← Nat.add_mul]; exact Nat.mul_le_mul_right _ hc
      refine ⟨b, 0, rfl, ⟨cs, T, 0, 0, h2, by omega, .inr (Nat.zero_le _)⟩, hk _ _ _ ⟨w.part.put h1 _ _, by rw [List.length_append, w.len, hlen, Nat.add_mul], .inr ⟨b, _, rfl, h1, by simp [Heap.put, h2, putObj]; rfl, ?_, hc, ?_⟩⟩⟩
      · simp [setL_length, h3]
      · rw [← h5, Nat.add_mul]
        have := setL_append new cs.toList (0 + n * sz) (by simp; omega)
        rw [Nat.zero_add, hlen] at this
        simpa using this
  · intro hc
    rw [hsz]
    refine ⟨?_, vs, w.len, w.reads, ?_⟩
    · exact Nat.le_trans (Nat.mul_le_mul_right _ (nextcap_le hc)) hcap
    · intro b c' hb hc'
      refine hk _ _ _ ⟨w.part.upd' (w.part.none hb) _, by rw [List.length_append, w.len, hlen, Nat.add_mul], .inr ⟨b, _, rfl, w.part.none hb, upd_same _ _ _, ?_, hc', ?_⟩⟩
      · have hzl : (zeros P T (c' - (n + m))).length = (c' - (n + m)) * sz := by
          unfold zeros; simp [hz]
        simp only [List.size_toArray, List.length_append, w.len, hlen, hzl]
        rw [← Nat.add_mul, ← Nat.add_mul]; congr 1; omega
      · have hl2 : (vs ++ new).length = (n + m) * sz := by rw [List.length_append, w.len, hlen, Nat.add_mul]
        rw [← hl2]
        simp only [List.take_append_of_le_length (Nat.le_refl _), List.take_length]

/-- An owned slice of one-cell elements: its cells, and writing them. -/
theorem Own.at {h0 h : Heap} {T : TypeId} {n c : Nat} {a : Option Addr} {vs : List Value} (w : Own h0 h T 1 a n c vs) (hn : 0 < n) :
    ∃ b, a = some ⟨b, 0, none⟩ ∧ h0 b = none ∧ (∀ i, i < n → h.cell b (0 + i * 1) = vs[i]?) ∧ (∀ i, i < n → h.can b (0 + i * 1) 1) ∧
      (∀ i v, i < n → Own h0 (h.put b (0 + i * 1) [v]) T 1 a n c (vs.set i v)) := by
  rcases w.place with ⟨rfl, rfl, rfl⟩ | ⟨b, cs, rfl, h1, h2, h3, h4, h5⟩
  · omega
  · refine ⟨b, rfl, h1, ?_, ?_, ?_⟩
    · intro i hi
      unfold Heap.cell
      rw [h2]
      show cs[0 + i * 1]? = _
      rw [Nat.zero_add, Nat.mul_one, ← h5, List.getElem?_take, if_pos (by omega)]
      simp
    · intro i hi
      exact ⟨cs, T, 0, 0, h2, by omega, .inr (Nat.zero_le _)⟩
    · intro i v hi
      refine ⟨w.part.put h1 _ _, by simpa using w.len, .inr ⟨b, (cs.toList.set i v).toArray, rfl, h1, ?_, by simp [h3], h4, ?_⟩⟩
      · simp [Heap.put, h2, putObj, setL]
      · rw [← h5]
        simp [List.take_set]

theorem Own.base {h0 h : Heap} {T : TypeId} {n c : Nat} {a : Option Addr} {vs : List Value} {K : Nat → Nat → Prop} (w : Own h0 h T 1 a n c vs) (hn : 0 < n)
    (hk : ∀ b, (∀ i, i < n → h.cell b (0 + i * 1) = vs[i]?) → (∀ i, i < n → h.can b (0 + i * 1) 1) → (∀ i v, i < n → Own h0 (h.put b (0 + i * 1) [v]) T 1 a n c (vs.set i v)) → K b 0) : atBase a K := by
  obtain ⟨b, rfl, _, h1, h2, h3⟩ := w.at hn
  exact ⟨b, 0, rfl, hk b h1 h2 h3⟩

/-- A new slice of zeros. -/
theorem Own.make {P : Program} {h0 h : Heap} {T : TypeId} {n : Int} {z : Value} {K : Option Addr → Nat → Nat → Heap → Prop} (p : Part h0 h) (hz : cellZero P T = [z]) (h1 : 0 ≤ n) (h2 : (cellBytes P T : Int) * n ≤ 281474976710656) (h3 : n ≤ 9223372036854775807)
    (hk : ∀ a h', Own h0 h' T 1 a n.toNat n.toNat (List.replicate n.toNat z) → K a n.toNat n.toNat h') : xsMk P T h n n K := by
  have ez : ∀ m, zeros P T m = List.replicate m z := by
    intro m; unfold zeros; rw [hz]
    induction m with
    | zero => rfl
    | succ m ih => rw [List.replicate_succ, List.flatten_cons, ih]; rfl
  refine ⟨h1, Int.le_refl _, h3, h2, fun b hb => hk _ _ ⟨p.upd' (p.none hb) _, by simp, .inr ⟨b, _, rfl, p.none hb, upd_same _ _ _, by simp [ez], Nat.le_refl _, by simp [ez]⟩⟩⟩

end Go.Gb
