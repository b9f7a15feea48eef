/- Own text for the seat: GbMem. -/
import Derived.Test.YtbphidfhcijbhaaGbXs
set_option linter.unusedVariables false
set_option linter.unusedSimpArgs false
set_option linter.unnecessarySimpa false
set_option linter.deprecated false
namespace Go.Gb

/-! Memory: cells loaded and stored. -/

def Heap.cell (h : Heap) (b o : Nat) : Option Value :=
  match h b with
  | some (.cells c _ _) => c[o]?
  | _ => none

def setL : List Value → Nat → List Value → List Value
  | cs, _, [] => cs
  | cs, o, v :: r => setL (cs.set o v) (o + 1) r

/-- As setL, where a place need not be known. -/
def lput (c : List Value) (o : Nat) (vs : List Value) : List Value := setL c o vs

theorem setL_length (vs : List Value) : ∀ (cs : List Value) (o : Nat), (setL cs o vs).length = cs.length := by
  induction vs with
  | nil => intro cs o; rfl
  | cons v r ih => intro cs o; unfold setL; rw [ih]; simp

def putObj (o : Nat) (vs : List Value) : Obj → Obj
  | .cells c T f => .cells (setL c.toList o vs).toArray T f
  | x => x

def Heap.put (h : Heap) (b o : Nat) (vs : List Value) : Heap := fun k => if k = b then (h b).map (putObj o vs) else h k

/-- So many cells may be written from one on. -/
def Heap.can (h : Heap) (b o n : Nat) : Prop :=
  ∃ c T lo hi, h b = some (.cells c T (lo, hi)) ∧ o + n ≤ c.size ∧ (o + n ≤ lo ∨ hi ≤ o)

def World.putCells (w : World) (b o : Nat) (vs : List Value) : World := { w with heap := w.heap.modify b (putObj o vs) }

theorem World.heap_putCells (w : World) (b o : Nat) (vs : List Value) (k : Nat) : (World.putCells w b o vs).heap[k]? = if k = b then (w.heap[k]?).map (putObj o vs) else w.heap[k]? := by
  unfold World.putCells
  simp only [Array.getElem?_modify]
  by_cases h : b = k
  · subst h; simp
  · rw [if_neg h, if_neg (fun e => h e.symm)]

theorem add_lit (b o i : Nat) : (⟨b, o, none⟩ : Addr).add i = ⟨b, o + i, none⟩ := by
  unfold Addr.add; split
  · rename_i h; subst h; rfl
  · rfl

theorem cell?_of {w : World} {b : Nat} {c : Array Value} {T : TypeId} {f : Nat × Nat} (h : w.heap[b]? = some (.cells c T f)) (o : Nat) : w.cell? ⟨b, o, none⟩ = c[o]? := by
  simp [World.cell?, h]

theorem cell?_sub {h : Heap} {w : World} (hs : Sub h w) {b o : Nat} {v : Value} (hc : h.cell b o = some v) : w.cell? ⟨b, o, none⟩ = some v := by
  unfold Heap.cell at hc
  split at hc
  · rename_i c T f hb
    rw [cell?_of (hs _ _ hb)]; exact hc
  · cases hc

theorem run_load_of {P : Program} {w : World} {b o : Nat} {v : Value} (h : w.cell? ⟨b, o, none⟩ = some v) : (load ⟨b, o, none⟩).run P w = .ok v w := by
  simp [h]

theorem run_loadCellsFrom {P : Program} {w : World} {b o : Nat} (n : Nat) : ∀ (i : Nat) (acc : Array Value) (vs : List Value), vs.length = n →
    (∀ j, j < vs.length → w.cell? ⟨b, o + i + j, none⟩ = vs[j]?) → (loadCellsFrom ⟨b, o, none⟩ i n acc).run P w = .ok (acc ++ vs.toArray) w := by
  induction n with
  | zero =>
    intro i acc vs hl _
    obtain rfl : vs = [] := List.eq_nil_of_length_eq_zero hl
    simp [loadCellsFrom]
  | succ n ih =>
    intro i acc vs hl hc
    cases vs with
    | nil => cases hl
    | cons v r =>
      have h0 := hc 0 (by simp)
      simp only [Nat.add_zero, List.getElem?_cons_zero] at h0
      unfold loadCellsFrom
      rw [Sem.run_bind, add_lit, run_load_of h0, Result.andThen_ok]
      rw [ih (i + 1) (acc.push v) r (by simpa using hl)]
      · congr 1
        simp
      · intro j hj
        have := hc (j + 1) (by simpa using hj)
        rw [List.getElem?_cons_succ] at this
        rw [← this]
        congr 2; omega

theorem run_loadCells {P : Program} {w : World} {b o n : Nat} {vs : List Value} (hl : vs.length = n) (hc : ∀ j, j < vs.length → w.cell? ⟨b, o + j, none⟩ = vs[j]?) :
    (loadCells ⟨b, o, none⟩ n).run P w = .ok vs.toArray w := by
  unfold loadCells
  rw [run_loadCellsFrom n 0 #[] vs hl (by simpa using hc)]
  simp

theorem run_isAgg {P : Program} {w : World} {t : TypeId} {d : TypeDesc} (h : P.underlying t = some d) : (isAgg t).run P w = .ok (isAggD d) w := by
  unfold isAgg
  rw [Sem.run_bind, run_underlying h, Result.andThen_ok]
  cases d <;> simp [isAggD]

theorem run_sizeOf {P : Program} {w : World} {t : TypeId} {i : TypeInfo} (h : P.info? t = some i) : (sizeOf t).run P w = .ok i.size w := by
  simp [sizeOf, typeInfo, h]

theorem run_loadVar_one {P : Program} {w : World} {t : TypeId} {d : TypeDesc} {b o : Nat} {v : Value} (ht : P.underlying t = some d) (hd : isAggD d = false)
    (h : w.cell? ⟨b, o, none⟩ = some v) : (loadVar t ⟨b, o, none⟩).run P w = .ok v w := by
  unfold loadVar
  rw [Sem.run_bind, run_isAgg ht, Result.andThen_ok, hd]
  simp [h]

theorem run_loadVar_agg {P : Program} {w : World} {t : TypeId} {d : TypeDesc} {i : TypeInfo} {b o : Nat} {vs : List Value} (ht : P.underlying t = some d) (hd : isAggD d = true)
    (hi : P.info? t = some i) (hl : vs.length = i.size) (h : ∀ j, j < vs.length → w.cell? ⟨b, o + j, none⟩ = vs[j]?) : (loadVar t ⟨b, o, none⟩).run P w = .ok (.agg vs.toArray) w := by
  unfold loadVar
  rw [Sem.run_bind, run_isAgg ht, Result.andThen_ok, hd]
  simp only [if_true]
  rw [Sem.run_bind, run_sizeOf hi, Result.andThen_ok, Sem.run_bind, run_loadCells hl h]
  simp

def oneCells : List Value → Bool
  | [] => true
  | v :: r => v.oneCell' && oneCells r

theorem run_storeCells {P : Program} (vs : List Value) : ∀ (w : World) (b o i : Nat) (c : Array Value) (T : TypeId) (lo hi : Nat), w.heap[b]? = some (.cells c T (lo, hi)) →
    oneCells vs = true → o + i + vs.length ≤ c.size → (o + i + vs.length ≤ lo ∨ hi ≤ o + i) → (storeCells ⟨b, o, none⟩ vs i).run P w = .ok () (World.putCells w b (o + i) vs) := by
  induction vs with
  | nil =>
    intro w b o i c T lo hi hb _ _ _
    simp only [storeCells, Sem.run_pure]
    congr 1
    unfold World.putCells
    have : w.heap.modify b (putObj (o + i) []) = w.heap := by
      apply Array.ext_getElem?
      intro k
      rw [Array.getElem?_modify]
      split
      · rename_i e; subst e
        rw [hb]; simp [putObj, setL]
      · rfl
    rw [this]
  | cons v r ih =>
    intro w b o i c T lo hi hb h1 hl hf
    simp only [oneCells, Bool.and_eq_true] at h1
    simp only [List.length_cons] at hl hf
    have hlt : o + i < c.size := by omega
    have hcell : w.cell? ⟨b, o + i, none⟩ = some c[o + i] := by rw [cell?_of hb]; simp [hlt]
    have hfz : w.frozen? ⟨b, o + i, none⟩ = false := by
      simp only [World.frozen?, hb]
      simp; omega
    simp only [storeCells]
    rw [Sem.run_bind, add_lit, run_store P w _ v _ h1.1, hcell]
    simp only [hfz, Bool.false_eq_true, if_false, Result.andThen_ok]
    have hb' : (w.setCell ⟨b, o + i, none⟩ v).heap[b]? = some (.cells (c.setIfInBounds (o + i) v) T (lo, hi)) := by
      simp [World.setCell, Array.getElem?_modify, hb]
    rw [ih _ b o (i + 1) _ T lo hi hb' h1.2 (by simp; omega) (by omega)]
    congr 1
    unfold World.putCells World.setCell
    simp only
    congr 1
    apply Array.ext_getElem?
    intro k
    simp only [Array.getElem?_modify]
    split
    · rename_i e; subst e
      rw [hb]
      simp [putObj, setL, Nat.add_assoc]
    · rfl

theorem run_storeVar {P : Program} {w : World} {t : TypeId} {i : TypeInfo} {b o : Nat} {v : Value} {c : Array Value} {T : TypeId} {lo hi : Nat} (hi' : P.info? t = some i)
    (hb : w.heap[b]? = some (.cells c T (lo, hi))) (hs : v.cells.size = i.size) (h1 : oneCells v.cells.toList = true) (hl : o + i.size ≤ c.size) (hf : o + i.size ≤ lo ∨ hi ≤ o) :
    (storeVar t ⟨b, o, none⟩ v).run P w = .ok () (World.putCells w b o v.cells.toList) := by
  unfold storeVar
  rw [Sem.run_bind, run_sizeOf hi', Result.andThen_ok]
  have hz : ¬ (v.cells.size ≠ i.size) := by simpa using hs
  rw [if_neg hz]
  have := run_storeCells (P := P) v.cells.toList w b o 0 c T lo hi hb h1 (by simpa [hs] using hl) (by simpa [hs] using hf)
  simpa using this

/-! What becomes of the state. -/

theorem Rep.lt {n : Nat} {st : St} {h : Heap} {β : Nat → Nat} {a : Act} {w : World} (r : Rep n st h β a w) {k : Nat} {cs : List Value} (hk : st.pget k = some cs) : β k < w.heap.size := by
  obtain ⟨_, T, hT⟩ := r.priv k cs hk
  exact lt_of_heap hT

theorem Rep.free {n : Nat} {st : St} {h : Heap} {β : Nat → Nat} {a : Act} {w : World} (r : Rep n st h β a w) : h w.heap.size = none := by
  cases hh : h w.heap.size with
  | none => rfl
  | some o => have := lt_of_heap (r.sub _ _ hh); omega

theorem heap_alloc (w : World) (o : Obj) (k : Nat) : (w.alloc o).heap[k]? = if k = w.heap.size then some o else w.heap[k]? := by
  show (w.heap.push o)[k]? = _
  rw [Array.getElem?_push]

/-- A new block of the heap. -/
theorem Rep.halloc {n : Nat} {st : St} {h : Heap} {β : Nat → Nat} {a : Act} {w : World} (r : Rep n st h β a w) (o : Obj) : Rep n st (upd h w.heap.size o) β a (w.alloc o) := by
  refine ⟨r.size, r.env, r.held, ?_, r.inj, ?_, r.defers⟩
  · intro k cs hk
    obtain ⟨hn, T, hT⟩ := r.priv k cs hk
    have hl := r.lt hk
    refine ⟨?_, T, ?_⟩
    · unfold upd; rw [if_neg (by omega)]; exact hn
    · rw [heap_alloc, if_neg (by omega)]; exact hT
  · intro k o' hk
    rw [heap_alloc]
    unfold upd at hk
    by_cases e : k = w.heap.size
    · rw [if_pos e] at hk ⊢; exact hk
    · rw [if_neg e] at hk ⊢; exact r.sub k o' hk

theorem Mid.halloc {n : Nat} {st : St} {h : Heap} {β : Nat → Nat} {a : Act} {w : World} (_r : Rep n st h β a w) (o : Obj) : Mid st β h w st β (upd h w.heap.size o) (w.alloc o) := by
  refine ⟨by simp, ?_, ?_, fun i hi => .inl ⟨i, hi, rfl⟩, rfl, rfl, rfl⟩
  · intro k hk _ _
    rw [heap_alloc, if_neg (by omega)]
  · intro k hk
    unfold upd at hk
    by_cases e : k = w.heap.size
    · exact .inr (by omega)
    · rw [if_neg e] at hk; exact .inl hk

/-- A new block of the function's own. -/
theorem Rep.palloc {n : Nat} {st : St} {h : Heap} {β : Nat → Nat} {a : Act} {w : World} (r : Rep n st h β a w) (d : Nat) (hd : st.pget d = none) (c : Array Value) (T : TypeId) :
    Rep n (st.pput d c.toList) h (fun k => if k = d then w.heap.size else β k) a (w.alloc (.cells c T)) := by
  refine ⟨r.size, ?_, ?_, ?_, ?_, ?_, r.defers⟩
  · intro t
    rw [get_pput]
    rcases r.env t with h1 | ⟨y, hy, hi⟩
    · exact .inl h1
    · right
      refine ⟨y, hy, ?_⟩
      cases hg : st.get t with
      | v x => rw [hg] at hi; exact hi
      | dead => trivial
      | p k off =>
        have hne : k ≠ d := fun e => r.held t k off hg (by rw [e]; exact hd)
        rw [hg] at hi
        simp only [XV.is] at hi ⊢
        rw [if_neg hne]; exact hi
  · intro t k off
    rw [get_pput, pget_pput]
    intro hg
    split
    · simp
    · exact r.held t k off hg
  · intro k cs hk
    rw [pget_pput] at hk
    by_cases e : d = k
    · subst e
      rw [if_pos rfl] at hk
      cases hk
      simp only [if_true]
      refine ⟨r.free, T, ?_⟩
      rw [heap_alloc, if_pos rfl]
    · rw [if_neg e] at hk
      obtain ⟨hn, T', hT⟩ := r.priv k cs hk
      have hl := r.lt hk
      have e' : ¬ k = d := fun x => e x.symm
      simp only [if_neg e']
      refine ⟨hn, T', ?_⟩
      rw [heap_alloc, if_neg (by omega)]; exact hT
  · intro i j hi hj
    rw [pget_pput] at hi hj
    intro he
    by_cases ei : i = d
    · by_cases ej : j = d
      · rw [ei, ej]
      · simp only [if_pos ei, if_neg ej] at he
        rw [if_neg (fun x => ej x.symm)] at hj
        obtain ⟨cs, hcs⟩ := Option.ne_none_iff_exists'.1 hj
        have := r.lt hcs
        omega
    · by_cases ej : j = d
      · simp only [if_neg ei, if_pos ej] at he
        rw [if_neg (fun x => ei x.symm)] at hi
        obtain ⟨cs, hcs⟩ := Option.ne_none_iff_exists'.1 hi
        have := r.lt hcs
        omega
      · simp only [if_neg ei, if_neg ej] at he
        rw [if_neg (fun x => ei x.symm)] at hi
        rw [if_neg (fun x => ej x.symm)] at hj
        exact r.inj i j hi hj he
  · intro k o hk
    rw [heap_alloc]
    have := lt_of_heap (r.sub k o hk)
    rw [if_neg (by omega)]; exact r.sub k o hk

theorem Mid.palloc {n : Nat} {st : St} {h : Heap} {β : Nat → Nat} {a : Act} {w : World} (_r : Rep n st h β a w) (d : Nat) (_hd : st.pget d = none) (c : Array Value) (T : TypeId) :
    Mid st β h w (st.pput d c.toList) (fun k => if k = d then w.heap.size else β k) h (w.alloc (.cells c T)) := by
  refine ⟨by simp, ?_, fun _ hk => .inl hk, ?_, rfl, rfl, rfl⟩
  · intro k hk _ _
    rw [heap_alloc, if_neg (by omega)]
  · intro i hi
    rw [pget_pput] at hi
    by_cases e : i = d
    · right; simp [e]
    · left
      rw [if_neg (fun x => e x.symm)] at hi
      exact ⟨i, hi, by simp [e]⟩

/-- A store into a block of the function's own. -/
theorem Rep.pstore {n : Nat} {st : St} {h : Heap} {β : Nat → Nat} {a : Act} {w : World} (r : Rep n st h β a w) {k : Nat} {cs : List Value} (hk : st.pget k = some cs) (o : Nat) (vs : List Value) :
    Rep n (st.pput k (setL cs o vs)) h β a (World.putCells w (β k) o vs) := by
  obtain ⟨hn, T, hT⟩ := r.priv k cs hk
  refine ⟨r.size, ?_, ?_, ?_, ?_, ?_, r.defers⟩
  · intro t; rw [get_pput]; exact r.env t
  · intro t j off
    rw [get_pput, pget_pput]
    intro hg
    split
    · simp
    · exact r.held t j off hg
  · intro j cs' hj
    rw [pget_pput] at hj
    by_cases e : k = j
    · subst e
      rw [if_pos rfl] at hj
      cases hj
      refine ⟨hn, T, ?_⟩
      rw [World.heap_putCells, if_pos rfl, hT]
      simp [putObj]
    · rw [if_neg e] at hj
      obtain ⟨hn', T', hT'⟩ := r.priv j cs' hj
      refine ⟨hn', T', ?_⟩
      rw [World.heap_putCells, if_neg, hT']
      intro eb
      exact e (r.inj k j (by rw [hk]; simp) (by rw [hj]; simp) eb.symm)
  · intro i j hi hj
    rw [pget_pput] at hi hj
    refine r.inj i j ?_ ?_
    · split at hi
      · rename_i e; rw [← e, hk]; simp
      · exact hi
    · split at hj
      · rename_i e; rw [← e, hk]; simp
      · exact hj
  · intro j o' hj
    rw [World.heap_putCells, if_neg]
    · exact r.sub j o' hj
    · intro e; rw [e] at hj; rw [hn] at hj; cases hj

theorem Mid.pstore {n : Nat} {st : St} {h : Heap} {β : Nat → Nat} {a : Act} {w : World} (_r : Rep n st h β a w) {k : Nat} {cs : List Value} (hk : st.pget k = some cs) (o : Nat) (vs : List Value) :
    Mid st β h w (st.pput k (setL cs o vs)) β h (World.putCells w (β k) o vs) := by
  refine ⟨by simp [World.putCells], ?_, fun _ hk => .inl hk, ?_, rfl, rfl, rfl⟩
  · intro j _ _ hp
    rw [World.heap_putCells, if_neg]
    exact fun e => hp k (by rw [hk]; simp) e.symm
  · intro i hi
    rw [pget_pput] at hi
    left
    refine ⟨i, ?_, rfl⟩
    split at hi
    · rename_i e; rw [← e, hk]; simp
    · exact hi

/-- A store into a block of the heap. -/
theorem Rep.hstore {n : Nat} {st : St} {h : Heap} {β : Nat → Nat} {a : Act} {w : World} (r : Rep n st h β a w) {b : Nat} (hb : h b ≠ none) (o : Nat) (vs : List Value) :
    Rep n st (h.put b o vs) β a (World.putCells w b o vs) := by
  refine ⟨r.size, r.env, r.held, ?_, r.inj, ?_, r.defers⟩
  · intro k cs hk
    obtain ⟨hn, T, hT⟩ := r.priv k cs hk
    have hne : ¬ β k = b := fun e => hb (by rw [← e]; exact hn)
    refine ⟨?_, T, ?_⟩
    · unfold Heap.put; rw [if_neg hne]; exact hn
    · rw [World.heap_putCells, if_neg hne]; exact hT
  · intro k o' hk
    unfold Heap.put at hk
    rw [World.heap_putCells]
    by_cases e : k = b
    · subst e
      rw [if_pos rfl] at hk ⊢
      cases hh : h k with
      | none => rw [hh] at hk; cases hk
      | some ob => rw [hh] at hk; rw [r.sub k ob hh]; exact hk
    · rw [if_neg e] at hk ⊢; exact r.sub k o' hk

theorem Mid.hstore {n : Nat} {st : St} {h : Heap} {β : Nat → Nat} {a : Act} {w : World} (_r : Rep n st h β a w) {b : Nat} (hb : h b ≠ none) (o : Nat) (vs : List Value) :
    Mid st β h w st β (h.put b o vs) (World.putCells w b o vs) := by
  refine ⟨by simp [World.putCells], ?_, ?_, fun i hi => .inl ⟨i, hi, rfl⟩, rfl, rfl, rfl⟩
  · intro k _ hn _
    rw [World.heap_putCells, if_neg]
    intro e; exact hb (by rw [← e]; exact hn)
  · intro k hk
    left
    unfold Heap.put at hk
    by_cases e : k = b
    · rw [e]; exact hb
    · rw [if_neg e] at hk; exact hk

end Go.Gb
