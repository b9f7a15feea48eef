/- Own texts for the seat: GbOps3. -/
import Derived.Test.YtcccjpahikgibaaDoorA4
import Derived.Laws.Slices
set_option linter.unusedVariables false
set_option linter.unusedSimpArgs false
set_option linter.unnecessarySimpa false
set_option linter.deprecated false
namespace Go.Gb

/-! Slices: what is read of them, grown, cut; bytes and strings. -/

/-- So many cells from a slice's first one on hold these values. -/
def readsAt (h : Heap) (a : Option Addr) (vs : List Value) : Prop :=
  vs = [] ∨ ∃ b o, a = some ⟨b, o, none⟩ ∧ ∀ j, j < vs.length → h.cell b (o + j) = vs[j]?

theorem run_firstCells {P : Program} {w : World} {h : Heap} {a : Option Addr} {size n l c : Nat} {vs : List Value} (hs : Sub h w) (hr : readsAt h a vs) (hl : vs.length = n * size) :
    (Builtin.firstCells size n (.slice a l c)).run P w = .ok vs.toArray w := by
  rcases hr with rfl | ⟨b, o, rfl, hc⟩
  · cases a with
    | none => simp [Builtin.firstCells]
    | some a =>
      have h0 : n * size = 0 := by simpa using hl.symm
      simp [Builtin.firstCells, h0, loadCells, loadCellsFrom]
  · simp only [Builtin.firstCells]
    refine run_loadCells hl ?_
    intro j hj
    have h1 := hc j hj
    have h2 : vs[j]? = some vs[j] := by simp [hj]
    rw [h2] at h1 ⊢
    exact cell?_sub hs h1

def cellSize (P : Program) (t : TypeId) : Nat := infoSz P t
def cellBytes (P : Program) (t : TypeId) : Nat :=
  match P.info? t with
  | some i => i.bytes
  | none => 0
def cellZero (P : Program) (t : TypeId) : List Value :=
  match P.info? t with
  | some i => match i.zero with
    | some z => z.cells.toList
    | none => []
  | none => []

/-- Zero values, so many. -/
def zeros (P : Program) (t : TypeId) (n : Nat) : List Value := (List.replicate n (cellZero P t)).flatten

/-- Is a type's row of the table whole: its zero value has as many cells as it says, one at least? -/
def rowOk (P : Program) (t : TypeId) : Bool :=
  match P.info? t with
  | some i => match i.zero with
    | some z => match Nat.beq z.cells.size i.size with
      | true => match Nat.beq i.size 0 with
        | true => false
        | false => match Nat.beq i.bytes 0 with
          | true => false
          | false => true
      | false => false
    | none => false
  | none => false

theorem rowOk_ok {P : Program} {t : TypeId} (h : rowOk P t = true) : ∃ i z, P.info? t = some i ∧ i.zero = some z ∧ z.cells.size = i.size ∧ 0 < i.size ∧ i.bytes ≠ 0 ∧ cellSize P t = i.size ∧ cellZero P t = z.cells.toList ∧ cellBytes P t = i.bytes := by
  unfold rowOk at h
  split at h
  · rename_i i hi
    split at h
    · rename_i z hz
      split at h
      · rename_i hs
        split at h
        · cases h
        · rename_i hn
          have hs' := Nat.eq_of_beq_eq_true hs
          split at h
          · cases h
          · rename_i hb
            refine ⟨i, z, hi, hz, hs', ?_, ?_, by simp [cellSize, infoSz, hi], by simp [cellZero, hi, hz], by simp [cellBytes, hi]⟩
            · rcases Nat.eq_zero_or_pos i.size with h0 | h0
              · rw [h0] at hn; cases hn
              · exact h0
            · intro e; rw [e] at hb; cases hb
      · cases h
    · cases h
  · cases h

theorem flatten_get (z : List Value) (hz : 0 < z.length) : ∀ (n i : Nat), i < n * z.length → ((List.replicate n z).flatten)[i]? = z[i % z.length]? := by
  intro n
  induction n with
  | zero => intro i h; simp at h
  | succ n ih =>
    intro i h
    rw [List.replicate_succ, List.flatten_cons]
    by_cases hi : i < z.length
    · rw [List.getElem?_append_left hi, Nat.mod_eq_of_lt hi]
    · have hge : z.length ≤ i := by omega
      rw [List.getElem?_append_right hge, ih (i - z.length) (by rw [Nat.succ_mul] at h; omega)]
      rw [Nat.mod_eq_sub_mod hge]

theorem zeroCells_eq (z : Array Value) (hz : 0 < z.size) (n : Nat) : Builtin.zeroCells z n = ((List.replicate n z.toList).flatten).toArray := by
  apply Array.ext_getElem?
  intro i
  unfold Builtin.zeroCells
  rw [Array.getElem?_map, Array.getElem?_range]
  by_cases h : i < n * z.size
  · rw [if_pos h]
    have hm : i % z.size < z.size := Nat.mod_lt _ hz
    simp only [Option.map_some, List.getElem?_toArray]
    rw [flatten_get z.toList (by simpa using hz) n i (by simpa using h)]
    simp [hm]
  · rw [if_neg h]
    simp
    omega

/-- append: what is given, in which heap. -/
def xsApp (P : Program) (T : TypeId) (h : Heap) (a : Option Addr) (n c : Nat) (x : Option Addr) (m : Nat) (K : Option Addr → Nat → Nat → Heap → Prop) : Prop :=
  ∃ new : List Value, new.length = m * cellSize P T ∧ oneCells new = true ∧ readsAt h x new ∧
    (n + m ≤ c → (a = none ∧ m = 0 ∧ K a (n + m) c h) ∨ ∃ b o, a = some ⟨b, o, none⟩ ∧ h.can b (o + n * cellSize P T) (m * cellSize P T) ∧ K a (n + m) c (h.put b (o + n * cellSize P T) new)) ∧
    (c < n + m → Builtin.nextslicecap (n + m) c * cellBytes P T ≤ 2 ^ 48 ∧ ∃ old : List Value, old.length = n * cellSize P T ∧ readsAt h a old ∧
      ∀ b c', h b = none → n + m ≤ c' → K (some ⟨b, 0, none⟩) (n + m) c' (upd h b (.cells (old ++ new ++ zeros P T (c' - (n + m))).toArray T (0, 0))))

theorem xsApp_ok {P : Program} {nn : Nat} {T S S' : TypeId} {ts : Array TypeId} {rt : TypeId} {st : St} {h : Heap} {β : Nat → Nat} {act : Act} {w : World} {a x : Option Addr} {n c m mc : Nat} {K : Option Addr → Nat → Nat → Heap → Prop}
    (r : Rep nn st h β act w) (hts : ts.toList = [S, S']) (hS : P.underlying S = some (.slice T)) {T' : TypeId} (hS' : P.underlying S' = some (.slice T')) (hrow : rowOk P T = true) (hk : xsApp P T h a n c x m K) :
    ∃ a' n' c' h' w', (Builtin.append_ ts rt #[.slice a n c, .slice x m mc]).run P w = .ok (.slice a' n' c') w' ∧ Rep nn st h' β act w' ∧ Mid st β h w st β h' w' ∧ KeepP st β w st β w' none ∧ K a' n' c' h' := by
  obtain ⟨i, z, hi, hz, hzs, hpos, hbz, e1, e2, e3⟩ := rowOk_ok hrow
  obtain ⟨new, hnl, hone, hread, hfit, hgrow⟩ := hk
  rw [e1] at hnl hfit hgrow
  rw [e3] at hgrow
  have t0 : ts[0]? = some S := by rw [← Array.getElem?_toList, hts]; rfl
  have t1 : ts[1]? = some S' := by rw [← Array.getElem?_toList, hts]; rfl
  have hfc := run_firstCells (P := P) (l := m) (c := mc) r.sub hread hnl
  by_cases hc : n + m ≤ c
  · rcases hfit hc with ⟨rfl, rfl, hkk⟩ | ⟨b, o, rfl, hcan, hkk⟩
    · have : new = [] := List.eq_nil_of_length_eq_zero (by simpa using hnl)
      subst this
      refine ⟨none, n + 0, c, h, w, ?_, r, Mid.refl _ _ _ _, KeepP.refl _ _ _ _, hkk⟩
      have hc' : n ≤ c := by omega
      simp [Builtin.append_, t0, t1, run_underlying hS, run_underlying hS', run_sizeOf hi, Builtin.lenOf, hc', hfc]
    · obtain ⟨cc, TT, lo, hi', hb, hle, hf⟩ := hcan
      have hne : h b ≠ none := by rw [hb]; simp
      have hst := run_storeCells (P := P) new w b (o + n * i.size) 0 cc TT lo hi' (r.sub _ _ hb) hone (by simp [hnl]; omega) (by simp [hnl]; omega)
      refine ⟨_, n + m, c, _, _, ?_, r.hstore hne (o + n * i.size) new, Mid.hstore r hne _ _, ?_, hkk⟩
      · simp only [Nat.add_zero] at hst
        simp [Builtin.append_, t0, t1, run_underlying hS, run_underlying hS', run_sizeOf hi, Builtin.lenOf, hc, hfc, add_lit, hst]
      · intro j hj _
        obtain ⟨cs, hcs⟩ := Option.ne_none_iff_exists'.1 hj
        refine ⟨rfl, rfl, ?_⟩
        rw [World.heap_putCells, if_neg]
        exact fun e => hne (by rw [← e]; exact (r.priv j cs hcs).1)
  · have hlt : c < n + m := by omega
    obtain ⟨hcap, old, hol, hrold, hkk⟩ := hgrow hlt
    have hfo := run_firstCells (P := P) (w := w) (size := i.size) (n := n) (l := n) (c := c) r.sub hrold hol
    have hno : ¬ (Builtin.nextslicecap (n + m) c * i.bytes > 2 ^ 48) := by omega
    have hforced : Question.forced (.appendCap (n + m) c T) = false := rfl
    have hwd : Rep nn st h β act { w with drawn := w.drawn + 1 } := ⟨r.size, r.env, r.held, r.priv, r.inj, r.sub, r.defers⟩
    generalize hcap' : (Question.appendCap (n + m) c T).cut (w.tape w.drawn (.appendCap (n + m) c T)) = c'
    have hge : n + m ≤ c' := by rw [← hcap']; simp [Question.cut]
    have hfree : h w.heap.size = none := r.free
    refine ⟨some ⟨w.heap.size, 0, none⟩, n + m, c', upd h w.heap.size (.cells (old ++ new ++ zeros P T (c' - (n + m))).toArray T (0, 0)), ({ w with drawn := w.drawn + 1 } : World).alloc (.cells (old ++ new ++ zeros P T (c' - (n + m))).toArray T), ?_, hwd.halloc _, ?_, ?_, hkk _ _ hfree hge⟩
    · have hfo' := run_firstCells (P := P) (w := { w with drawn := w.drawn + 1 }) (size := i.size) (n := n) (l := n) (c := c) hwd.sub hrold hol
      have hfc' := run_firstCells (P := P) (w := { w with drawn := w.drawn + 1 }) (l := m) (c := mc) hwd.sub hread hnl
      have hz0 : Builtin.zeroCells z.cells (c' - (n + m)) = (zeros P T (c' - (n + m))).toArray := by
        rw [zeroCells_eq _ (by omega)]; unfold zeros; rw [e2]
      simp [Builtin.append_, t0, t1, run_underlying hS, run_underlying hS', run_sizeOf hi, typeInfo, hi, Builtin.lenOf, hc, hno, hforced, hcap', hbz]
      have hfo2 : (Builtin.firstCells i.size n (.slice a n c)).run P w.drew = .ok old.toArray w.drew := hfo'
      have hfc2 : (Builtin.firstCells i.size m (.slice x m mc)).run P w.drew = .ok new.toArray w.drew := hfc'
      have hzv : (zeroValue T).run P w.drew = .ok z w.drew := by simp [zeroValue, typeInfo, hi, hz]
      have hnr : ∀ cells, (newRow T cells).run P w.drew = .ok ⟨w.heap.size, 0, none⟩ (w.drew.alloc (.cells cells T)) := by intro cells; simp [newRow]; rfl
      rw [hfo2, Result.andThen_ok, hfc2, Result.andThen_ok, hzv, Result.andThen_ok, hz0, hnr, Result.andThen_ok]
      simp
    · have := Mid.halloc r (.cells (old ++ new ++ zeros P T (c' - (n + m))).toArray T (0, 0))
      exact ⟨by simpa using this.size, fun k hk hn hp => by have := this.frame k hk hn hp; exact this, this.dom, this.pdom, rfl, rfl, rfl, rfl⟩
    · intro j hj _
      obtain ⟨cs, hcs⟩ := Option.ne_none_iff_exists'.1 hj
      have := r.lt hcs
      refine ⟨rfl, rfl, ?_⟩
      rw [heap_alloc, if_neg (by show ¬ β j = w.heap.size; omega)]

/-- append of a text's bytes. -/
def xsAppS (P : Program) (T : TypeId) (h : Heap) (a : Option Addr) (n c : Nat) (s : ByteArray) (K : Option Addr → Nat → Nat → Heap → Prop) : Prop :=
  ∃ new : List Value, new = s.data.toList.map (fun b => Value.int .u8 b.toNat) ∧ new.length = s.size * cellSize P T ∧ oneCells new = true ∧
    (n + s.size ≤ c → (a = none ∧ s.size = 0 ∧ K a (n + s.size) c h) ∨ ∃ b o, a = some ⟨b, o, none⟩ ∧ h.can b (o + n * cellSize P T) (s.size * cellSize P T) ∧ K a (n + s.size) c (h.put b (o + n * cellSize P T) new)) ∧
    (c < n + s.size → Builtin.nextslicecap (n + s.size) c * cellBytes P T ≤ 2 ^ 48 ∧ ∃ old : List Value, old.length = n * cellSize P T ∧ readsAt h a old ∧
      ∀ b c', h b = none → n + s.size ≤ c' → K (some ⟨b, 0, none⟩) (n + s.size) c' (upd h b (.cells (old ++ new ++ zeros P T (c' - (n + s.size))).toArray T (0, 0))))

theorem xsAppS_ok {P : Program} {nn : Nat} {T S S' : TypeId} {ts : Array TypeId} {rt : TypeId} {st : St} {h : Heap} {β : Nat → Nat} {act : Act} {w : World} {a : Option Addr} {n c : Nat} {s : ByteArray} {K : Option Addr → Nat → Nat → Heap → Prop}
    (r : Rep nn st h β act w) (hts : ts.toList = [S, S']) (hS : P.underlying S = some (.slice T)) (hS' : P.underlying S' = some .string) (hrow : rowOk P T = true) (hk : xsAppS P T h a n c s K) :
    ∃ a' n' c' h' w', (Builtin.append_ ts rt #[.slice a n c, .string s]).run P w = .ok (.slice a' n' c') w' ∧ Rep nn st h' β act w' ∧ Mid st β h w st β h' w' ∧ KeepP st β w st β w' none ∧ K a' n' c' h' := by
  obtain ⟨i, z, hi, hz, hzs, hpos, hbz, e1, e2, e3⟩ := rowOk_ok hrow
  obtain ⟨new, hnew, hnl, hone, hfit, hgrow⟩ := hk
  have hf0 : ∀ w : World, (Builtin.firstCells i.size s.size (.string s)).run P w = .ok new.toArray w := fun w => by
    have e : s.extract 0 s.size = s := by apply ByteArray.ext; simp [ByteArray.data_extract, ← ByteArray.size_data]
    simp [Builtin.firstCells, e, hnew]
    apply Array.ext'
    simp
  generalize hm : s.size = m at *
  rw [e1] at hnl hfit hgrow
  rw [e3] at hgrow
  have t0 : ts[0]? = some S := by rw [← Array.getElem?_toList, hts]; rfl
  have t1 : ts[1]? = some S' := by rw [← Array.getElem?_toList, hts]; rfl
  have hfc := hf0 w
  by_cases hc : n + m ≤ c
  · rcases hfit hc with ⟨rfl, rfl, hkk⟩ | ⟨b, o, rfl, hcan, hkk⟩
    · have : new = [] := List.eq_nil_of_length_eq_zero (by simpa using hnl)
      subst this
      refine ⟨none, n + 0, c, h, w, ?_, r, Mid.refl _ _ _ _, KeepP.refl _ _ _ _, hkk⟩
      have hc' : n ≤ c := by omega
      simp [Builtin.append_, t0, t1, run_underlying hS, run_underlying hS', run_sizeOf hi, Builtin.lenOf, hm, hc', hfc]
    · obtain ⟨cc, TT, lo, hi', hb, hle, hf⟩ := hcan
      have hne : h b ≠ none := by rw [hb]; simp
      have hst := run_storeCells (P := P) new w b (o + n * i.size) 0 cc TT lo hi' (r.sub _ _ hb) hone (by simp [hnl]; omega) (by simp [hnl]; omega)
      refine ⟨_, n + m, c, _, _, ?_, r.hstore hne (o + n * i.size) new, Mid.hstore r hne _ _, ?_, hkk⟩
      · simp only [Nat.add_zero] at hst
        simp [Builtin.append_, t0, t1, run_underlying hS, run_underlying hS', run_sizeOf hi, Builtin.lenOf, hm, hc, hfc, add_lit, hst]
      · intro j hj _
        obtain ⟨cs, hcs⟩ := Option.ne_none_iff_exists'.1 hj
        refine ⟨rfl, rfl, ?_⟩
        rw [World.heap_putCells, if_neg]
        exact fun e => hne (by rw [← e]; exact (r.priv j cs hcs).1)
  · have hlt : c < n + m := by omega
    obtain ⟨hcap, old, hol, hrold, hkk⟩ := hgrow hlt
    have hfo := run_firstCells (P := P) (w := w) (size := i.size) (n := n) (l := n) (c := c) r.sub hrold hol
    have hno : ¬ (Builtin.nextslicecap (n + m) c * i.bytes > 2 ^ 48) := by omega
    have hforced : Question.forced (.appendCap (n + m) c T) = false := rfl
    have hwd : Rep nn st h β act { w with drawn := w.drawn + 1 } := ⟨r.size, r.env, r.held, r.priv, r.inj, r.sub, r.defers⟩
    generalize hcap' : (Question.appendCap (n + m) c T).cut (w.tape w.drawn (.appendCap (n + m) c T)) = c'
    have hge : n + m ≤ c' := by rw [← hcap']; simp [Question.cut]
    have hfree : h w.heap.size = none := r.free
    refine ⟨some ⟨w.heap.size, 0, none⟩, n + m, c', upd h w.heap.size (.cells (old ++ new ++ zeros P T (c' - (n + m))).toArray T (0, 0)), ({ w with drawn := w.drawn + 1 } : World).alloc (.cells (old ++ new ++ zeros P T (c' - (n + m))).toArray T), ?_, hwd.halloc _, ?_, ?_, hkk _ _ hfree hge⟩
    · have hfo' := run_firstCells (P := P) (w := { w with drawn := w.drawn + 1 }) (size := i.size) (n := n) (l := n) (c := c) hwd.sub hrold hol
      have hfc' := hf0 { w with drawn := w.drawn + 1 }
      have hz0 : Builtin.zeroCells z.cells (c' - (n + m)) = (zeros P T (c' - (n + m))).toArray := by
        rw [zeroCells_eq _ (by omega)]; unfold zeros; rw [e2]
      simp [Builtin.append_, t0, t1, run_underlying hS, run_underlying hS', run_sizeOf hi, typeInfo, hi, Builtin.lenOf, hm, hc, hno, hforced, hcap', hbz]
      have hfo2 : (Builtin.firstCells i.size n (.slice a n c)).run P w.drew = .ok old.toArray w.drew := hfo'
      have hfc2 : (Builtin.firstCells i.size m (.string s)).run P w.drew = .ok new.toArray w.drew := hfc'
      have hzv : (zeroValue T).run P w.drew = .ok z w.drew := by simp [zeroValue, typeInfo, hi, hz]
      have hnr : ∀ cells, (newRow T cells).run P w.drew = .ok ⟨w.heap.size, 0, none⟩ (w.drew.alloc (.cells cells T)) := by intro cells; simp [newRow]; rfl
      rw [hfo2, Result.andThen_ok, hfc2, Result.andThen_ok, hzv, Result.andThen_ok, hz0, hnr, Result.andThen_ok]
      simp
    · have := Mid.halloc r (.cells (old ++ new ++ zeros P T (c' - (n + m))).toArray T (0, 0))
      exact ⟨by simpa using this.size, fun k hk hn hp => by have := this.frame k hk hn hp; exact this, this.dom, this.pdom, rfl, rfl, rfl, rfl⟩
    · intro j hj _
      obtain ⟨cs, hcs⟩ := Option.ne_none_iff_exists'.1 hj
      have := r.lt hcs
      refine ⟨rfl, rfl, ?_⟩
      rw [heap_alloc, if_neg (by show ¬ β j = w.heap.size; omega)]

/-- A slice of zeros. -/
def xsMk (P : Program) (T : TypeId) (h : Heap) (n c : Int) (K : Option Addr → Nat → Nat → Heap → Prop) : Prop :=
  0 ≤ n ∧ n ≤ c ∧ c ≤ 9223372036854775807 ∧ (cellBytes P T : Int) * c ≤ 281474976710656 ∧ ∀ b, h b = none → K (some ⟨b, 0, none⟩) n.toNat c.toNat (upd h b (.cells (zeros P T c.toNat).toArray T (0, 0)))

theorem wrap_in {n : Int} (h0 : 0 ≤ n) (h1 : n ≤ 9223372036854775807) : IntKind.i64.wrap n = n := by
  have hm : n % (18446744073709551616 : Int) = n := Int.emod_eq_of_lt h0 (by omega)
  simp [IntKind.wrap, IntKind.bits, IntKind.signed, hm]
  omega

theorem xsMk_ok {P : Program} {nn : Nat} {T S : TypeId} {st : St} {h : Heap} {β : Nat → Nat} {act : Act} {w : World} {n c : Int} {k1 k2 : IntKind} {K : Option Addr → Nat → Nat → Heap → Prop}
    (r : Rep nn st h β act w) (hS : P.underlying S = some (.slice T)) (hrow : rowOk P T = true) (hk : xsMk P T h n c K) :
    ∃ a' n' c' h' w', (Instr.makeSlice S (.int k1 n) (.int k2 c)).run P w = .ok (.slice a' n' c') w' ∧ Rep nn st h' β act w' ∧ Mid st β h w st β h' w' ∧ KeepP st β w st β w' none ∧ K a' n' c' h' := by
  obtain ⟨i, z, hi, hz, hzs, hpos, hbz, e1, e2, e3⟩ := rowOk_ok hrow
  obtain ⟨h0, h1, h2, h3, hkk⟩ := hk
  rw [e3] at h3
  have wn := wrap_in h0 (by omega)
  have wc := wrap_in (n := c) (by omega) h2
  have hz0 : Builtin.zeroCells z.cells c.toNat = (zeros P T c.toNat).toArray := by
    rw [zeroCells_eq _ (by omega)]; unfold zeros; rw [e2]
  refine ⟨some ⟨w.heap.size, 0, none⟩, n.toNat, c.toNat, _, w.alloc (.cells (zeros P T c.toNat).toArray T), ?_, r.halloc _, Mid.halloc r _, ?_, hkk _ r.free⟩
  · have n1 : ¬ (c < 0) := by omega
    have n2 : ¬ (281474976710656 < (i.bytes : Int) * c) := by omega
    have n3 : ¬ (n < 0) := by omega
    have n4 : ¬ (c < n) := by omega
    by_cases hc : c.toNat = 0
    · have hzr : zeros P T c.toNat = [] := by rw [hc]; rfl
      simp [Instr.makeSlice, run_underlying hS, asInt, asIntOf, typeInfo, hi, wn, wc, n1, n2, n3, n4, run_sizeOf hi, hc, newRow]
      rw [hc] at hzr
      rw [hzr]
      congr 2
      apply Array.ext'
      simp
    · have hsz : ¬ (c.toNat * i.size = 0) := by
        rw [Nat.mul_eq_zero]; omega
      have hz1 : (Array.range (c.toNat * i.size)).map (z.cells[· % z.cells.size]!) = (zeros P T c.toNat).toArray := by
        rw [← hz0, ← hzs]; rfl
      have hnr : ∀ cells, (newRow T cells).run P w = .ok ⟨w.heap.size, 0, none⟩ (w.alloc (.cells cells T)) := by intro cells; simp [newRow]
      rw [← hz1]
      simp [Instr.makeSlice, run_underlying hS, asInt, asIntOf, typeInfo, hi, wn, wc, n1, n2, n3, n4, run_sizeOf hi, hsz, zeroValue, hz, hnr]
  · intro j hj _
    obtain ⟨cs, hcs⟩ := Option.ne_none_iff_exists'.1 hj
    have := r.lt hcs
    refine ⟨rfl, rfl, ?_⟩
    rw [heap_alloc, if_neg (by omega)]

/-- A string of bytes. -/
def byteVals (bs : List UInt8) : List Value := bs.map fun b => .int .u8 b.toNat

def xsStr (h : Heap) (a : Option Addr) (n : Nat) (K : ByteArray → Prop) : Prop :=
  ∃ bs : List UInt8, bs.length = n ∧ readsAt h a (byteVals bs) ∧ K ⟨bs.toArray⟩

theorem push_bytes {P : Program} {w : World} (f : Value → ByteArray → Sem (ForInStep ByteArray)) (hf : ∀ (b : UInt8) s, (f (.int .u8 b.toNat) s).run P w = .ok (.yield (s.push b)) w) (bs : List UInt8) : ∀ (acc : ByteArray),
    (forIn (byteVals bs) acc f).run P w = .ok ⟨acc.data ++ bs.toArray⟩ w := by
  induction bs with
  | nil => intro acc; simp [byteVals]
  | cons b r ih =>
    intro acc
    simp only [byteVals, List.map_cons, List.forIn_cons]
    rw [Sem.run_bind, hf, Result.andThen_ok]
    have := ih (acc.push b)
    simp only [byteVals] at this
    simp only [this]
    congr 1
    show ByteArray.mk ((acc.data.push b) ++ r.toArray) = ByteArray.mk (acc.data ++ (b :: r).toArray)
    congr 1
    apply Array.ext'
    simp

theorem xsStr_ok {P : Program} {S T U : TypeId} {h : Heap} {w : World} {a : Option Addr} {n c : Nat} {K : ByteArray → Prop} (kT : P.underlying T = some (.int .u8))
    (hs : Sub h w) (hS : P.underlying S = some (.slice T)) (hU : P.underlying U = some .string) (hk : xsStr h a n K) : ∃ s, (convert S U (.slice a n c)).run P w = .ok (.string s) w ∧ K s := by
  obtain ⟨bs, hl, hr, hkk⟩ := hk
  refine ⟨_, ?_, hkk⟩
  have hcv : convert S U (.slice a n c) = convert S U (.slice a n c) := rfl
  unfold convert
  rw [Sem.run_bind, run_underlying hS, Result.andThen_ok, Sem.run_bind, run_underlying hU, Result.andThen_ok]
  dsimp only
  rw [Sem.run_bind, run_underlying kT, Result.andThen_ok]
  dsimp only
  unfold Conv.bytesToString
  cases a with
  | none =>
    have hb : bs = [] := by
      rcases hr with h0 | ⟨b, o, h0, _⟩
      · cases bs with
        | nil => rfl
        | cons b r => simp [byteVals] at h0
      · cases h0
    subst hb
    rfl
  | some a =>
    dsimp only
    have hlc : (loadCells a n).run P w = .ok (byteVals bs).toArray w := by
      have := run_firstCells (P := P) (w := w) (size := 1) (n := n) (l := n) (c := c) hs hr (by simp [byteVals, hl])
      simpa [Builtin.firstCells] using this
    rw [Sem.run_bind, hlc, Result.andThen_ok, Sem.run_bind, ← Array.forIn_toList]
    have key := fun f hf => push_bytes (P := P) (w := w) f hf bs ByteArray.empty
    rw [key]
    · simp only [Result.andThen_ok]
      show Result.ok _ w = _
      congr 2
      simp [ByteArray.empty, ByteArray.emptyWithCapacity]
      rfl
    · intro b s
      simp

/-- A bound of a slice: it lies between 0 and y; what it is where there is none. -/
def bnd (v : Option Int) (y d : Int) (K : Int → Prop) : Prop :=
  match v with
  | some i => (0 ≤ i ∧ i ≤ y) ∧ K i
  | none => K d

def sext (s : ByteArray) (l h : Int) : ByteArray := s.extract l.toNat h.toNat
def slBase (a : Option Addr) (c l : Int) (size : Nat) : Option Addr := if c = l then a else a.map (·.add (l.toNat * size))

def intOpd (st : St) (x : Option Operand) (K : Option Int → Prop) : Prop :=
  match x with
  | none => K none
  | some x => match st.opd x with
    | .v (.int _ i) => K (some i)
    | _ => False

def xsSlice (P : Program) (t : TypeId) (x : XV) (st : St) (lo hi mx : Option Operand) (K : Value → Prop) : Prop :=
  match mx with
  | some _ => False
  | none => intOpd st lo fun lo => intOpd st hi fun hi => match P.underlying t, x with
    | some .string, .v (.string s) => bnd hi s.size s.size fun h => bnd lo h 0 fun l => K (.string (sext s l h))
    | some (.slice e), .v (.slice a n c) => match P.info? e with
      | some ie => bnd hi c n fun h => bnd lo h 0 fun l => K (.slice (slBase a c l ie.size) (h - l).toNat (c - l).toNat)
      | none => False
    | _, _ => False

theorem intOpd_ok {n : Nat} {st : St} {h : Heap} {β : Nat → Nat} {a : Act} {w : World} (r : Rep n st h β a w) {x : Option Operand} {K : Option Int → Prop} (hk : intOpd st x K) :
    ∃ o, (match o with | none => x.map a.eval = none | some i => ∃ k, x.map a.eval = some (.int k i)) ∧ K o := by
  unfold intOpd at hk
  split at hk
  · exact ⟨none, rfl, hk⟩
  · rename_i x
    split at hk
    · rename_i k i hx
      exact ⟨some i, ⟨k, by simp [r.val hx]⟩, hk⟩
    · exact hk.elim

theorem run_bound {P : Program} {w : World} {k : IntKind} {i : Int} {y : Nat} {code : BoundsCode} (h0 : 0 ≤ i) (h1 : i ≤ y) : (Instr.sliceBound (.int k i) y code).run P w = .ok i.toNat w := by
  simp [Instr.sliceBound, asIntOf, h0, h1]

theorem xsSlice_ok {P : Program} {n : Nat} {t : TypeId} {x : XV} {lo hi mx : Option Operand} {st : St} {h : Heap} {K : Value → Prop} {β : Nat → Nat} {a : Act} {w : World} {y : Value}
    (r : Rep n st h β a w) (hx : x.is β y) (hk : xsSlice P t x st lo hi mx K) : ∃ v, (∀ w, (Instr.sliceAt t y (lo.map a.eval) (hi.map a.eval) (mx.map a.eval)).run P w = .ok v w) ∧ K v := by
  unfold xsSlice at hk
  split at hk
  · exact hk.elim
  · obtain ⟨l, hl, hk1⟩ := intOpd_ok r hk
    clear hk
    obtain ⟨u, hu, hk⟩ := intOpd_ok r hk1
    clear hk1
    -- the two bounds, of whatever length and capacity
    have bounds : ∀ (sl : Bool) (len cap : Nat) (K' : Int → Int → Prop), bnd u cap len (fun h => bnd l h 0 fun l => K' l h) → len ≤ cap ∨ u ≠ none ∨ True →
        ∃ l' h' : Int, 0 ≤ l' ∧ (l' ≤ h' ∨ l' = 0) ∧ 0 ≤ h' ∧ (∀ w, (Instr.sliceBounds sl len cap (lo.map a.eval) (hi.map a.eval) none).run P w = .ok (l'.toNat, h'.toNat, cap) w) ∧ K' l' h' := by
      intro sl len cap K' hb _
      cases u with
      | none =>
        cases l with
        | none => exact ⟨0, len, by omega, .inr rfl, by omega, (by intro w; simp at hl hu; simp [hl, hu, Instr.sliceBounds]), hb⟩
        | some l =>
          obtain ⟨k, hl⟩ := hl
          obtain ⟨⟨h0, h1⟩, hb⟩ := hb
          refine ⟨l, len, h0, .inl h1, by omega, ?_, hb⟩
          intro w
          simp at hu
          rw [hl]
          simp [hu, Instr.sliceBounds, run_bound h0 h1]
      | some u =>
        obtain ⟨k2, hu⟩ := hu
        obtain ⟨⟨g0, g1⟩, hb⟩ := hb
        cases l with
        | none =>
          refine ⟨0, u, by omega, .inr rfl, g0, ?_, hb⟩
          intro w
          simp at hl
          rw [hu]
          simp [hl, Instr.sliceBounds, run_bound g0 g1]
        | some l =>
          obtain ⟨k, hl⟩ := hl
          obtain ⟨⟨h0, h1⟩, hb⟩ := hb
          refine ⟨l, u, h0, .inl h1, g0, ?_, hb⟩
          intro w
          rw [hl, hu]
          simp [Instr.sliceBounds, run_bound g0 g1, run_bound (y := u.toNat) h0 (by omega)]
    split at hk
    · rename_i s ht
      have hy : y = .string s := hx
      subst hy
      obtain ⟨l', h', _, _, _, hrun, hkk⟩ := bounds false s.size s.size (fun (l h : Int) => K (Value.string (sext s l h))) hk (.inr (.inr trivial))
      refine ⟨_, ?_, hkk⟩
      intro w
      simp [Instr.sliceAt, Instr.slice, run_underlying ht, hrun, sext]
    · rename_i e aa nn c ht
      have hy : y = .slice aa nn c := hx
      subst hy
      split at hk
      · rename_i ie hie
        obtain ⟨l', h', h0, h1, h2, hrun, hkk⟩ := bounds true nn c (fun (l h : Int) => K (Value.slice (slBase aa c l ie.size) (h - l).toNat (c - l).toNat)) hk (.inr (.inr trivial))
        refine ⟨_, ?_, hkk⟩
        intro w
        have e1 : h'.toNat - l'.toNat = (h' - l').toNat := by omega
        have e2 : c - l'.toNat = ((c : Int) - l').toNat := by omega
        have e3 : (c = l'.toNat) ↔ ((c : Int) = l') := by omega
        simp [Instr.sliceAt, Instr.slice, run_underlying ht, hrun, run_sizeOf hie, slBase, e1, e2, e3]
      · exact hk.elim
    · exact hk.elim

/-- The bytes of a string, as a new slice. -/
def xsBytes (T : TypeId) (h : Heap) (s : ByteArray) (K : Option Addr → Nat → Nat → Heap → Prop) : Prop :=
  ∀ b c, h b = none → s.size ≤ c → K (some ⟨b, 0, none⟩) s.size c (upd h b (.cells (byteVals s.data.toList ++ List.replicate (c - s.size) (Value.int .u8 0)).toArray T (c, c + 1)))

theorem xsBytes_ok {P : Program} {nn : Nat} {S T U : TypeId} {st : St} {h : Heap} {β : Nat → Nat} {act : Act} {w : World} {s : ByteArray} {K : Option Addr → Nat → Nat → Heap → Prop}
    (r : Rep nn st h β act w) (hS : P.underlying S = some .string) (hU : P.underlying U = some (.slice T)) (hT : P.underlying T = some (.int .u8)) (hk : xsBytes T h s K) :
    ∃ a' n' c' h' w', (convert S U (.string s)).run P w = .ok (.slice a' n' c') w' ∧ Rep nn st h' β act w' ∧ Mid st β h w st β h' w' ∧ KeepP st β w st β w' none ∧ K a' n' c' h' := by
  have hforced : Question.forced (.appendCap s.size 0 T) = false := rfl
  have hwd : Rep nn st h β act w.drew := ⟨r.size, r.env, r.held, r.priv, r.inj, r.sub, r.defers⟩
  generalize hc : (Question.appendCap s.size 0 T).cut (w.tape w.drawn (.appendCap s.size 0 T)) = c
  have hge : s.size ≤ c := by rw [← hc]; simp [Question.cut]
  have hcells : (s.data.map fun b => Value.int .u8 b.toNat) ++ Array.replicate (c - s.size) (Value.int .u8 0) = (byteVals s.data.toList ++ List.replicate (c - s.size) (Value.int .u8 0)).toArray := by
    apply Array.ext'
    simp [byteVals]
  have hsz : (byteVals s.data.toList ++ List.replicate (c - s.size) (Value.int .u8 0)).toArray.size = c := by
    simp [byteVals]
    have : s.data.size = s.size := rfl
    omega
  refine ⟨some ⟨w.heap.size, 0, none⟩, s.size, c, _, w.drew.alloc (.cells (byteVals s.data.toList ++ List.replicate (c - s.size) (Value.int .u8 0)).toArray T (c, c + 1)), ?_, hwd.halloc _, ?_, ?_, hk _ _ r.free hge⟩
  · unfold convert
    rw [Sem.run_bind, run_underlying hS, Result.andThen_ok, Sem.run_bind, run_underlying hU, Result.andThen_ok]
    dsimp only
    rw [Sem.run_bind, run_underlying hT, Result.andThen_ok]
    dsimp only
    unfold Conv.stringToBytes
    rw [Sem.run_bind, run_choose, hforced]
    simp only [Bool.false_eq_true, if_false, Result.andThen_ok, hc, hcells]
    have hnr : (newRow T (byteVals s.data.toList ++ List.replicate (c - s.size) (Value.int .u8 0)).toArray).run P w.drew = .ok ⟨w.heap.size, 0, none⟩ (w.drew.alloc (.cells (byteVals s.data.toList ++ List.replicate (c - s.size) (Value.int .u8 0)).toArray T)) := by
      simp [newRow]; rfl
    have hwd' : ({ w with drawn := w.drawn + 1 } : World) = w.drew := rfl
    rw [hwd', Sem.run_bind, hnr, Result.andThen_ok]
    generalize (byteVals s.data.toList ++ List.replicate (c - s.size) (Value.int .u8 0)).toArray = cells at hsz
    have hms : (markStringish ⟨w.heap.size, 0, none⟩).run P (w.drew.alloc (.cells cells T)) = .ok () (w.drew.alloc (.cells cells T (c, c + 1))) := by
      have hsh : (w.drew.alloc (.cells cells T)).shape? w.heap.size = some (T, c) := by
        have e : (w.drew.alloc (.cells cells T)).heap[w.heap.size]? = some (.cells cells T) := by
          have := heap_alloc w.drew (.cells cells T) w.drew.heap.size
          rw [if_pos rfl] at this
          exact this
        unfold World.shape?
        rw [e]; simp [hsz]
      unfold markStringish
      rw [Sem.run_bind, run_shape, hsh, Result.andThen_ok]
      simp only [run_freeze]
      congr 1
      unfold World.freeze
      rw [if_neg (by omega)]
      show World.mk _ _ _ _ _ = World.mk _ _ _ _ _
      congr 1
      apply Array.ext_getElem?
      intro k
      have h1 := heap_alloc w.drew (.cells cells T) k
      have h2 := heap_alloc w.drew (.cells cells T (c, c + 1)) k
      rw [Array.getElem?_modify]
      show _ = (w.drew.alloc (.cells cells T (c, c + 1))).heap[k]?
      rw [h1, h2]
      by_cases e : w.heap.size = k
      · subst e
        have e1 : w.heap.size = w.drew.heap.size := rfl
        rw [if_pos rfl, if_pos e1, if_pos e1]
        simp
      · have e' : ¬ k = w.drew.heap.size := fun x => e x.symm
        rw [if_neg e, if_neg e', if_neg e']
    rw [Sem.run_bind, hms, Result.andThen_ok]
    rfl
  · have := Mid.halloc hwd (.cells (byteVals s.data.toList ++ List.replicate (c - s.size) (Value.int .u8 0)).toArray T (c, c + 1))
    exact ⟨this.size, this.frame, this.dom, this.pdom, rfl, rfl, rfl, rfl⟩
  · intro j hj _
    obtain ⟨cs, hcs⟩ := Option.ne_none_iff_exists'.1 hj
    have := r.lt hcs
    refine ⟨rfl, rfl, ?_⟩
    rw [heap_alloc, if_neg (by show ¬ β j = w.heap.size; omega)]; rfl

/-- Zero values, so many, cell by cell. -/
def zerosR : Nat → List Value → List Value
  | 0, _ => []
  | n + 1, z => z ++ zerosR n z
def zerosB (P : Program) (t : TypeId) (n : Nat) : List Value := zerosR n (cellZero P t)
theorem zerosB_eq (P : Program) (t : TypeId) (n : Nat) : zerosB P t n = zeros P t n := by
  unfold zerosB zeros
  induction n with
  | zero => rfl
  | succ n ih => rw [List.replicate_succ, List.flatten_cons, ← ih]; rfl

/-- A slice literal. -/
def xsBuildSlice (P : Program) (t : TypeId) (n : Nat) (parts : List (Nat × Operand)) (st : St) (h : Heap) (K : Value → Heap → Prop) : Prop :=
  match P.underlying t with
  | some (.slice e) => match rowOk P e with
    | true => match P.info? e with
      | some ie => match Nat.ble (n * ie.size) 16777216 with
        | true => match opdVals st parts with
          | some vs => match fillL (fun i => some (i * ie.size, ie.size)) (zerosB P e n) vs with
            | some cs => listK cs fun cs => ∀ b, h b = none → K (.slice (some ⟨b, 0, none⟩) n n) (upd h b (.cells cs.toArray e (0, 0)))
            | none => False
          | none => False
        | false => False
      | none => False
    | false => False
  | _ => False

theorem xsBuildSlice_ok {P : Program} {nn : Nat} {t : TypeId} {n : Nat} {parts : List (Nat × Operand)} {st : St} {h : Heap} {K : Value → Heap → Prop} {β : Nat → Nat} {a : Act} {w : World}
    (r : Rep nn st h β a w) (hk : xsBuildSlice P t n parts st h K) : ∃ v h' w', (Instr.buildSlice t n (parts.toArray.map fun (i, x) => (i, a.eval x))).run P w = .ok v w' ∧ Rep nn st h' β a w' ∧ Mid st β h w st β h' w' ∧ KeepP st β w st β w' none ∧ K v h' := by
  unfold xsBuildSlice at hk
  split at hk
  · rename_i e he
    split at hk
    · rename_i hrow
      obtain ⟨i, z, hi, hz, hzs, hpos, hbz, e1, e2, e3⟩ := rowOk_ok hrow
      split at hk
      · rename_i ie hie
        rw [hi] at hie
        cases hie
        split at hk
        · rename_i hble
          have hble' := Nat.le_of_ble_eq_true hble
          split at hk
          · rename_i vs hvs
            split at hk
            · rename_i cs hcs
              rw [zerosB_eq] at hcs
              have hv := opdVals_ok r parts vs hvs
              have hv2 : (parts.toArray.map fun (i, x) => (i, a.eval x)).toList = vs := by simpa using hv
              have hf := fill_of vs _ _ hcs
              refine ⟨_, _, w.alloc (.cells cs.toArray e), ?_, r.halloc _, Mid.halloc r _, ?_, listK_ok _ _ hk _ r.free⟩
              · have hno : ¬ (n * i.size > 2 ^ 24) := by omega
                have hz0 : Builtin.zeroCells z.cells n = (zeros P e n).toArray := by
                  rw [zeroCells_eq _ (by omega)]; unfold zeros; rw [e2]
                have hnr : ∀ cells, (newRow e cells).run P w = .ok ⟨w.heap.size, 0, none⟩ (w.alloc (.cells cells e)) := by intro cells; simp [newRow]
                unfold Instr.buildSlice
                rw [Sem.run_bind, run_underlying he, Result.andThen_ok]
                dsimp only
                rw [Sem.run_bind, run_sizeOf hi, Result.andThen_ok, hv2]
                rw [if_neg hno]
                by_cases hn : n * i.size = 0
                · have hn0 : n = 0 := by
                    rcases Nat.mul_eq_zero.1 hn with h | h
                    · exact h
                    · omega
                  subst hn0
                  have hzz : zeros P e 0 = [] := rfl
                  rw [hzz] at hf
                  have hra : (Array.range (0 * i.size)).map ((#[] : Array Value)[· % (#[] : Array Value).size]!) = #[] := by
                    apply Array.ext'; simp
                  rw [if_pos hn]
                  simp only [pure_bind, hra]
                  rw [hf]
                  simp [hnr]
                · rw [if_neg hn, Sem.run_bind]
                  have hzv : (zeroValue e).run P w = .ok z w := by simp [zeroValue, typeInfo, hi, hz]
                  simp only [Sem.run_bind, hzv, Result.andThen_ok, Sem.run_pure]
                  have hra : (Array.range (n * i.size)).map (z.cells[· % z.cells.size]!) = (zeros P e n).toArray := by
                    rw [← hz0, ← hzs]; rfl
                  rw [hra, hf]
                  simp [hnr]
              · intro j hj _
                obtain ⟨cs', hcs'⟩ := Option.ne_none_iff_exists'.1 hj
                have := r.lt hcs'
                refine ⟨rfl, rfl, ?_⟩
                rw [heap_alloc, if_neg (by omega)]
            · exact hk.elim
          · exact hk.elim
        · exact hk.elim
      · exact hk.elim
    · exact hk.elim
  · exact hk.elim

/-- Is it a type of bytes? -/
def isU8 (P : Program) (T : TypeId) : Bool :=
  match P.underlying T with
  | some (.int .u8) => true
  | _ => false

theorem isU8_ok {P : Program} {T : TypeId} (h : isU8 P T = true) : P.underlying T = some (.int .u8) := by
  unfold isU8 at h
  split at h
  · assumption
  · cases h

/-- append, of its arguments' types. -/
def xsAppT (P : Program) (ts : List TypeId) (h : Heap) (a : Option Addr) (n c : Nat) (x : Option Addr) (m : Nat) (K : Option Addr → Nat → Nat → Heap → Prop) : Prop :=
  match ts with
  | [S, S'] => match P.underlying S, P.underlying S' with
    | some (.slice T), some (.slice _) => match rowOk P T with
      | true => xsApp P T h a n c x m K
      | false => False
    | _, _ => False
  | _ => False

theorem xsAppT_ok {P : Program} {nn : Nat} {ts : Array TypeId} {rt : TypeId} {st : St} {h : Heap} {β : Nat → Nat} {act : Act} {w : World} {a x : Option Addr} {n c m mc : Nat} {K : Option Addr → Nat → Nat → Heap → Prop}
    (r : Rep nn st h β act w) (hk : xsAppT P ts.toList h a n c x m K) :
    ∃ a' n' c' h' w', (Builtin.append_ ts rt #[.slice a n c, .slice x m mc]).run P w = .ok (.slice a' n' c') w' ∧ Rep nn st h' β act w' ∧ Mid st β h w st β h' w' ∧ KeepP st β w st β w' none ∧ K a' n' c' h' := by
  unfold xsAppT at hk
  split at hk
  · rename_i S S' hts
    split at hk
    · rename_i T T' h1 h2
      split at hk
      · rename_i hr
        exact xsApp_ok r hts h1 h2 hr hk
      · exact hk.elim
    · exact hk.elim
  · exact hk.elim

/-- append of a text, of its arguments' types. -/
def xsAppST (P : Program) (ts : List TypeId) (h : Heap) (a : Option Addr) (n c : Nat) (s : ByteArray) (K : Option Addr → Nat → Nat → Heap → Prop) : Prop :=
  match ts with
  | [S, S'] => match P.underlying S, P.underlying S' with
    | some (.slice T), some .string => match rowOk P T with
      | true => xsAppS P T h a n c s K
      | false => False
    | _, _ => False
  | _ => False

theorem xsAppST_ok {P : Program} {nn : Nat} {ts : Array TypeId} {rt : TypeId} {st : St} {h : Heap} {β : Nat → Nat} {act : Act} {w : World} {a : Option Addr} {n c : Nat} {s : ByteArray} {K : Option Addr → Nat → Nat → Heap → Prop}
    (r : Rep nn st h β act w) (hk : xsAppST P ts.toList h a n c s K) :
    ∃ a' n' c' h' w', (Builtin.append_ ts rt #[.slice a n c, .string s]).run P w = .ok (.slice a' n' c') w' ∧ Rep nn st h' β act w' ∧ Mid st β h w st β h' w' ∧ KeepP st β w st β w' none ∧ K a' n' c' h' := by
  unfold xsAppST at hk
  split at hk
  · rename_i S S' hts
    split at hk
    · rename_i T h1 h2
      split at hk
      · rename_i hr
        exact xsAppS_ok r hts h1 h2 hr hk
      · exact hk.elim
    · exact hk.elim
  · exact hk.elim

end Go.Gb
