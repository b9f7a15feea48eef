/- Own texts for the seat: GbMap. -/
import Derived.Test.YtcccjpahikgibaaDoorA6
import Derived.MapKept
import Derived.Maps.RangeRun
set_option linter.unusedVariables false
set_option linter.unusedSimpArgs false
set_option linter.unnecessarySimpa false
set_option linter.deprecated false
namespace Go.Gb
open Go.MapKept (IsKey findNow_spec run_findKey bytes_beq sameNow_of_keys)

/-! Maps. -/

/-- A map's content: key, value, birth. -/
def mapO {κ : Type} (enc : κ → Value) (l : List (κ × Value × Nat)) (c : Nat) : Obj := .map (l.map fun e => { key := enc e.1, val := e.2.1, born := e.2.2 }).toArray c
def iterO (r since : Nat) (seen : List Nat) (c : Nat) : Obj := .mapIter (some r) since seen.toArray c
abbrev mnth {κ : Type} (l : List (κ × Value × Nat)) (j : Nat) : Option (κ × Value × Nat) := l[j]?
abbrev mset {κ : Type} (l : List (κ × Value × Nat)) (j : Nat) (e : κ × Value × Nat) : List (κ × Value × Nat) := l.set j e
abbrev madd {κ : Type} (l : List (κ × Value × Nat)) (e : κ × Value × Nat) : List (κ × Value × Nat) := l ++ [e]
abbrev mdel {κ : Type} (l : List (κ × Value × Nat)) (j : Nat) : List (κ × Value × Nat) := l.eraseIdx j
abbrev mlen {κ : Type} (l : List (κ × Value × Nat)) : Nat := l.length
abbrev snoc (l : List Nat) (b : Nat) : List Nat := l ++ [b]
def atMap (m : Option Nat) (K : Nat → Prop) : Prop := ∃ r, m = some r ∧ K r

def xsMapGet {κ : Type} (enc : κ → Value) (h : Heap) (m : Option Nat) (n : κ) (zero : Value) (s : Sh) (K : Value → Bool → Prop) : Prop :=
  atMap m fun r => ∃ (l : List (κ × Value × Nat)) (c : Nat), h r = some (mapO enc l c) ∧
    (∀ (j : Nat) (v : Value) (b : Nat), mnth l j = some (n, v, b) → resK s v fun v => K v true) ∧ ((∀ (j : Nat) (v : Value) (b : Nat), ¬ mnth l j = some (n, v, b)) → K zero false)

def xsMapSet {κ : Type} (enc : κ → Value) (h : Heap) (m : Option Nat) (n : κ) (x : Value) (K : Heap → Prop) : Prop :=
  atMap m fun r => ∃ (l : List (κ × Value × Nat)) (c : Nat), h r = some (mapO enc l c) ∧
    (∀ (j : Nat) (v : Value) (b : Nat), mnth l j = some (n, v, b) → K (upd h r (mapO enc (mset l j (n, x, b)) c))) ∧ ((∀ (j : Nat) (v : Value) (b : Nat), ¬ mnth l j = some (n, v, b)) → K (upd h r (mapO enc (madd l (n, x, c)) (c + 1))))

def xsMapDel {κ : Type} (enc : κ → Value) (h : Heap) (m : Option Nat) (n : κ) (K : Heap → Prop) : Prop :=
  atMap m fun r => ∃ (l : List (κ × Value × Nat)) (c : Nat), h r = some (mapO enc l c) ∧
    (∀ (j : Nat) (v : Value) (b : Nat), mnth l j = some (n, v, b) → K (upd h r (mapO enc (mdel l j) c))) ∧ ((∀ (j : Nat) (v : Value) (b : Nat), ¬ mnth l j = some (n, v, b)) → K (upd h r (mapO enc l c)))

def xsMapClear {κ : Type} (enc : κ → Value) (h : Heap) (m : Option Nat) (K : Heap → Prop) : Prop :=
  atMap m fun r => ∃ (l : List (κ × Value × Nat)) (c : Nat), h r = some (mapO enc l c) ∧ K (upd h r (mapO enc ([] : List (κ × Value × Nat)) c))

def xsMapLen {κ : Type} (enc : κ → Value) (h : Heap) (m : Option Nat) (K : Value → Prop) : Prop :=
  atMap m fun r => ∃ (l : List (κ × Value × Nat)) (c : Nat), h r = some (mapO enc l c) ∧ K (.int .i64 (mlen l))

def xsMapRange {κ : Type} (enc : κ → Value) (h : Heap) (m : Option Nat) (K : Value → Heap → Prop) : Prop :=
  atMap m fun r => ∃ (l : List (κ × Value × Nat)) (c : Nat), h r = some (mapO enc l c) ∧ ∀ b, h b = none → K (.pointer (some ⟨b, 0, none⟩)) (upd h b (iterO r c [] c))

def xsMapNext {κ : Type} (enc : κ → Value) (h : Heap) (it : Option Addr) (s : Sh) (K : Value → Heap → Prop) : Prop :=
  atBase it fun b o => o = 0 ∧ ∃ (r since c0 : Nat) (seen : List Nat), h b = some (iterO r since seen c0) ∧ ∃ (l : List (κ × Value × Nat)) (c : Nat), h r = some (mapO enc l c) ∧
    (∀ (j : Nat) (n : κ) (v : Value) (b' : Nat), mnth l j = some (n, v, b') → b' < since) ∧ since ≤ c0 ∧
    (∀ (j : Nat) (n : κ) (v : Value) (b' : Nat), mnth l j = some (n, v, b') → seen.elem b' = false → resK s v fun v => K (.tuple #[.bool true, enc n, v]) (upd h b (iterO r since (snoc seen b') c))) ∧
    ((∀ (j : Nat) (n : κ) (v : Value) (b' : Nat), mnth l j = some (n, v, b') → seen.elem b' = true) → K (.tuple #[.bool false]) h)

def xsMapEntry {κ : Type} (enc : κ → Value) (h : Heap) (it : Option Addr) (s : Sh) (K : Value → Prop) : Prop :=
  atBase it fun b o => o = 0 ∧ ∃ (r since c : Nat) (seen : List Nat) (l : List (κ × Value × Nat)) (j : Nat) (n : κ) (v : Value) (b' : Nat), h b = some (iterO r since (snoc seen b') c) ∧ h r = some (mapO enc l c) ∧
    mnth l j = some (n, v, b') ∧ (∀ (i : Nat) (n2 : κ) (v2 : Value), mnth l i = some (n2, v2, b') → i = j) ∧ resK s v fun v => K (.tuple #[enc n, v])

/-- Keys of a kind. -/
structure Keys {κ : Type} (enc : κ → Value) (d : TypeDesc) : Prop where
  is : ∀ n, IsKey d (enc n)
  inj : ∀ n n', enc n = enc n' → n = n'

/-- Keys of a type: they are checked, found, and stay. -/
structure KeysR {κ : Type} (P : Program) (kt : TypeId) (enc : κ → Value) : Prop where
  check : ∀ (w : World) (em : Bool) (n : κ), (Instr.checkKey em 10000 kt (enc n)).run P w = .ok () w
  find : ∀ (w : World) (l : List MapEntry) (n : κ), (∀ x ∈ l, ∃ m, x.key = enc m) →
    ((Instr.findKey kt (enc n) l).run P w = .ok none w ∧ ∀ x ∈ l, x.key ≠ enc n) ∨ ∃ j e, (Instr.findKey kt (enc n) l).run P w = .ok (some (j, e.val)) w ∧ l[j]? = some e ∧ e.key = enc n
  stays : ∀ (w : World) (n : κ), (Instr.keyThatStays (enc n) (enc n)).run P w = .ok (enc n) w
  inj : ∀ n n', enc n = enc n' → n = n'

section
variable {κ : Type} {enc : κ → Value}

theorem mapO_get {l : List (κ × Value × Nat)} {j : Nat} : ((l.map fun e => ({ key := enc e.1, val := e.2.1, born := e.2.2 } : MapEntry)))[j]? = (l[j]?).map fun e => { key := enc e.1, val := e.2.1, born := e.2.2 } := by simp

variable {P : Program} {nn : Nat} {st : St} {h : Heap} {β : Nat → Nat} {a : Act} {w : World}

/-- Another object in a block of the heap that is no row of cells. -/
theorem Rep.hset (r : Rep nn st h β a w) {b : Nat} (hb : h b ≠ none) (o : Obj) : Rep nn st (upd h b o) β a { w with heap := w.heap.setIfInBounds b o } := by
  have hlt : b < w.heap.size := by
    obtain ⟨x, hx⟩ := Option.ne_none_iff_exists'.1 hb
    exact lt_of_heap (r.sub b x hx)
  refine ⟨r.size, r.env, r.held, ?_, r.inj, ?_, r.defers⟩
  · intro k cs hk
    obtain ⟨hn, T, hT⟩ := r.priv k cs hk
    have hne : ¬ β k = b := fun e => hb (by rw [← e]; exact hn)
    refine ⟨by unfold upd; rw [if_neg hne]; exact hn, T, ?_⟩
    show (w.heap.setIfInBounds b o)[β k]? = _
    rw [Array.getElem?_setIfInBounds_ne (Ne.symm hne)]; exact hT
  · intro k o' hk
    show (w.heap.setIfInBounds b o)[k]? = _
    unfold upd at hk
    by_cases e : k = b
    · subst e
      rw [if_pos rfl] at hk
      cases hk
      rw [Array.getElem?_setIfInBounds_self_of_lt hlt]
    · rw [if_neg e] at hk
      rw [Array.getElem?_setIfInBounds_ne (Ne.symm e)]
      exact r.sub k o' hk

theorem Mid.hset {b : Nat} (hb : h b ≠ none) (o : Obj) : Mid st β h w st β (upd h b o) { w with heap := w.heap.setIfInBounds b o } := by
  refine ⟨by simp, ?_, ?_, fun i hi => .inl ⟨i, hi, rfl⟩, rfl, rfl, rfl, rfl⟩
  · intro k _ hn _
    show (w.heap.setIfInBounds b o)[k]? = _
    rw [Array.getElem?_setIfInBounds_ne]
    intro e; exact hb (by rw [e]; exact hn)
  · intro k hk
    left
    unfold upd at hk
    by_cases e : k = b
    · rw [e]; exact hb
    · rw [if_neg e] at hk; exact hk

theorem KeepP.hset (r : Rep nn st h β a w) {b : Nat} (hb : h b ≠ none) (o : Obj) (ex : Option Nat) : KeepP st β w st β { w with heap := w.heap.setIfInBounds b o } ex := by
  intro k hk _
  obtain ⟨cs, hcs⟩ := Option.ne_none_iff_exists'.1 hk
  refine ⟨rfl, rfl, ?_⟩
  show (w.heap.setIfInBounds b o)[β k]? = _
  rw [Array.getElem?_setIfInBounds_ne]
  intro e; exact hb (by rw [e]; exact (r.priv k cs hcs).1)

theorem KeepP.halloc (r : Rep nn st h β a w) (o : Obj) (ex : Option Nat) : KeepP st β w st β (w.alloc o) ex := by
  intro k hk _
  obtain ⟨cs, hcs⟩ := Option.ne_none_iff_exists'.1 hk
  refine ⟨rfl, rfl, ?_⟩
  rw [heap_alloc, if_neg]
  have := r.lt hcs
  omega

theorem sameBits_key {d : TypeDesc} {v : Value} (hk : IsKey d v) : Instr.sameBits 10000 v v = true := by
  cases d <;> cases v <;> simp [IsKey] at hk <;> simp [Instr.sameBits, bytes_beq]

/-- What is found of a key. -/
theorem KeysR.cases {kt : TypeId} (hk : KeysR P kt enc) (w : World) (l : List (κ × Value × Nat)) (n : κ) :
    ((Instr.findKey kt (enc n) ((l.map fun e => ({ key := enc e.1, val := e.2.1, born := e.2.2 } : MapEntry)).toArray.toList)).run P w = .ok none w ∧ ∀ (j : Nat) (v : Value) (b : Nat), ¬ mnth l j = some (n, v, b)) ∨
    ∃ (j : Nat) (v : Value) (b : Nat), (Instr.findKey kt (enc n) ((l.map fun e => ({ key := enc e.1, val := e.2.1, born := e.2.2 } : MapEntry)).toArray.toList)).run P w = .ok (some (j, v)) w ∧ mnth l j = some (n, v, b) := by
  have hall : ∀ x ∈ (l.map fun e => ({ key := enc e.1, val := e.2.1, born := e.2.2 } : MapEntry)), ∃ m, x.key = enc m := by
    intro x hx
    obtain ⟨e, _, rfl⟩ := List.mem_map.1 hx
    exact ⟨e.1, rfl⟩
  rcases hk.find w (l.map fun e => ({ key := enc e.1, val := e.2.1, born := e.2.2 } : MapEntry)) n hall with ⟨h1, h2⟩ | ⟨j, e, h1, h2, h3⟩
  · left
    refine ⟨by simpa using h1, fun j v b hj => ?_⟩
    exact h2 _ (List.mem_map.2 ⟨_, List.mem_of_getElem? hj, rfl⟩) rfl
  · right
    rw [mapO_get, Option.map_eq_some_iff] at h2
    obtain ⟨x, hx, rfl⟩ := h2
    refine ⟨j, x.2.1, x.2.2, by simpa using h1, ?_⟩
    have hn : x.1 = n := hk.inj _ _ h3
    rw [← hn]; exact hx

/-- Plain keys. -/
theorem Keys.r {kt : TypeId} {d : TypeDesc} (hk : Keys enc d) (hd : P.underlying kt = some d) : KeysR P kt enc where
  check := fun w em n => Go.MapKept.run_checkKey (P := P) (w := w) hd (hk.is n) em 9999
  find := fun w l n hall => by
    rcases findNow_spec (hk.is n) l 0 (fun x hx => by obtain ⟨m, e⟩ := hall x hx; rw [e]; exact hk.is m) with ⟨h1, h2⟩ | ⟨j, e, h1, h2, h3⟩
    · exact .inl ⟨run_findKey (P := P) (w := w) hd h1, h2⟩
    · exact .inr ⟨j, e, by have := run_findKey (P := P) (w := w) hd h1; rwa [Nat.zero_add] at this, h2, h3⟩
  stays := fun w n => by
    unfold Instr.keyThatStays
    rw [if_pos (sameBits_key (hk.is n))]; rfl
  inj := hk.inj

/-- Pairs of ints. -/
def encP (k : IntKind) (n : Int × Int) : Value := .agg #[.int k n.1, .int k n.2]

theorem run_part1 {P : Program} {w : World} {e : TypeId} {k : IntKind} {xs : Array Value} {o : Nat} {x : Int} (he : P.underlying e = some (.int k)) (hx : xs[o]? = some (.int k x)) : (part e xs o).run P w = .ok (.int k x) w := by
  unfold part
  simp [isAgg, run_underlying he, hx]

theorem run_sizeP {P : Program} {w : World} {e : TypeId} {i : TypeInfo} (hi : P.info? e = some i) (hs : i.size = 1) : (sizeOf e).run P w = .ok 1 w := by
  unfold sizeOf
  simp [typeInfo, hi, hs]

theorem run_eqPair {P : Program} {w : World} {k : IntKind} {kt e : TypeId} {i : TypeInfo} (hd : P.underlying kt = some (.array 2 e)) (he : P.underlying e = some (.int k)) (hi : P.info? e = some i) (hs : i.size = 1) (n m : Int × Int) :
    (Op.equal kt (encP k n) (encP k m)).run P w = .ok (decide (n = m)) w := by
  unfold Op.equal
  show (Op.equalIn (9999 + 1) kt (encP k n) (encP k m)).run P w = _
  unfold Op.equalIn encP
  have p : ∀ (x y : Int) (j : Nat), (#[Value.int k x, Value.int k y])[j]? = some (Value.int k (if j = 0 then x else y)) ∨ 2 ≤ j := by
    intro x y j
    match j with
    | 0 => left; rfl
    | 1 => left; rfl
    | j + 2 => right; omega
  have p0 : ∀ x y : Int, (part e #[Value.int k x, Value.int k y] (0 * 1)).run P w = .ok (.int k x) w := fun x y => run_part1 he rfl
  have p1 : ∀ x y : Int, (part e #[Value.int k x, Value.int k y] (1 * 1)).run P w = .ok (.int k y) w := fun x y => run_part1 he rfl
  have q : ∀ x y : Int, (Op.equalIn 9999 e (.int k x) (.int k y)).run P w = .ok (x == y) w := fun x y => by
    show (Op.equalIn (9998 + 1) e (.int k x) (.int k y)).run P w = _
    unfold Op.equalIn
    simp [run_underlying he]
  simp only [Sem.run_bind, run_underlying hd, Result.andThen_ok, run_sizeP hi hs, Std.Legacy.Range.forIn_eq_forIn_range', Std.Legacy.Range.size, Nat.sub_zero, Nat.add_one_sub_one, Nat.div_one]
  rw [show List.range' 0 2 = [0, 1] from rfl]
  simp only [List.forIn_cons, Sem.run_bind, p0, p1, q, Result.andThen_ok]
  obtain ⟨a, b⟩ := n
  obtain ⟨c, d⟩ := m
  by_cases h1 : a = c
  · by_cases h2 : b = d
    · simp [h1, h2, p1, q]
    · simp [h1, h2, p1, q]
  · simp [h1]

theorem run_checkPair {P : Program} {w : World} {k : IntKind} {kt e : TypeId} {i : TypeInfo} (hd : P.underlying kt = some (.array 2 e)) (he : P.underlying e = some (.int k)) (hi : P.info? e = some i) (hs : i.size = 1) (em : Bool) (n : Int × Int) :
    (Instr.checkKey em 10000 kt (encP k n)).run P w = .ok () w := by
  show (Instr.checkKey em (9999 + 1) kt (encP k n)).run P w = _
  unfold Instr.checkKey encP
  have p0 : ∀ x y : Int, (part e #[Value.int k x, Value.int k y] (0 * 1)).run P w = .ok (.int k x) w := fun x y => run_part1 he rfl
  have p1 : ∀ x y : Int, (part e #[Value.int k x, Value.int k y] (1 * 1)).run P w = .ok (.int k y) w := fun x y => run_part1 he rfl
  have q : ∀ x : Int, (Instr.checkKey em 9999 e (.int k x)).run P w = .ok () w := fun x => Go.MapKept.run_checkKey (P := P) (w := w) he (show IsKey (.int k) (.int k x) from rfl) em 9998
  simp only [Sem.run_bind, run_underlying hd, Result.andThen_ok, Std.Legacy.Range.forIn_eq_forIn_range', Std.Legacy.Range.size, Nat.sub_zero, Nat.add_one_sub_one, Nat.div_one]
  rw [show List.range' 0 2 = [0, 1] from rfl]
  simp only [List.forIn_cons, Sem.run_bind, run_sizeP hi hs, p0, p1, q, Result.andThen_ok, List.forIn_nil, Sem.run_pure]

theorem run_findPair {P : Program} {w : World} {k : IntKind} {kt e : TypeId} {i : TypeInfo} (hd : P.underlying kt = some (.array 2 e)) (he : P.underlying e = some (.int k)) (hi : P.info? e = some i) (hs : i.size = 1) (n : Int × Int) :
    ∀ (l : List MapEntry) (o : Nat), (∀ x ∈ l, ∃ m, x.key = encP k m) → ((Instr.findAsking kt (encP k n) l o).run P w = .ok none w ∧ ∀ x ∈ l, x.key ≠ encP k n) ∨
      ∃ j e, (Instr.findAsking kt (encP k n) l o).run P w = .ok (some (o + j, e.val)) w ∧ l[j]? = some e ∧ e.key = encP k n
  | [], o, _ => .inl ⟨by simp [Instr.findAsking], by simp⟩
  | x :: l, o, hall => by
    obtain ⟨m, hm⟩ := hall x (by simp)
    have eq := run_eqPair (w := w) hd he hi hs n m
    by_cases h : n = m
    · rw [decide_eq_true h] at eq
      exact .inr ⟨0, x, by simp [Instr.findAsking, hm, eq], rfl, by rw [hm, h]⟩
    · rw [decide_eq_false h] at eq
      rcases run_findPair (w := w) hd he hi hs n l (o + 1) (fun y hy => hall y (by simp [hy])) with ⟨h1, h2⟩ | ⟨j, e', h1, h2, h3⟩
      · refine .inl ⟨by simp [Instr.findAsking, hm, eq, h1], fun y hy => ?_⟩
        rcases List.mem_cons.1 hy with rfl | hy
        · rw [hm]
          intro e
          unfold encP at e
          simp at e
          exact h (Prod.ext e.1.symm e.2.symm)
        · exact h2 y hy
      · exact .inr ⟨j + 1, e', by simp [Instr.findAsking, hm, eq, h1, Nat.add_assoc, Nat.add_comm 1 j], by simpa using h2, h3⟩

theorem keys_pair {P : Program} {k : IntKind} {kt e : TypeId} {i : TypeInfo} (hd : P.underlying kt = some (.array 2 e)) (he : P.underlying e = some (.int k)) (hi : P.info? e = some i) (hs : i.size = 1) : KeysR P kt (encP k) where
  check := fun w em n => run_checkPair hd he hi hs em n
  find := fun w l n hall => by
    have e1 : (Instr.findKey kt (encP k n) l).run P w = (Instr.findAsking kt (encP k n) l).run P w := by
      cases l with
      | nil => simp [Instr.findKey, run_underlying hd, Instr.findNow, Instr.findAsking]
      | cons e es => simp [Instr.findKey, run_underlying hd, Instr.findNow, Instr.sameNow]
    rw [e1]
    have := run_findPair (w := w) hd he hi hs n l 0 hall
    simpa using this
  stays := fun w n => by
    have : Instr.sameBits 10000 (encP k n) (encP k n) = true := by
      show Instr.sameBits (9999 + 1) (encP k n) (encP k n) = true
      unfold Instr.sameBits encP
      simp [Instr.sameBits]
    unfold Instr.keyThatStays
    rw [if_pos this]; rfl
  inj := fun n n' h => by
    unfold encP at h
    simp at h
    exact Prod.ext h.1 h.2

theorem xsMapGet_ok {t kt et : TypeId} {m : Option Nat} {n : κ} {ok : Bool} {i : TypeInfo} {zero : Value} {s : Sh} {K : Value → Bool → Prop} (hk : KeysR P kt enc) (ht : P.underlying t = some (.map kt et)) (hi : P.info? et = some i) (hz : i.zero = some zero)
    (r : Rep nn st h β a w) (hx : xsMapGet enc h m n zero s K) : ∃ v b, (Instr.lookup t (.map m) (enc n) ok).run P w = .ok (if ok then .tuple #[v, .bool b] else v) w ∧ K v b := by
  obtain ⟨q, rfl, l, c, hq, h1, h2⟩ := hx
  have hw := r.sub q _ hq
  unfold mapO at hw
  have hget := Go.MapKept.run_getObj_map (P := P) hw
  have hzv : (zeroValue et).run P w = .ok zero w := by simp [zeroValue, typeInfo, hi, hz]
  have hck := fun e => hk.check w e n
  rcases hk.cases w l n with ⟨hf, hno⟩ | ⟨j, v, b, hf, hj⟩
  · refine ⟨zero, false, ?_, h2 hno⟩
    have hfk := hf
    unfold Instr.lookup
    simp only [Sem.run_bind, run_underlying ht, Result.andThen_ok, hget, Sem.run_pure, hck, hfk, hzv]
  · refine ⟨v, true, ?_, resK_ok (h1 j v b hj)⟩
    have hfk := hf
    unfold Instr.lookup
    simp only [Sem.run_bind, run_underlying ht, Result.andThen_ok, hget, Sem.run_pure, hck, hfk]

theorem modify_at {l : List (κ × Value × Nat)} {j : Nat} {n : κ} {v x : Value} {b : Nat} (hj : mnth l j = some (n, v, b)) :
    ((l.map fun e => ({ key := enc e.1, val := e.2.1, born := e.2.2 } : MapEntry)).toArray.modify j fun e => { e with key := enc n, val := x }) = (((mset l j (n, x, b)).map fun e => ({ key := enc e.1, val := e.2.1, born := e.2.2 } : MapEntry)).toArray) := by
  apply Array.ext'
  apply List.ext_getElem?
  intro i
  have hlt := (List.getElem?_eq_some_iff.1 hj).1
  simp only [Array.getElem?_toList, Array.getElem?_modify, List.getElem?_toArray, mapO_get, List.getElem?_set]
  by_cases e : j = i
  · subst e
    have hj' : l[j]? = some (n, v, b) := hj
    rw [if_pos rfl, if_pos rfl, if_pos hlt, hj']
    rfl
  · rw [if_neg e, if_neg e]

theorem xsMapSet_ok {t kt et : TypeId} {m : Option Nat} {n : κ} {x : Value} {K : Heap → Prop} (hk : KeysR P kt enc) (ht : P.underlying t = some (.map kt et)) (r : Rep nn st h β a w) (hx : xsMapSet enc h m n x K) :
    ∃ h' w', (Instr.mapUpdate t (.map m) (enc n) x).run P w = .ok () w' ∧ Rep nn st h' β a w' ∧ Mid st β h w st β h' w' ∧ KeepP st β w st β w' none ∧ K h' := by
  obtain ⟨q, rfl, l, c, hq, h1, h2⟩ := hx
  have hw := r.sub q _ hq
  have hne : h q ≠ none := by rw [hq]; simp
  unfold mapO at hw
  have hget := Go.MapKept.run_getObj_map (P := P) hw
  have hck := fun e => hk.check w e n
  rcases hk.cases w l n with ⟨hf, hno⟩ | ⟨j, v, b, hf, hj⟩
  · refine ⟨_, _, ?_, r.hset hne _, Mid.hset hne _, KeepP.hset r hne _ none, h2 hno⟩
    have hfk := hf
    unfold Instr.mapUpdate
    simp only [Sem.run_bind, run_underlying ht, Result.andThen_ok, hget, hck, hfk]
    rw [Go.MapKept.run_setObj_map _ hw]
    unfold mapO
    simp
  · refine ⟨_, _, ?_, r.hset hne _, Mid.hset hne _, KeepP.hset r hne _ none, h1 j v b hj⟩
    have hfk := hf
    have hstay : ∀ w, (Instr.keyThatStays (enc n) (enc n)).run P w = .ok (enc n) w := fun w => hk.stays w n
    have hold : ((((l.map fun e => ({ key := enc e.1, val := e.2.1, born := e.2.2 } : MapEntry)).toArray)[j]?).map (·.key)).getD (enc n) = enc n := by
      have hj' : l[j]? = some (n, v, b) := hj
      rw [List.getElem?_toArray, mapO_get, hj']; rfl
    unfold Instr.mapUpdate
    simp only [Sem.run_bind, run_underlying ht, Result.andThen_ok, hget, hck, hfk, hold, hstay]
    rw [Go.MapKept.run_setObj_map _ hw, modify_at hj]
    rfl

theorem xsMapDel_ok {ts : Array TypeId} {u t kt et : TypeId} {m : Option Nat} {n : κ} {K : Heap → Prop} (hts : ts[0]? = some t) (hk : KeysR P kt enc) (ht : P.underlying t = some (.map kt et)) (r : Rep nn st h β a w) (hx : xsMapDel enc h m n K) :
    ∃ h' w', (Builtin.delete_ ts u #[.map m, enc n]).run P w = .ok (.tuple #[]) w' ∧ Rep nn st h' β a w' ∧ Mid st β h w st β h' w' ∧ KeepP st β w st β w' none ∧ K h' := by
  obtain ⟨q, rfl, l, c, hq, h1, h2⟩ := hx
  have hw := r.sub q _ hq
  have hne : h q ≠ none := by rw [hq]; simp
  unfold mapO at hw
  have hget := Go.MapKept.run_getObj_map (P := P) hw
  have hck := fun e => hk.check w e n
  rcases hk.cases w l n with ⟨hf, hno⟩ | ⟨j, v, b, hf, hj⟩
  · refine ⟨_, _, ?_, r.hset hne _, Mid.hset hne _, KeepP.hset r hne _ none, h2 hno⟩
    have hfk := hf
    unfold Builtin.delete_
    simp only [hts, List.getElem?_toArray, List.getElem?_cons_zero, List.getElem?_cons_succ, Sem.run_bind, run_underlying ht, Result.andThen_ok, hget, hck, hfk]
    rw [Go.MapKept.run_setObj_map _ hw]
    rfl
  · refine ⟨_, _, ?_, r.hset hne _, Mid.hset hne _, KeepP.hset r hne _ none, h1 j v b hj⟩
    have hfk := hf
    have hlt := (List.getElem?_eq_some_iff.1 hj).1
    have her : ((l.map fun e => ({ key := enc e.1, val := e.2.1, born := e.2.2 } : MapEntry)).toArray.eraseIdxIfInBounds j) = ((mdel l j).map fun e => ({ key := enc e.1, val := e.2.1, born := e.2.2 } : MapEntry)).toArray := by
      unfold Array.eraseIdxIfInBounds
      rw [dif_pos (by simpa using hlt)]
      apply Array.ext'
      simp only [List.eraseIdx_toArray, List.toList_toArray]
      apply List.ext_getElem?
      intro i
      rw [List.getElem?_eraseIdx]
      simp only [mapO_get, List.getElem?_eraseIdx]
      split <;> rfl
    unfold Builtin.delete_
    simp only [hts, List.getElem?_toArray, List.getElem?_cons_zero, List.getElem?_cons_succ, Sem.run_bind, run_underlying ht, Result.andThen_ok, hget, hck, hfk]
    rw [Go.MapKept.run_setObj_map _ hw, her]
    rfl

theorem xsMapClear_ok {ts : Array TypeId} {u t kt et : TypeId} {m : Option Nat} {K : Heap → Prop} (hts : ts[0]? = some t) (ht : P.underlying t = some (.map kt et)) (r : Rep nn st h β a w) (hx : xsMapClear enc h m K) :
    ∃ h' w', (Builtin.clear_ ts u #[.map m]).run P w = .ok (.tuple #[]) w' ∧ Rep nn st h' β a w' ∧ Mid st β h w st β h' w' ∧ KeepP st β w st β w' none ∧ K h' := by
  obtain ⟨q, rfl, l, c, hq, h1⟩ := hx
  have hw := r.sub q _ hq
  have hne : h q ≠ none := by rw [hq]; simp
  unfold mapO at hw
  have hget := Go.MapKept.run_getObj_map (P := P) hw
  refine ⟨_, _, ?_, r.hset hne _, Mid.hset hne _, KeepP.hset r hne _ none, h1⟩
  unfold Builtin.clear_
  simp only [hts, List.getElem?_toArray, List.getElem?_cons_zero, Sem.run_bind, run_underlying ht, Result.andThen_ok, hget]
  rw [Go.MapKept.run_setObj_map _ hw]
  rfl

theorem xsMapLen_ok {ts : Array TypeId} {u t kt et : TypeId} {m : Option Nat} {K : Value → Prop} (hts : ts[0]? = some t) (ht : P.underlying t = some (.map kt et)) (r : Rep nn st h β a w) (hx : xsMapLen enc h m K) :
    ∃ v, (Builtin.len_ ts u #[.map m]).run P w = .ok v w ∧ K v := by
  obtain ⟨q, rfl, l, c, hq, h1⟩ := hx
  have hw := r.sub q _ hq
  unfold mapO at hw
  have hget := Go.MapKept.run_getObj_map (P := P) hw
  refine ⟨_, ?_, h1⟩
  unfold Builtin.len_
  simp only [hts, List.getElem?_toArray, List.getElem?_cons_zero, Sem.run_bind, run_underlying ht, Result.andThen_ok, hget]
  simp [goInt]

theorem xsMapRange_ok {t kt et : TypeId} {m : Option Nat} {K : Value → Heap → Prop} (ht : P.underlying t = some (.map kt et)) (r : Rep nn st h β a w) (hx : xsMapRange enc h m K) :
    ∃ v h' w', (Instr.range t (.map m)).run P w = .ok v w' ∧ Rep nn st h' β a w' ∧ Mid st β h w st β h' w' ∧ KeepP st β w st β w' none ∧ K v h' := by
  obtain ⟨q, rfl, l, c, hq, h1⟩ := hx
  have hw := r.sub q _ hq
  unfold mapO at hw
  have hget := Go.MapKept.run_getObj_map (P := P) hw
  refine ⟨.pointer (some ⟨w.heap.size, 0, none⟩), _, w.alloc (iterO q c [] c), ?_, r.halloc _, Mid.halloc r _, KeepP.halloc r _ none, h1 _ r.free⟩
  unfold Instr.range
  simp only [Sem.run_bind, run_underlying ht, Result.andThen_ok, hget, Sem.run_pure]
  rfl

theorem elem_contains (seen : List Nat) (b : Nat) : seen.toArray.contains b = seen.elem b := by simp [List.elem_eq_contains]

theorem xsMapNext_ok {ty : TypeId} {it : Option Addr} {s : Sh} {K : Value → Heap → Prop} (r : Rep nn st h β a w) (hx : xsMapNext enc h it s K) :
    ∃ v h' w', (Instr.next (.pointer it) false ty).run P w = .ok v w' ∧ Rep nn st h' β a w' ∧ Mid st β h w st β h' w' ∧ KeepP st β w st β w' none ∧ K v h' := by
  obtain ⟨b, o, rfl, rfl, q, since, c0, seen, hb, l, c, hq, hold, hsc, h1, h2⟩ := hx
  have hwb := r.sub b _ hb
  have hwq := r.sub q _ hq
  have hne : h b ≠ none := by rw [hb]; simp
  unfold iterO at hwb
  unfold mapO at hwq
  rcases run_next_at (P := P) w ty b q since c0 seen.toArray _ c hwb hwq (fun x hx => by
      simp only [List.toList_toArray] at hx
      obtain ⟨e, he, rfl⟩ := List.mem_map.1 hx
      obtain ⟨j, hj⟩ := List.getElem?_of_mem he
      exact hold j e.1 e.2.1 e.2.2 hj) hsc with ⟨hz, hrun⟩ | ⟨e, he, w1, hal, hrun⟩
  · refine ⟨_, h, w, hrun, r, Mid.refl _ _ _ _, KeepP.refl _ _ _ _, h2 fun j n v b' hj => ?_⟩
    have hmem : ({ key := enc n, val := v, born := b' } : MapEntry) ∈ (l.map fun e => ({ key := enc e.1, val := e.2.1, born := e.2.2 } : MapEntry)).toArray := by
      simp only [List.mem_toArray]
      exact List.mem_map.2 ⟨_, List.mem_of_getElem? hj, rfl⟩
    cases hel : seen.elem b' with
    | true => rfl
    | false =>
      have : ({ key := enc n, val := v, born := b' } : MapEntry) ∈ leftOf (l.map fun e => ({ key := enc e.1, val := e.2.1, born := e.2.2 } : MapEntry)).toArray seen.toArray := by
        unfold leftOf
        rw [Array.mem_filter]
        exact ⟨hmem, by rw [elem_contains, hel]; rfl⟩
      rw [Array.eq_empty_of_size_eq_zero hz] at this
      simp at this
  · have hel : e ∈ leftOf (l.map fun e => ({ key := enc e.1, val := e.2.1, born := e.2.2 } : MapEntry)).toArray seen.toArray := by simpa using he
    unfold leftOf at hel
    rw [Array.mem_filter] at hel
    obtain ⟨hmem, hns⟩ := hel
    simp only [List.mem_toArray] at hmem
    obtain ⟨x, hx, rfl⟩ := List.mem_map.1 hmem
    obtain ⟨j, hj⟩ := List.getElem?_of_mem hx
    rw [elem_contains] at hns
    have hr1 : Rep nn st h β a w1 ∧ Mid st β h w st β h w1 ∧ KeepP st β w st β w1 none := by
      rcases hal with rfl | rfl
      · exact ⟨r, Mid.refl _ _ _ _, KeepP.refl _ _ _ _⟩
      · exact ⟨⟨r.size, r.env, r.held, r.priv, r.inj, r.sub, r.defers⟩, ⟨Nat.le_refl _, fun _ _ _ _ => rfl, fun _ hk => .inl hk, fun i hi => .inl ⟨i, hi, rfl⟩, rfl, rfl, rfl, rfl⟩, fun _ _ _ => ⟨rfl, rfl, rfl⟩⟩
    obtain ⟨r1, m1, k1⟩ := hr1
    have e1 : (.mapIter (some q) since (seen.toArray.push x.2.2) c : Obj) = iterO q since (snoc seen x.2.2) c := by unfold iterO; simp
    refine ⟨_, upd h b (iterO q since (snoc seen x.2.2) c), { w1 with heap := w1.heap.setIfInBounds b (iterO q since (snoc seen x.2.2) c) }, ?_, r1.hset hne _, ?_, ?_, resK_ok (h1 j x.1 x.2.1 x.2.2 hj (by simpa using hns))⟩
    · rw [hrun, e1]; rfl
    · have m2 : Mid st β h w1 st β (upd h b (iterO q since (snoc seen x.2.2) c)) { w1 with heap := w1.heap.setIfInBounds b (iterO q since (snoc seen x.2.2) c) } := Mid.hset hne _
      rcases hal with rfl | rfl
      · exact m2
      · exact ⟨m2.size, m2.frame, m2.dom, m2.pdom, m2.os, m2.output, m2.tape, m2.md⟩
    · have k2 := KeepP.hset r1 hne (iterO q since (snoc seen x.2.2) c) none
      rcases hal with rfl | rfl
      · exact k2
      · exact k2

theorem xsMapEntry_ok {it : Option Addr} {s : Sh} {K : Value → Prop} (r : Rep nn st h β a w) (hx : xsMapEntry enc h it s K) : ∃ v, (Instr.entry (.pointer it)).run P w = .ok v w ∧ K v := by
  obtain ⟨b, o, rfl, rfl, q, since, c, seen, l, j, n, v, b', hb, hq, hj, hone, h1⟩ := hx
  have hwb := r.sub b _ hb
  have hwq := r.sub q _ hq
  unfold iterO at hwb
  unfold mapO at hwq
  refine ⟨.tuple #[enc n, v], ?_, resK_ok (K := fun v => K (.tuple #[enc n, v])) h1⟩
  have e1 : ((snoc seen b').toArray) = seen.toArray.push b' := by simp
  rw [e1] at hwb
  have hf : ((l.map fun e => ({ key := enc e.1, val := e.2.1, born := e.2.2 } : MapEntry)).toArray.find? (·.born == b')) = some { key := enc n, val := v, born := b' } := by
    rw [← Array.find?_toList]
    simp only [List.toList_toArray]
    rw [List.find?_eq_some_iff_getElem]
    have hlt := (List.getElem?_eq_some_iff.1 hj).1
    refine ⟨by simp, j, by simpa using hlt, ?_, fun i hi => ?_⟩
    · have := (List.getElem?_eq_some_iff.1 hj).2
      simp [this]
    · simp only [List.getElem_map]
      have hil : i < l.length := by omega
      have hne : l[i].2.2 ≠ b' := fun hbeq => by
        have := hone i l[i].1 l[i].2.1 (by rw [← hbeq]; exact List.getElem?_eq_getElem hil)
        omega
      simp [hne]
  simp only [Instr.entry, getObj, Sem.run_bind, Sem.run, hwb, hwq, Result.andThen, Array.back?_push, bne_self_eq_false, Bool.false_eq_true, if_false, hf]
  rfl

end

/-! clear, of a slice -/

def xsClearS (P : Program) (T : TypeId) (h : Heap) (a : Option Addr) (n : Nat) (K : Heap → Prop) : Prop :=
  (n = 0 → K h) ∧ (0 < n → atBase a fun b o => h.can b o (n * cellSize P T) ∧ K (h.put b o (zeros P T n)))

theorem oneCells_append (x y : List Value) (hx : oneCells x = true) (hy : oneCells y = true) : oneCells (x ++ y) = true := by
  induction x with
  | nil => exact hy
  | cons v r ih =>
    have hx : (v.oneCell' && oneCells r) = true := hx
    rw [Bool.and_eq_true] at hx
    show (v.oneCell' && oneCells (r ++ y)) = true
    rw [hx.1, ih hx.2]; rfl

theorem zeroCells_zeros (z : Array Value) (n : Nat) (hz : 0 < z.size) : (Builtin.zeroCells z n).toList = (List.replicate n z.toList).flatten := by
  unfold Builtin.zeroCells
  apply List.ext_getElem?
  intro i
  have hget : ∀ n i, i < n * z.size → ((List.replicate n z.toList).flatten)[i]? = some z[i % z.size]! := by
    intro n
    induction n with
    | zero => intro i hi; simp at hi
    | succ n ih =>
      intro i hi
      rw [List.replicate_succ, List.flatten_cons]
      by_cases h1 : i < z.size
      · rw [List.getElem?_append_left (by simpa using h1), Nat.mod_eq_of_lt h1]
        simp [h1]
      · rw [List.getElem?_append_right (by simpa using h1)]
        have := ih (i - z.toList.length) (by simp; rw [Nat.succ_mul] at hi; omega)
        rw [this]
        have e : (i - z.toList.length) % z.size = i % z.size := by
          rw [Array.length_toList]
          conv => rhs; rw [show i = i - z.size + z.size by omega, Nat.add_mod_right]
        rw [e]
  by_cases hi : i < n * z.size
  · rw [hget n i hi]
    simp [hi]
  · rw [List.getElem?_eq_none (by simp; omega), List.getElem?_eq_none (by simp; omega)]

theorem xsClearS_ok {P : Program} {nn : Nat} {st : St} {h : Heap} {β : Nat → Nat} {a : Act} {w : World} {ts : Array TypeId} {u t T : TypeId} {s : Option Addr} {n c : Nat} {K : Heap → Prop} (hts : ts[0]? = some t) (ht : P.underlying t = some (.slice T)) (hrow : rowOk P T = true) (hone : oneCells (cellZero P T) = true) (r : Rep nn st h β a w) (hx : xsClearS P T h s n K) :
    ∃ h' w', (Builtin.clear_ ts u #[.slice s n c]).run P w = .ok (.tuple #[]) w' ∧ Rep nn st h' β a w' ∧ Mid st β h w st β h' w' ∧ KeepP st β w st β w' none ∧ K h' := by
  obtain ⟨h1, h2⟩ := hx
  by_cases hn : n = 0
  · subst hn
    refine ⟨h, w, ?_, r, Mid.refl _ _ _ _, KeepP.refl _ _ _ _, h1 rfl⟩
    unfold Builtin.clear_
    simp only [hts, List.getElem?_toArray, List.getElem?_cons_zero, Sem.run_bind, run_underlying ht, Result.andThen_ok]
    cases s <;> rfl
  · obtain ⟨b, o, rfl, ⟨cs, T', lo, hi, hb, hlen, hfr⟩, hk⟩ := h2 (by omega)
    obtain ⟨i, z, hi', hz, hzs, hpos, hbz, e1, e2, e3⟩ := rowOk_ok hrow
    have hne : h b ≠ none := by rw [hb]; simp
    have hzc : (Builtin.zeroCells z.cells n).toList = zeros P T n := by
      rw [zeroCells_zeros _ _ (by omega)]; unfold zeros; rw [e2]
    have hlz : (zeros P T n).length = n * cellSize P T := by
      unfold zeros; simp [e2, e1, hzs]
    have hoz : oneCells (zeros P T n) = true := by
      unfold zeros
      clear hk hlen hfr h1 h2 hzc hlz hn
      induction n with
      | zero => rfl
      | succ n ih => rw [List.replicate_succ, List.flatten_cons]; exact oneCells_append _ _ hone ih
    have hzv : (zeroValue T).run P w = .ok z w := by simp [zeroValue, typeInfo, hi', hz]
    have hkp : KeepP st β w st β (World.putCells w b o (zeros P T n)) none := by
      intro k hk' _
      obtain ⟨cs', hcs⟩ := Option.ne_none_iff_exists'.1 hk'
      refine ⟨rfl, rfl, ?_⟩
      rw [World.heap_putCells, if_neg]
      intro e; exact hne (by rw [← e]; exact (r.priv k cs' hcs).1)
    refine ⟨_, _, ?_, r.hstore hne o (zeros P T n), Mid.hstore r hne _ _, hkp, hk⟩
    have hst := run_storeCells (P := P) (zeros P T n) w b o 0 cs T' lo hi (r.sub b _ hb) hoz (by rw [hlz]; omega) (by rw [hlz]; omega)
    obtain ⟨m, rfl⟩ : ∃ m, n = m + 1 := ⟨n - 1, by omega⟩
    unfold Builtin.clear_
    simp only [hts, List.getElem?_toArray, List.getElem?_cons_zero, Sem.run_bind, run_underlying ht, Result.andThen_ok, hzv, hzc, hst]
    rfl

/-! the operations -/

def keyKind (P : Program) (t : TypeId) : Option (TypeDesc × TypeId × TypeId) :=
  match P.underlying t with
  | some (.map kt et) => match P.underlying kt with
    | some d => some (d, kt, et)
    | none => none
  | _ => none

def itAt : List (Nat × TypeId) → Operand → Option TypeId
  | [], _ => none
  | (k, t) :: r, x => match x with
    | .tmp u => match Nat.beq k u with
      | true => some t
      | false => itAt r x
    | _ => none

def isMap (P : Program) (t : TypeId) : Bool :=
  match P.underlying t with
  | some (.map _ _) => true
  | _ => false

/-- Operations on maps, and clear. -/
def isMore (P : Program) (o : Op) : Bool :=
  match o with
  | .makeMap _ _ | .lookup _ _ _ _ | .mapUpdate _ _ _ _ | .range _ _ | .next _ _ | .entry _ => true
  | .call c => match c.callee with
    | .builtin .delete => true
    | .builtin .clear => true
    | .builtin .len => match c.argTypes.toList with
      | [t] => isMap P t
      | _ => false
    | _ => false
  | _ => false

/-- A pair of ints as a key. -/
def xsKey2 (P : Program) (n : Nat) (e : TypeId) (xs : Array Value) (K : IntKind → Int → Int → Prop) : Prop :=
  match Nat.beq n 2, P.underlying e, P.info? e with
  | true, some (.int k), some inf => match Nat.beq inf.size 1, xs.toList with
    | true, [.int k1 a, .int k2 b] => same k k1 (same k k2 (K k a b))
    | _, _ => False
  | _, _, _ => False

def xsMore (P : Program) (H : Hn) (o : Oper) (st : St) (h : Heap) (K : XV → St → Heap → Prop) : Prop :=
  match o.op with
  | .makeMap _ none => ∀ b, h b = none → K (.v (.map (some b))) st (upd h b (.map #[] 0))
  | .lookup t x i ok => match keyKind P t, st.opd x, st.opd i with
    | some (d, _, et), .v (.map m), .v key => match P.info? et with
      | some inf => match inf.zero with
        | some z => match d, key with
          | .int k, .int k' n => same k k' (xsMapGet (Value.int k) h m n z (shape P et) fun v b => match ok with
            | true => K (.v (.tuple #[v, .bool b])) st h
            | false => K (.v v) st h)
          | .string, .string n => xsMapGet Value.string h m n z (shape P et) fun v b => match ok with
            | true => K (.v (.tuple #[v, .bool b])) st h
            | false => K (.v v) st h
          | .array q e, .agg xs => xsKey2 P q e xs fun k a b => xsMapGet (encP k) h m (a, b) z (shape P et) fun v b => match ok with
            | true => K (.v (.tuple #[v, .bool b])) st h
            | false => K (.v v) st h
          | _, _ => False
        | none => False
      | none => False
    | _, _, _ => False
  | .mapUpdate t x i v => match keyKind P t, st.opd x, st.opd i, st.opd v with
    | some (d, _, _), .v (.map m), .v key, .v v => match d, key with
      | .int k, .int k' n => same k k' (xsMapSet (Value.int k) h m n v fun h' => K (.v undef) st h')
      | .string, .string n => xsMapSet Value.string h m n v fun h' => K (.v undef) st h'
      | .array q e, .agg xs => xsKey2 P q e xs fun k a b => xsMapSet (encP k) h m (a, b) v fun h' => K (.v undef) st h'
      | _, _ => False
    | _, _, _, _ => False
  | .range t x => match keyKind P t, st.opd x with
    | some (d, _, _), .v (.map m) => match d with
      | .int k => xsMapRange (Value.int k) h m fun v h' => K (.v v) st h'
      | .string => xsMapRange Value.string h m fun v h' => K (.v v) st h'
      | _ => False
    | _, _ => False
  | .next it str => match str with
    | true => False
    | false => match itAt H.its it, st.opd it with
      | some t, .v (.pointer p) => match keyKind P t with
        | some (d, _, et) => match d with
          | .int k => xsMapNext (Value.int k) h p (shape P et) fun v h' => K (.v v) st h'
          | .string => xsMapNext Value.string h p (shape P et) fun v h' => K (.v v) st h'
          | _ => False
        | none => False
      | _, _ => False
  | .entry it => match itAt H.its it, st.opd it with
    | some t, .v (.pointer p) => match keyKind P t with
      | some (d, _, et) => match d with
        | .int k => xsMapEntry (Value.int k) h p (shape P et) fun v => K (.v v) st h
        | .string => xsMapEntry Value.string h p (shape P et) fun v => K (.v v) st h
        | _ => False
      | none => False
    | _, _ => False
  | .call c => match c.callee with
    | .builtin b => match opdList st c.args.toList, c.argTypes.toList with
      | some l, t :: _ => match b, l with
        | .delete, [.map m, key] => match keyKind P t with
          | some (d, _, _) => match d, key with
            | .int k, .int k' n => same k k' (xsMapDel (Value.int k) h m n fun h' => K (.v (.tuple #[])) st h')
            | .string, .string n => xsMapDel Value.string h m n fun h' => K (.v (.tuple #[])) st h'
            | _, _ => False
          | none => False
        | .clear, [.map m] => match keyKind P t with
          | some (d, _, _) => match d with
            | .int k => xsMapClear (Value.int k) h m fun h' => K (.v (.tuple #[])) st h'
            | .string => xsMapClear Value.string h m fun h' => K (.v (.tuple #[])) st h'
            | _ => False
          | none => False
        | .clear, [.slice a n _] => match P.underlying t with
          | some (.slice T) => match rowOk P T with
            | true => match oneCells (cellZero P T) with
              | true => xsClearS P T h a n fun h' => K (.v (.tuple #[])) st h'
              | false => False
            | false => False
          | _ => False
        | .len, [.map m] => match keyKind P t with
          | some (d, _, _) => match d with
            | .int k => xsMapLen (Value.int k) h m fun v => K (.v v) st h
            | .string => xsMapLen Value.string h m fun v => K (.v v) st h
            | _ => False
          | none => False
        | _, _ => False
      | _, _ => False
    | _ => False
  | _ => False

theorem keyKind_ok {P : Program} {t kt et : TypeId} {d : TypeDesc} (h : keyKind P t = some (d, kt, et)) : P.underlying t = some (.map kt et) ∧ P.underlying kt = some d := by
  unfold keyKind at h
  split at h
  · rename_i kt' et' ht
    split at h
    · rename_i d' hd
      cases h
      exact ⟨ht, hd⟩
    · cases h
  · cases h

theorem xsKey2_ok {P : Program} {kt e : TypeId} {n : Nat} {xs : Array Value} {K : IntKind → Int → Int → Prop} (hd : P.underlying kt = some (.array n e)) (h : xsKey2 P n e xs K) : ∃ k a b, KeysR P kt (encP k) ∧ Value.agg xs = encP k (a, b) ∧ K k a b := by
  unfold xsKey2 at h
  split at h
  · rename_i k inf hn he hi
    split at h
    · rename_i k1 a k2 b hs hx
      obtain ⟨e1, h1⟩ := same_ok h
      obtain ⟨e2, h2⟩ := same_ok h1
      subst e1 e2
      have hn := Nat.eq_of_beq_eq_true hn
      subst hn
      refine ⟨_, a, b, keys_pair hd he hi (Nat.eq_of_beq_eq_true hs), ?_, h2⟩
      show Value.agg xs = .agg #[_, _]
      congr 1
      apply Array.ext'
      rw [hx]
    · exact h.elim
  · exact h.elim

theorem keys_int (k : IntKind) : Keys (Value.int k) (.int k) := ⟨fun _ => rfl, fun _ _ h => by cases h; rfl⟩
theorem keys_str : Keys Value.string .string := ⟨fun _ => trivial, fun _ _ h => by cases h; rfl⟩

section
variable {P : Program} {H : Hn} {n : Nat} {o : Oper} {st : St} {h : Heap} {K : XV → St → Heap → Prop} {β : Nat → Nat} {a : Act} {w : World}

theorem storeTo_more (hm : isMore P o.op = true) : storeTo st o = none := by
  unfold storeTo
  split
  · rename_i ho; rw [ho] at hm; cases hm
  · rfl

/-- An operation that leaves the function's own memory alone. -/
theorem OpOut.other (hm : isMore P o.op = true) {v : Value} {nx : Next} {h' : Heap} {w' : World} (run : (execOp a.eval o).run P w = .ok nx w') (hnx : nx = .value v ∨ (nx = .skip ∧ v = undef)) (rep : Rep n st h' β a w') (mid : Mid st β h w st β h' w') (kp : KeepP st β w st β w' none)
    (hk : K (.v v) st h') : OpOut P n o st h K β a w :=
  .val nx v (.v v) st h' β w' run hnx rfl rep mid (fun _ _ e => by cases e) (by rw [storeTo_more hm]; exact kp) (fun _ hj => .inl hj) hk

theorem run_builtin {c : Call} {b : Builtin} {l : List Value} {v : Value} {w' : World} (ho : o.op = .call c) (hb : c.callee = .builtin b) (r : Rep n st h β a w) (hl : opdList st c.args.toList = some l)
    (run : (builtin b c.argTypes o.type (c.args.map fun | .const _ => true | _ => false) l.toArray).run P w = .ok (.value v) w') : (execOp a.eval o).run P w = .ok (.value v) w' := by
  have hl' := opdList_ok r _ _ hl
  have harr : c.args.map a.eval = l.toArray := by
    apply Array.ext'
    simpa using hl'
  unfold execOp; rw [ho]
  dsimp only
  rw [Sem.run_bind]
  have hres : (resolve a.eval c o.type).run P w = .ok { target := .builtin b c.argTypes o.type (c.args.map fun | .const _ => true | _ => false), args := l.toArray } w := by
    unfold resolve
    rw [hb]
    dsimp only
    rw [harr]; rfl
  rw [hres, Result.andThen_ok]
  exact run

theorem first_of {ts : Array TypeId} {t : TypeId} {r : List TypeId} (h : ts.toList = t :: r) : ts[0]? = some t := by
  rw [← Array.getElem?_toList, h]; rfl

set_option maxHeartbeats 1000000 in
theorem xsMore_ok (hm : isMore P o.op = true) (r : Rep n st h β a w) (hk : xsMore P H o st h K) : OpOut P n o st h K β a w := by
  unfold xsMore at hk
  split at hk
  · -- makeMap
    rename_i t ho
    refine .other hm (v := .map (some w.heap.size)) (w' := w.alloc (.map #[] 0)) ?_ (.inl rfl) (r.halloc _) (Mid.halloc r _) (KeepP.halloc r _ none) (hk _ r.free)
    unfold execOp; rw [ho]
    exact run_v rfl
  · -- lookup
    rename_i t x i ok ho
    split at hk
    · rename_i d kt et m key hkk hx hi
      obtain ⟨ht, hd⟩ := keyKind_ok hkk
      have hx' := r.val hx
      have hi' := r.val hi
      split at hk
      · rename_i inf hinf
        split at hk
        · rename_i z hz
          split at hk
          · rename_i k k' nn
            obtain ⟨e, hk2⟩ := same_ok hk
            subst e
            obtain ⟨v, b, hrun, hkv⟩ := xsMapGet_ok (ok := ok) ((keys_int k).r hd) ht hinf hz r hk2
            refine .other hm (w' := w) (v := if ok then .tuple #[v, .bool b] else v) ?_ (.inl rfl) r (Mid.refl _ _ _ _) (KeepP.refl _ _ _ _) (by cases ok <;> exact hkv)
            unfold execOp; rw [ho]
            refine run_v ?_
            rw [hx', hi']; exact hrun
          · rename_i nn
            obtain ⟨v, b, hrun, hkv⟩ := xsMapGet_ok (ok := ok) (keys_str.r hd) ht hinf hz r hk
            refine .other hm (w' := w) (v := if ok then .tuple #[v, .bool b] else v) ?_ (.inl rfl) r (Mid.refl _ _ _ _) (KeepP.refl _ _ _ _) (by cases ok <;> exact hkv)
            unfold execOp; rw [ho]
            refine run_v ?_
            rw [hx', hi']; exact hrun
          · obtain ⟨k, p, q, kr, ek, hk2⟩ := xsKey2_ok hd hk
            obtain ⟨v, b, hrun, hkv⟩ := xsMapGet_ok (ok := ok) kr ht hinf hz r hk2
            refine .other hm (w' := w) (v := if ok then .tuple #[v, .bool b] else v) ?_ (.inl rfl) r (Mid.refl _ _ _ _) (KeepP.refl _ _ _ _) (by cases ok <;> exact hkv)
            unfold execOp; rw [ho]
            refine run_v ?_
            rw [hx', hi', ek]; exact hrun
          · exact hk.elim
        · exact hk.elim
      · exact hk.elim
    · exact hk.elim
  · -- mapUpdate
    rename_i t x i v ho
    split at hk
    · rename_i d kt et m key v hkk hx hi hv
      obtain ⟨ht, hd⟩ := keyKind_ok hkk
      have hx' := r.val hx
      have hi' := r.val hi
      have hv' := r.val hv
      split at hk
      · rename_i k k' nn
        obtain ⟨e, hk2⟩ := same_ok hk
        subst e
        obtain ⟨h', w', hrun, rep, mid, kp, hkv⟩ := xsMapSet_ok ((keys_int k).r hd) ht r hk2
        refine .other hm (v := undef) ?_ (.inr ⟨rfl, rfl⟩) rep mid kp hkv
        unfold execOp; rw [ho]
        refine run_u ?_
        rw [hx', hi', hv']; exact hrun
      · rename_i nn
        obtain ⟨h', w', hrun, rep, mid, kp, hkv⟩ := xsMapSet_ok (keys_str.r hd) ht r hk
        refine .other hm (v := undef) ?_ (.inr ⟨rfl, rfl⟩) rep mid kp hkv
        unfold execOp; rw [ho]
        refine run_u ?_
        rw [hx', hi', hv']; exact hrun
      · obtain ⟨k, p, q, kr, ek, hk2⟩ := xsKey2_ok hd hk
        obtain ⟨h', w', hrun, rep, mid, kp, hkv⟩ := xsMapSet_ok kr ht r hk2
        refine .other hm (v := undef) ?_ (.inr ⟨rfl, rfl⟩) rep mid kp hkv
        unfold execOp; rw [ho]
        refine run_u ?_
        rw [hx', hi', hv', ek]; exact hrun
      · exact hk.elim
    · exact hk.elim
  · -- range
    rename_i t x ho
    split at hk
    · rename_i d kt et m hkk hx
      obtain ⟨ht, hd⟩ := keyKind_ok hkk
      have hx' := r.val hx
      split at hk
      · rename_i k
        obtain ⟨v, h', w', hrun, rep, mid, kp, hkv⟩ := xsMapRange_ok ht r hk
        refine .other hm ?_ (.inl rfl) rep mid kp hkv
        unfold execOp; rw [ho]
        refine run_v ?_
        rw [hx']; exact hrun
      · obtain ⟨v, h', w', hrun, rep, mid, kp, hkv⟩ := xsMapRange_ok ht r hk
        refine .other hm ?_ (.inl rfl) rep mid kp hkv
        unfold execOp; rw [ho]
        refine run_v ?_
        rw [hx']; exact hrun
      · exact hk.elim
    · exact hk.elim
  · -- next
    rename_i it str ho
    split at hk
    · exact hk.elim
    split at hk
    · rename_i t p hit hx
      have hx' := r.val hx
      split at hk
      · rename_i d kt et hkk
        split at hk
        · rename_i k
          obtain ⟨v, h', w', hrun, rep, mid, kp, hkv⟩ := xsMapNext_ok (ty := o.type) r hk
          refine .other hm ?_ (.inl rfl) rep mid kp hkv
          unfold execOp; rw [ho]
          refine run_v ?_
          rw [hx']; exact hrun
        · obtain ⟨v, h', w', hrun, rep, mid, kp, hkv⟩ := xsMapNext_ok (ty := o.type) r hk
          refine .other hm ?_ (.inl rfl) rep mid kp hkv
          unfold execOp; rw [ho]
          refine run_v ?_
          rw [hx']; exact hrun
        · exact hk.elim
      · exact hk.elim
    · exact hk.elim
  · -- entry
    rename_i it ho
    split at hk
    · rename_i t p hit hx
      have hx' := r.val hx
      split at hk
      · rename_i d kt et hkk
        split at hk
        · rename_i k
          obtain ⟨v, hrun, hkv⟩ := xsMapEntry_ok (P := P) r hk
          refine .other hm ?_ (.inl rfl) r (Mid.refl _ _ _ _) (KeepP.refl _ _ _ _) hkv
          unfold execOp; rw [ho]
          refine run_v ?_
          rw [hx']; exact hrun
        · obtain ⟨v, hrun, hkv⟩ := xsMapEntry_ok (P := P) r hk
          refine .other hm ?_ (.inl rfl) r (Mid.refl _ _ _ _) (KeepP.refl _ _ _ _) hkv
          unfold execOp; rw [ho]
          refine run_v ?_
          rw [hx']; exact hrun
        · exact hk.elim
      · exact hk.elim
    · exact hk.elim
  · -- builtins
    rename_i c ho
    split at hk
    · rename_i b hb
      split at hk
      · rename_i l t ts hl hts
        have ht0 := first_of hts
        split at hk
        · -- delete
          rename_i m key
          split at hk
          · rename_i d kt et hkk
            obtain ⟨ht, hd⟩ := keyKind_ok hkk
            split at hk
            · rename_i k k' nn
              obtain ⟨e, hk2⟩ := same_ok hk
              subst e
              obtain ⟨h', w', hrun, rep, mid, kp, hkv⟩ := xsMapDel_ok (u := o.type) ht0 ((keys_int k).r hd) ht r hk2
              exact .other hm (run_builtin ho hb r hl (run_v hrun)) (.inl rfl) rep mid kp hkv
            · rename_i nn
              obtain ⟨h', w', hrun, rep, mid, kp, hkv⟩ := xsMapDel_ok (u := o.type) ht0 (keys_str.r hd) ht r hk
              exact .other hm (run_builtin ho hb r hl (run_v hrun)) (.inl rfl) rep mid kp hkv
            · exact hk.elim
          · exact hk.elim
        · -- clear, a map
          rename_i m
          split at hk
          · rename_i d kt et hkk
            obtain ⟨ht, hd⟩ := keyKind_ok hkk
            split at hk
            · obtain ⟨h', w', hrun, rep, mid, kp, hkv⟩ := xsMapClear_ok (u := o.type) ht0 ht r hk
              exact .other hm (run_builtin ho hb r hl (run_v hrun)) (.inl rfl) rep mid kp hkv
            · obtain ⟨h', w', hrun, rep, mid, kp, hkv⟩ := xsMapClear_ok (u := o.type) ht0 ht r hk
              exact .other hm (run_builtin ho hb r hl (run_v hrun)) (.inl rfl) rep mid kp hkv
            · exact hk.elim
          · exact hk.elim
        · -- clear, a slice
          rename_i s m c'
          split at hk
          · rename_i T ht
            split at hk
            · rename_i hrow
              split at hk
              · rename_i hone
                obtain ⟨h', w', hrun, rep, mid, kp, hkv⟩ := xsClearS_ok (u := o.type) (c := c') ht0 ht hrow hone r hk
                exact .other hm (run_builtin ho hb r hl (run_v hrun)) (.inl rfl) rep mid kp hkv
              · exact hk.elim
            · exact hk.elim
          · exact hk.elim
        · -- len
          rename_i m
          split at hk
          · rename_i d kt et hkk
            obtain ⟨ht, hd⟩ := keyKind_ok hkk
            split at hk
            · obtain ⟨v, hrun, hkv⟩ := xsMapLen_ok (u := o.type) ht0 ht r hk
              exact .other hm (run_builtin ho hb r hl (run_v hrun)) (.inl rfl) r (Mid.refl _ _ _ _) (KeepP.refl _ _ _ _) hkv
            · obtain ⟨v, hrun, hkv⟩ := xsMapLen_ok (u := o.type) ht0 ht r hk
              exact .other hm (run_builtin ho hb r hl (run_v hrun)) (.inl rfl) r (Mid.refl _ _ _ _) (KeepP.refl _ _ _ _) hkv
            · exact hk.elim
          · exact hk.elim
        · exact hk.elim
      · exact hk.elim
    · exact hk.elim
  · exact hk.elim
end

end Go.Gb
