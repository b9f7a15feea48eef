/- Own text for the seat: GbOps2. -/
import Derived.Test.YtbphidfhcijbhaaGbExec
set_option linter.unusedVariables false
set_option linter.unusedSimpArgs false
set_option linter.unnecessarySimpa false
set_option linter.deprecated false
namespace Go.Gb

/-! More operations: aggregates, slices, strings, conversions. -/

def infoSz (P : Program) (t : TypeId) : Nat :=
  match P.info? t with
  | some i => i.size
  | none => 0

def fillL (places : Nat → Option (Nat × Nat)) : List Value → List (Nat × Value) → Option (List Value)
  | cells, [] => some cells
  | cells, (i, v) :: rest =>
    match places i with
    | none => none
    | some (off, size) => match Nat.beq v.cells.size size with
      | true => match Nat.ble (off + size) cells.length with
        | true => fillL places (setL cells off v.cells.toList) rest
        | false => none
      | false => none

theorem foldl_setL (vs : List Value) : ∀ (c : List Value) (off k : Nat),
    (vs.zipIdx k).foldl (fun (cs : Array Value) (x : Value × Nat) => cs.setIfInBounds (off + x.2) x.1) c.toArray = (setL c (off + k) vs).toArray := by
  induction vs with
  | nil => intro c off k; rfl
  | cons v r ih =>
    intro c off k
    simp only [List.zipIdx_cons, List.foldl_cons, setL]
    have := ih (c.set (off + k) v) off (k + 1)
    rw [show off + (k + 1) = off + k + 1 by omega] at this
    rw [← this]
    congr 1
    simp

theorem fill_of {places : Nat → Option (Nat × Nat)} (parts : List (Nat × Value)) : ∀ (c r : List Value), fillL places c parts = some r → Instr.fill places c.toArray parts = some r.toArray := by
  induction parts with
  | nil => intro c r h; simp only [fillL, Option.some.injEq] at h; subst h; rfl
  | cons p rest ih =>
    obtain ⟨i, v⟩ := p
    intro c r h
    unfold fillL at h
    unfold Instr.fill
    split at h
    · cases h
    · rename_i off size hp
      rw [hp]
      split at h
      · rename_i hs
        split at h
        · rename_i hle
          have hs' : v.cells.size = size := Nat.eq_of_beq_eq_true hs
          have hle' := Nat.le_of_ble_eq_true hle
          have hno : ¬ ((decide (v.cells.size ≠ size) || decide (off + v.cells.size > c.toArray.size)) = true) := by simp; omega
          dsimp only
          rw [if_neg hno]
          have h2 : v.cells.zipIdx.foldl (fun cs (c, j) => cs.setIfInBounds (off + j) c) c.toArray = (setL c off v.cells.toList).toArray := by
            rw [← Array.foldl_toList]
            have := foldl_setL v.cells.toList c off 0
            simp only [Nat.add_zero] at this
            rw [← this]
            simp
          rw [h2]
          exact ih _ _ h
        · cases h
      · cases h

theorem run_mapM_list {P : Program} {w : World} {α β : Type} (g : α → Sem β) (g' : α → β) (l : List α) (h : ∀ x, x ∈ l → (g x).run P w = .ok (g' x) w) : (l.mapM g).run P w = .ok (l.map g') w := by
  induction l with
  | nil => simp
  | cons x r ih =>
    rw [List.mapM_cons, Sem.run_bind, h x (by simp), Result.andThen_ok, Sem.run_bind, ih (fun y hy => h y (by simp [hy])), Result.andThen_ok]
    simp

theorem run_mapM_array {P : Program} {w : World} {α β : Type} (g : α → Sem β) (g' : α → β) (l : Array α) (h : ∀ x, x ∈ l.toList → (g x).run P w = .ok (g' x) w) : (l.mapM g).run P w = .ok (l.map g') w := by
  rw [Array.mapM_eq_mapM_toList, Sem.run_map, run_mapM_list g g' l.toList h, Result.andThen_ok]
  congr 1
  apply Array.ext'
  simp

def opdVals (st : St) : List (Nat × Operand) → Option (List (Nat × Value))
  | [] => some []
  | (i, x) :: r => match st.opd x with
    | .v v => match opdVals st r with
      | some l => some ((i, v) :: l)
      | none => none
    | _ => none

theorem opdVals_ok {n : Nat} {st : St} {h : Heap} {β : Nat → Nat} {a : Act} {w : World} (r : Rep n st h β a w) (l : List (Nat × Operand)) : ∀ l', opdVals st l = some l' → l.map (fun p => (p.1, a.eval p.2)) = l' := by
  induction l with
  | nil => intro l' h; simp only [opdVals, Option.some.injEq] at h; subst h; rfl
  | cons p rest ih =>
    obtain ⟨i, x⟩ := p
    intro l' h
    unfold opdVals at h
    split at h
    · rename_i v hv
      split at h
      · rename_i l2 hl2
        simp only [Option.some.injEq] at h
        subst h
        rcases r.opd x with hd | hi
        · rw [hv] at hd; cases hd
        · rw [hv] at hi
          simp only [List.map_cons, ih _ hl2]
          rw [show a.eval x = v from hi]
      · cases h
    · cases h

def opdList (st : St) : List Operand → Option (List Value)
  | [] => some []
  | x :: r => match st.opd x with
    | .v v => match opdList st r with
      | some l => some (v :: l)
      | none => none
    | _ => none

theorem opdList_ok {n : Nat} {st : St} {h : Heap} {β : Nat → Nat} {a : Act} {w : World} (r : Rep n st h β a w) (l : List Operand) : ∀ l', opdList st l = some l' → l.map a.eval = l' := by
  induction l with
  | nil => intro l' h; simp only [opdList, Option.some.injEq] at h; subst h; rfl
  | cons x rest ih =>
    intro l' h
    unfold opdList at h
    split at h
    · rename_i v hv
      split at h
      · rename_i l2 hl2
        simp only [Option.some.injEq] at h
        subst h
        rcases r.opd x with hd | hi
        · rw [hv] at hd; cases hd
        · rw [hv] at hi
          simp only [List.map_cons, ih _ hl2]
          rw [show a.eval x = v from hi]
      · cases h
    · cases h

def placeS (P : Program) (fs : List Field) (i : Nat) : Option (Nat × Nat) :=
  match fs[i]? with
  | some f => some (f.offset, infoSz P f.type)
  | none => none

def allInfo (P : Program) : List Field → Bool
  | [] => true
  | f :: r => match P.info? f.type with
    | some _ => allInfo P r
    | none => false

theorem allInfo_ok {P : Program} (l : List Field) (h : allInfo P l = true) : ∀ f, f ∈ l → ∃ i, P.info? f.type = some i := by
  induction l with
  | nil => intro f hf; cases hf
  | cons g r ih =>
    unfold allInfo at h
    split at h
    · rename_i i hi
      intro f hf
      rcases List.mem_cons.1 hf with rfl | hf
      · exact ⟨i, hi⟩
      · exact ih h f hf
    · cases h

def xsBuild (P : Program) (t : TypeId) (parts : List (Nat × Operand)) (st : St) (K : Value → Prop) : Prop :=
  match P.info? t with
  | some inf => match inf.zero with
    | some z => match opdVals st parts with
      | some vs => match P.underlying t with
        | some (.struct fs) => match allInfo P fs.toList with
          | true => match fillL (placeS P fs.toList) z.cells.toList vs with
            | some cs => listK cs fun cs' => K (.agg cs'.toArray)
            | none => False
          | false => False
        | some (.array _ e) => match P.info? e with
          | some ie => match fillL (fun i => some (i * ie.size, ie.size)) z.cells.toList vs with
            | some cs => listK cs fun cs' => K (.agg cs'.toArray)
            | none => False
          | none => False
        | _ => False
      | none => False
    | none => False
  | none => False

theorem xsBuild_ok {P : Program} {n : Nat} {t : TypeId} {parts : List (Nat × Operand)} {st : St} {h : Heap} {K : Value → Prop} {β : Nat → Nat} {a : Act} {w : World}
    (r : Rep n st h β a w) (hk : xsBuild P t parts st K) : ∃ v, (∀ w, (Instr.build t (parts.toArray.map fun (i, x) => (i, a.eval x))).run P w = .ok v w) ∧ K v := by
  unfold xsBuild at hk
  split at hk
  · rename_i inf hinf
    split at hk
    · rename_i z hz
      split at hk
      · rename_i vs hvs
        have hv := opdVals_ok r parts vs hvs
        have hv2 : (parts.toArray.map fun (i, x) => (i, a.eval x)).toList = vs := by simpa using hv
        have hzero : ∀ w, (zeroValue t).run P w = .ok z w := by intro w; simp [zeroValue, typeInfo, hinf, hz]
        split at hk
        · rename_i fs hfs
          split at hk
          · rename_i hall
            have hall := allInfo_ok _ hall
            split at hk
            · rename_i cs hcs
              refine ⟨_, ?_, listK_ok _ _ hk⟩
              have hpl : ∀ w, (fs.mapM fun f => do pure (f.offset, ← sizeOf f.type) : Sem (Array (Nat × Nat))).run P w = .ok (fs.map fun f => (f.offset, infoSz P f.type)) w := by
                intro w
                refine run_mapM_array _ _ _ ?_
                intro f hf
                obtain ⟨i, hi⟩ := hall f hf
                rw [Sem.run_bind, run_sizeOf hi]
                simp [infoSz, hi]
              have hf := fill_of vs _ _ hcs
              have hfun : (fun x => (fs.map fun f => (f.offset, infoSz P f.type))[x]?) = placeS P fs.toList := by
                funext i
                unfold placeS
                simp only [Array.getElem?_map, Array.getElem?_toList]
                cases fs[i]? <;> rfl
              intro w
              unfold Instr.build
              rw [Sem.run_bind, hzero, Result.andThen_ok, Sem.run_bind, run_underlying hfs, Result.andThen_ok]
              dsimp only
              rw [Sem.run_bind, hpl, Result.andThen_ok, hfun, hv2]
              simp only [Array.toArray_toList] at hf
              rw [hf]
              rfl
            · exact hk.elim
          · exact hk.elim
        · rename_i len e he
          split at hk
          · rename_i ie hie
            split at hk
            · rename_i cs hcs
              refine ⟨_, ?_, listK_ok _ _ hk⟩
              have hf := fill_of vs _ _ hcs
              intro w
              unfold Instr.build
              rw [Sem.run_bind, hzero, Result.andThen_ok, Sem.run_bind, run_underlying he, Result.andThen_ok]
              dsimp only
              rw [Sem.run_bind, run_sizeOf hie, Result.andThen_ok, hv2]
              simp only [Array.toArray_toList] at hf
              rw [hf]
              rfl
            · exact hk.elim
          · exact hk.elim
        · exact hk.elim
      · exact hk.elim
    · exact hk.elim
  · exact hk.elim

/-- An aggregate's part, or a string's byte. -/
def xsIndex (P : Program) (t : TypeId) (x i : XV) (ic : Bool) (K : Value → Prop) : Prop :=
  match P.underlying t, x, i with
  | some (.array len e), .v (.agg c), .v (.int _ i) => match P.info? e with
    | some ie => match ic with
      | true => match decide (0 ≤ i ∧ i < len) with
        | true => xsPart P e c.toList (i.toNat * ie.size) K
        | false => False
      | false => (0 ≤ i ∧ i < len) ∧ xsGetL P e c.toList (i.toNat * ie.size) ie.size K
    | none => False
  | some .string, .v (.string s), .v (.int _ i) => ∃ c : UInt8, 0 ≤ i ∧ bget s i.toNat = some c ∧ K (.int .u8 c.toNat)
  | _, _, _ => False
where
  xsGetL (P : Program) (e : TypeId) (c : List Value) (o sz : Nat) (K : Value → Prop) : Prop :=
    match P.underlying e with
    | some d => match isAggD d with
      | true => match leaves P 8 e with
        | some l => match Nat.beq l.length sz with
          | true => leavesK l (fun j => lget c j) o fun vs => K (.agg vs.toArray)
          | false => False
        | none => False
      | false => leafK (shape P e) (lget c o) K
    | none => False

theorem run_part_of {P : Program} {e : TypeId} {c : List Value} {o : Nat} {sz : Nat} {ie : TypeInfo} (hi : P.info? e = some ie) (hsz : ie.size = sz) {K : Value → Prop}
    (hk : xsIndex.xsGetL P e c o sz K) : ∃ v, (∀ w, (part e c.toArray o).run P w = .ok v w) ∧ K v := by
  unfold xsIndex.xsGetL at hk
  split at hk
  · rename_i d hd
    split at hk
    · rename_i hda
      split at hk
      · rename_i l hl
        split at hk
        · rename_i hle
          have hle' : l.length = sz := Nat.eq_of_beq_eq_true hle
          obtain ⟨vs, hvl, hvc, hkv⟩ := leavesK_ok l _ o _ hk
          refine ⟨_, ?_, hkv⟩
          have h2 : (c.drop o).take ie.size = vs := by
            apply List.ext_getElem?
            intro j
            rw [List.getElem?_take, List.getElem?_drop]
            by_cases hj : j < vs.length
            · rw [if_pos (by omega)]; exact hvc j hj
            · rw [if_neg (by omega), List.getElem?_eq_none (by omega)]
          intro w
          simp [part, run_isAgg hd, hda, run_sizeOf hi]
          exact h2
        · exact hk.elim
      · exact hk.elim
    · rename_i hda
      obtain ⟨v, hv, hkv⟩ := leafK_ok hk
      unfold lget at hv
      exact ⟨v, (by intro w; simp [part, run_isAgg hd, hda, hv]), hkv⟩
  · exact hk.elim

theorem xsIndex_ok {P : Program} {t : TypeId} {x i : XV} {ic : Bool} {K : Value → Prop} {β : Nat → Nat} {y z : Value} (hx : x.is β y) (hi : i.is β z) (hk : xsIndex P t x i ic K) :
    ∃ v, (∀ w, (Instr.index t y z).run P w = .ok v w) ∧ K v := by
  unfold xsIndex at hk
  split at hk
  · rename_i len e c k i ht
    have hy : y = .agg c := hx
    have hz : z = .int k i := hi
    subst hy hz
    split at hk
    · rename_i ie hie
      split at hk
      · split at hk
        · rename_i hb
          have hb' : 0 ≤ i ∧ i < len := of_decide_eq_true hb
          obtain ⟨v, hv, hkv⟩ := xsPart_ok hk
          refine ⟨v, ?_, hkv⟩
          simp only [Array.toArray_toList] at hv
          intro w
          simp [Instr.index, asIntOf, run_underlying ht, hb', run_sizeOf hie, hv]
        · exact hk.elim
      · obtain ⟨hb', hk⟩ := hk
        obtain ⟨v, hv, hkv⟩ := run_part_of hie rfl hk
        refine ⟨v, ?_, hkv⟩
        simp only [Array.toArray_toList] at hv
        intro w
        simp [Instr.index, asIntOf, run_underlying ht, hb', run_sizeOf hie, hv]
    · exact hk.elim
  · rename_i s k i ht
    have hy : y = .string s := hx
    have hz : z = .int k i := hi
    subst hy hz
    obtain ⟨c, h0, hc, hkv⟩ := hk
    unfold bget at hc
    refine ⟨_, ?_, hkv⟩
    intro w
    simp [Instr.index, asIntOf, run_underlying ht, h0, hc]
  · exact hk.elim

def atBase (x : Option Addr) (K : Nat → Nat → Prop) : Prop := ∃ b o, x = some ⟨b, o, none⟩ ∧ K b o

def xsIndexAddr (P : Program) (t : TypeId) (x i : XV) (ic : Bool) (K : XV → Prop) : Prop :=
  match P.underlying t, x, i with
  | some (.array len e), .p k o, .v (.int _ i) => match P.info? e with
    | some ie => match ic with
      | true => match decide (0 ≤ i ∧ i < len) with
        | true => K (.p k (o + i.toNat * ie.size))
        | false => False
      | false => (0 ≤ i ∧ i < len) ∧ K (.p k (o + i.toNat * ie.size))
    | none => False
  | some (.array len e), .v (.pointer (some ⟨b, o, none⟩)), .v (.int _ i) => match P.info? e with
    | some ie => (0 ≤ i ∧ i < len) ∧ K (.v (.pointer (some ⟨b, o + i.toNat * ie.size, none⟩)))
    | none => False
  | some (.slice e), .v (.slice a n _), .v (.int _ i) => match P.info? e with
    | some ie => (0 ≤ i ∧ i < n) ∧ atBase a fun b o => K (.v (.pointer (some ⟨b, o + i.toNat * ie.size, none⟩)))
    | none => False
  | _, _, _ => False

theorem xsIndexAddr_ok {P : Program} {t : TypeId} {x i : XV} {ic : Bool} {K : XV → Prop} {β : Nat → Nat} {y z : Value} (hx : x.is β y) (hi : i.is β z) (hk : xsIndexAddr P t x i ic K) :
    ∃ v u, (∀ w, (Instr.indexAt t y z).run P w = .ok v w) ∧ XV.is β u v ∧ (∀ k o, u = .p k o → ∃ o', x = .p k o') ∧ K u := by
  unfold xsIndexAddr at hk
  split at hk
  · rename_i len e k o kk i ht
    have hy : y = .pointer (some ⟨β k, o, none⟩) := hx
    have hz : z = .int kk i := hi
    subst hy hz
    split at hk
    · rename_i ie hie
      have fin : (0 ≤ i ∧ i < len) → ∀ w, (Instr.indexAt t (.pointer (some ⟨β k, o, none⟩)) (.int kk i)).run P w = .ok (.pointer (some ⟨β k, o + i.toNat * ie.size, none⟩)) w := by
        intro hb w
        simp [Instr.indexAt, asIntOf, run_underlying ht, Instr.sureAddr, hb, run_sizeOf hie, add_lit]
      split at hk
      · split at hk
        · rename_i hb
          exact ⟨_, .p k (o + i.toNat * ie.size), fin (of_decide_eq_true hb), rfl, (fun k' o' e => ⟨o, by cases e; rfl⟩), hk⟩
        · exact hk.elim
      · exact ⟨_, .p k (o + i.toNat * ie.size), fin hk.1, rfl, (fun k' o' e => ⟨o, by cases e; rfl⟩), hk.2⟩
    · exact hk.elim
  · rename_i len e b o kk i ht
    have hy : y = .pointer (some ⟨b, o, none⟩) := hx
    have hz : z = .int kk i := hi
    subst hy hz
    split at hk
    · rename_i ie hie
      obtain ⟨hb, hk⟩ := hk
      refine ⟨.pointer (some ⟨b, o + i.toNat * ie.size, none⟩), .v (.pointer (some ⟨b, o + i.toNat * ie.size, none⟩)), ?_, rfl, (fun k' o' e => by cases e), hk⟩
      intro w
      simp [Instr.indexAt, asIntOf, run_underlying ht, Instr.sureAddr, hb, run_sizeOf hie, add_lit]
    · exact hk.elim
  · rename_i e aa n m kk i ht
    have hy : y = .slice aa n m := hx
    have hz : z = .int kk i := hi
    subst hy hz
    split at hk
    · rename_i ie hie
      obtain ⟨hb, b, o, rfl, hk⟩ := hk
      refine ⟨.pointer (some ⟨b, o + i.toNat * ie.size, none⟩), .v (.pointer (some ⟨b, o + i.toNat * ie.size, none⟩)), ?_, rfl, (fun k' o' e => by cases e), hk⟩
      intro w
      simp [Instr.indexAt, asIntOf, run_underlying ht, hb, run_sizeOf hie, add_lit]
    · exact hk.elim
  · exact hk.elim

end Go.Gb
