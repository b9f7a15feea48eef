/- Own texts for the seat: GbExec GbOps2. -/
import Derived.Test.YtcccjpahikgibaaDoorA2
import Derived.Laws.Build
set_option linter.unusedVariables false
set_option linter.unusedSimpArgs false
set_option linter.unnecessarySimpa false
set_option linter.deprecated false
namespace Go.Gb

/-- Of a region whose order is open: its number, an order, and the private blocks that it writes. -/
inductive Sq where
  | nil
  /-- One that hangs on nobody, or is the only one that may come. -/
  | q (i : Nat) (r : Sq)
  /-- A look; all else that may come ahead of it looks, too; the mask: what waits for it. -/
  | ld (i mask : Nat) (r : Sq)
  /-- One that comes now, or one of the others. -/
  | br (i : Nat) (a b : Sq)
  /-- The last of those that may come. -/
  | one (i : Nat) (a : Sq)

def Sq.len : Sq → Nat
  | .nil => 0
  | .q _ r => r.len + 1
  | .ld _ _ r => r.len + 1
  | .br _ a _ => a.len + 1
  | .one _ a => a.len + 1

structure Dr where
  at_ : Nat
  order : Sq
  wr : List Nat

/-- Hints: which new blocks are of the heap, which private ones are asked at places that are not known; the regions whose order is open. -/
structure Hn where
  pub : List Nat
  dyn : List Nat
  draws : List Dr
  /-- iterators, with their maps' types -/
  its : List (Nat × TypeId)

def memN : List Nat → Nat → Bool
  | [], _ => false
  | k :: r, t => match Nat.beq k t with
    | true => true
    | false => memN r t

/-- A list, told piece by piece. -/
def listK : List Value → (List Value → Prop) → Prop
  | [], K => K []
  | x :: r, K => listK r fun r' => K (x :: r')

theorem listK_ok : ∀ (l : List Value) (K : List Value → Prop), listK l K → K l
  | [], _, h => h
  | _ :: r, _, h => listK_ok r _ h

/-- A struct, told piece by piece; an array as it stands. -/
def forceAgg (d : TypeDesc) (l : List Value) (K : Value → Prop) : Prop :=
  match d with
  | .struct _ => listK l fun l' => K (.agg l'.toArray)
  | _ => K (.agg l.toArray)

theorem forceAgg_ok {d : TypeDesc} {l : List Value} {K : Value → Prop} (h : forceAgg d l K) : K (.agg l.toArray) := by
  unfold forceAgg at h
  split at h
  · exact listK_ok _ _ h
  · exact h

theorem forceAgg_mk {d : TypeDesc} {l : List Value} {K : Value → Prop} (h : K (.agg l.toArray)) : forceAgg d l K := by
  have hl : ∀ (l : List Value) (K : List Value → Prop), K l → listK l K := by
    intro l
    induction l with
    | nil => intro K h; exact h
    | cons x r ih => intro K h; exact ih _ h
  unfold forceAgg
  split
  · exact hl _ _ h
  · exact h

/-- Cells of a private block, at a place that is known. -/
def xsGetS (P : Program) (t : TypeId) (cs : List Value) (o : Nat) (K : Value → Prop) : Prop :=
  match P.underlying t with
  | some d => match isAggD d with
    | true => match P.info? t with
      | some i => match Nat.ble (o + i.size) cs.length with
        | true => forceAgg d ((cs.drop o).take i.size) K
        | false => False
      | none => False
    | false => match cs[o]? with
      | some v => K v
      | none => False
  | none => False

/-- Cells of a private block, at a place that need not be known. -/
def xsGetD (P : Program) (t : TypeId) (cs : List Value) (o : Nat) (K : Value → Prop) : Prop :=
  match P.underlying t with
  | some d => match isAggD d with
    | true => match P.info? t with
      | some i => o + i.size ≤ cs.length ∧ match shape P t with
        | .agg l => match Nat.beq l.length i.size with
          | true => leavesK l (fun j => lget cs j) o fun vs => K (.agg vs.toArray)
          | false => False
        | _ => K (.agg (lsub cs o i.size).toArray)
      | none => False
    | false => leafK (shape P t) (lget cs o) K
  | none => False

def xsGetP (P : Program) (dyn : Bool) (t : TypeId) (cs : List Value) (o : Nat) (K : Value → Prop) : Prop :=
  match dyn with
  | true => xsGetD P t cs o K
  | false => xsGetS P t cs o K

/-- Is a value told cell by cell? -/
def tellIt (d : TypeDesc) (n : Nat) : Bool :=
  match d with
  | .array _ _ => Nat.ble n 8
  | _ => Nat.ble n 16

/-- A value of the heap. -/
def xsGetH (P : Program) (t : TypeId) (h : Heap) (b o : Nat) (K : Value → Prop) : Prop :=
  match P.underlying t with
  | some d => match isAggD d with
    | true => match P.info? t with
      | some i => match leaves P 8 t with
        | some l => match Nat.beq l.length i.size with
          | true => match tellIt d l.length with
            | true => leavesK l (fun j => h.cell b j) o fun vs => K (.agg vs.toArray)
            | false => ∃ cs : List Value, cs.length = i.size ∧ (∀ j, j < cs.length → h.cell b (o + j) = lget cs j) ∧ K (.agg cs.toArray)
          | false => False
        | none => False
      | none => False
    | false => leafK (shape P t) (h.cell b o) K
  | none => False

def xsLoad (P : Program) (H : Hn) (t : TypeId) (x : XV) (st : St) (h : Heap) (K : Value → Prop) : Prop :=
  match x with
  | .p k o => match st.pget k with
    | some cs => xsGetP P (memN H.dyn k) t cs o K
    | none => False
  | .v (.pointer (some ⟨b, o, none⟩)) => xsGetH P t h b o K
  | _ => False

theorem xsLoad_ok {P : Program} {H : Hn} {n : Nat} {t : TypeId} {x : XV} {st : St} {h : Heap} {K : Value → Prop} {β : Nat → Nat} {a : Act} {w : World} {y : Value}
    (r : Rep n st h β a w) (hx : x.is β y) (hk : xsLoad P H t x st h K) : ∃ v, (Instr.loadAt t y).run P w = .ok v w ∧ K v := by
  unfold xsLoad at hk
  split at hk
  · rename_i k o
    have hy : y = .pointer (some ⟨β k, o, none⟩) := hx
    subst hy
    split at hk
    · rename_i cs hcs
      obtain ⟨_, T, hT⟩ := r.priv k cs hcs
      have hcell : ∀ o, w.cell? ⟨β k, o, none⟩ = cs[o]? := by intro o; rw [cell?_of hT]; simp
      have hagg : ∀ (i : TypeInfo), o + i.size ≤ cs.length → ∀ d, P.underlying t = some d → isAggD d = true → P.info? t = some i →
          (Instr.loadAt t (.pointer (some ⟨β k, o, none⟩))).run P w = .ok (.agg ((cs.drop o).take i.size).toArray) w := by
        intro i hle d hd hda hi
        have := run_loadVar_agg (P := P) (w := w) (b := β k) (o := o) (vs := (cs.drop o).take i.size) hd hda hi (by simp; omega) (by
          intro j hj
          rw [hcell]
          have hj' : j < i.size := by simp at hj; omega
          simp [hj', List.getElem?_drop])
        simp [Instr.loadAt, Instr.sureAddr, this]
      unfold xsGetP at hk
      split at hk
      · unfold xsGetD at hk
        split at hk
        · rename_i d hd
          split at hk
          · rename_i hda
            split at hk
            · rename_i i hi
              obtain ⟨hle, hk⟩ := hk
              split at hk
              · rename_i l hl
                split at hk
                · rename_i hb
                  have hb' : l.length = i.size := Nat.eq_of_beq_eq_true hb
                  obtain ⟨vs, hvl, hvc, hkv⟩ := leavesK_ok l _ o _ hk
                  refine ⟨_, hagg i hle d hd hda hi, ?_⟩
                  have h2 : (cs.drop o).take i.size = vs := by
                    apply List.ext_getElem?
                    intro j
                    rw [List.getElem?_take, List.getElem?_drop]
                    by_cases hj : j < vs.length
                    · rw [if_pos (by omega)]; exact hvc j hj
                    · rw [if_neg (by omega), List.getElem?_eq_none (by omega)]
                  rw [h2]; exact hkv
                · exact hk.elim
              · exact ⟨_, hagg i hle d hd hda hi, hk⟩
            · exact hk.elim
          · rename_i hda
            obtain ⟨v, hv, hkv⟩ := leafK_ok hk
            unfold lget at hv
            refine ⟨v, ?_, hkv⟩
            have := run_loadVar_one (P := P) (w := w) (b := β k) (o := o) (v := v) hd hda (by rw [hcell, hv])
            simp [Instr.loadAt, Instr.sureAddr, this]
        · exact hk.elim
      · unfold xsGetS at hk
        split at hk
        · rename_i d hd
          split at hk
          · rename_i hda
            split at hk
            · rename_i i hi
              split at hk
              · rename_i hle
                exact ⟨_, hagg i (Nat.le_of_ble_eq_true hle) d hd hda hi, forceAgg_ok hk⟩
              · exact hk.elim
            · exact hk.elim
          · rename_i hda
            split at hk
            · rename_i v hv
              refine ⟨v, ?_, hk⟩
              have := run_loadVar_one (P := P) (w := w) (b := β k) (o := o) (v := v) hd hda (by rw [hcell, hv])
              simp [Instr.loadAt, Instr.sureAddr, this]
            · exact hk.elim
        · exact hk.elim
    · exact hk.elim
  · rename_i b o
    have hy : y = .pointer (some ⟨b, o, none⟩) := hx
    subst hy
    unfold xsGetH at hk
    split at hk
    · rename_i d hd
      split at hk
      · rename_i hda
        split at hk
        · rename_i i hi
          split at hk
          · rename_i l hl
            split at hk
            · rename_i hle
              have hle' : l.length = i.size := Nat.eq_of_beq_eq_true hle
              split at hk
              · obtain ⟨vs, hvl, hvc, hkv⟩ := leavesK_ok l _ o _ hk
                refine ⟨_, ?_, hkv⟩
                have := run_loadVar_agg (P := P) (w := w) (b := b) (o := o) (vs := vs) hd hda hi (by omega) (by
                  intro j hj
                  have h1 := hvc j hj
                  have h2 : vs[j]? = some vs[j] := by simp [hj]
                  rw [h2] at h1 ⊢
                  exact cell?_sub r.sub h1)
                simp [Instr.loadAt, Instr.sureAddr, this]
              · obtain ⟨vs, hvl, hvc, hkv⟩ := hk
                refine ⟨_, ?_, hkv⟩
                have := run_loadVar_agg (P := P) (w := w) (b := b) (o := o) (vs := vs) hd hda hi (by omega) (by
                  intro j hj
                  have h1 : h.cell b (o + j) = vs[j]? := hvc j hj
                  have h2 : vs[j]? = some vs[j] := by simp [hj]
                  rw [h2] at h1 ⊢
                  exact cell?_sub r.sub h1)
                simp [Instr.loadAt, Instr.sureAddr, this]
            · exact hk.elim
          · exact hk.elim
        · exact hk.elim
      · rename_i hda
        obtain ⟨v, hv, hkv⟩ := leafK_ok hk
        refine ⟨v, ?_, hkv⟩
        have := run_loadVar_one (P := P) (w := w) (b := b) (o := o) (v := v) hd hda (cell?_sub r.sub hv)
        simp [Instr.loadAt, Instr.sureAddr, this]
    · exact hk.elim
  · exact hk.elim

/-- The same, in all worlds that hold what is held. -/
theorem xsLoad_all {P : Program} {H : Hn} {t : TypeId} {x : XV} {st : St} {h : Heap} {K : Value → Prop} {β : Nat → Nat} {W : World → Prop} {y : Value}
    (hp : ∀ k cs, st.pget k = some cs → ∀ w, W w → ∃ T, w.heap[β k]? = some (.cells cs.toArray T (0, 0))) (hsub : ∀ w, W w → Sub h w) (hx : x.is β y) (hk : xsLoad P H t x st h K) :
    ∃ v, (∀ w, W w → (Instr.loadAt t y).run P w = .ok v w) ∧ K v := by
  unfold xsLoad at hk
  split at hk
  · rename_i k o
    have hy : y = .pointer (some ⟨β k, o, none⟩) := hx
    subst hy
    split at hk
    · rename_i cs hcs
      have hcell : ∀ w, W w → ∀ o, w.cell? ⟨β k, o, none⟩ = cs[o]? := by intro w hw o; obtain ⟨T, hT⟩ := hp k cs hcs w hw; rw [cell?_of hT]; simp
      have hagg : ∀ (i : TypeInfo), o + i.size ≤ cs.length → ∀ d, P.underlying t = some d → isAggD d = true → P.info? t = some i →
          ∀ w, W w → (Instr.loadAt t (.pointer (some ⟨β k, o, none⟩))).run P w = .ok (.agg ((cs.drop o).take i.size).toArray) w := by
        intro i hle d hd hda hi w hw
        have := run_loadVar_agg (P := P) (w := w) (b := β k) (o := o) (vs := (cs.drop o).take i.size) hd hda hi (by simp; omega) (by
          intro j hj
          rw [hcell w hw]
          have hj' : j < i.size := by simp at hj; omega
          simp [hj', List.getElem?_drop])
        simp [Instr.loadAt, Instr.sureAddr, this]
      unfold xsGetP at hk
      split at hk
      · unfold xsGetD at hk
        split at hk
        · rename_i d hd
          split at hk
          · rename_i hda
            split at hk
            · rename_i i hi
              obtain ⟨hle, hk⟩ := hk
              split at hk
              · rename_i l hl
                split at hk
                · rename_i hb
                  have hb' : l.length = i.size := Nat.eq_of_beq_eq_true hb
                  obtain ⟨vs, hvl, hvc, hkv⟩ := leavesK_ok l _ o _ hk
                  refine ⟨_, hagg i hle d hd hda hi, ?_⟩
                  have h2 : (cs.drop o).take i.size = vs := by
                    apply List.ext_getElem?
                    intro j
                    rw [List.getElem?_take, List.getElem?_drop]
                    by_cases hj : j < vs.length
                    · rw [if_pos (by omega)]; exact hvc j hj
                    · rw [if_neg (by omega), List.getElem?_eq_none (by omega)]
                  rw [h2]; exact hkv
                · exact hk.elim
              · exact ⟨_, hagg i hle d hd hda hi, hk⟩
            · exact hk.elim
          · rename_i hda
            obtain ⟨v, hv, hkv⟩ := leafK_ok hk
            unfold lget at hv
            refine ⟨v, fun w hw => ?_, hkv⟩
            have := run_loadVar_one (P := P) (w := w) (b := β k) (o := o) (v := v) hd hda (by rw [hcell w hw, hv])
            simp [Instr.loadAt, Instr.sureAddr, this]
        · exact hk.elim
      · unfold xsGetS at hk
        split at hk
        · rename_i d hd
          split at hk
          · rename_i hda
            split at hk
            · rename_i i hi
              split at hk
              · rename_i hle
                exact ⟨_, hagg i (Nat.le_of_ble_eq_true hle) d hd hda hi, forceAgg_ok hk⟩
              · exact hk.elim
            · exact hk.elim
          · rename_i hda
            split at hk
            · rename_i v hv
              refine ⟨v, fun w hw => ?_, hk⟩
              have := run_loadVar_one (P := P) (w := w) (b := β k) (o := o) (v := v) hd hda (by rw [hcell w hw, hv])
              simp [Instr.loadAt, Instr.sureAddr, this]
            · exact hk.elim
        · exact hk.elim
    · exact hk.elim
  · rename_i b o
    have hy : y = .pointer (some ⟨b, o, none⟩) := hx
    subst hy
    unfold xsGetH at hk
    split at hk
    · rename_i d hd
      split at hk
      · rename_i hda
        split at hk
        · rename_i i hi
          split at hk
          · rename_i l hl
            split at hk
            · rename_i hle
              have hle' : l.length = i.size := Nat.eq_of_beq_eq_true hle
              split at hk
              · obtain ⟨vs, hvl, hvc, hkv⟩ := leavesK_ok l _ o _ hk
                refine ⟨_, fun w hw => ?_, hkv⟩
                have := run_loadVar_agg (P := P) (w := w) (b := b) (o := o) (vs := vs) hd hda hi (by omega) (by
                  intro j hj
                  have h1 := hvc j hj
                  have h2 : vs[j]? = some vs[j] := by simp [hj]
                  rw [h2] at h1 ⊢
                  exact cell?_sub (hsub w hw) h1)
                simp [Instr.loadAt, Instr.sureAddr, this]
              · obtain ⟨vs, hvl, hvc, hkv⟩ := hk
                refine ⟨_, fun w hw => ?_, hkv⟩
                have := run_loadVar_agg (P := P) (w := w) (b := b) (o := o) (vs := vs) hd hda hi (by omega) (by
                  intro j hj
                  have h1 : h.cell b (o + j) = vs[j]? := hvc j hj
                  have h2 : vs[j]? = some vs[j] := by simp [hj]
                  rw [h2] at h1 ⊢
                  exact cell?_sub (hsub w hw) h1)
                simp [Instr.loadAt, Instr.sureAddr, this]
            · exact hk.elim
          · exact hk.elim
        · exact hk.elim
      · rename_i hda
        obtain ⟨v, hv, hkv⟩ := leafK_ok hk
        refine ⟨v, fun w hw => ?_, hkv⟩
        have := run_loadVar_one (P := P) (w := w) (b := b) (o := o) (v := v) hd hda (cell?_sub (hsub w hw) hv)
        simp [Instr.loadAt, Instr.sureAddr, this]
    · exact hk.elim
  · exact hk.elim

/-- A load from a private block: of whatever world holds the block. -/
theorem xsLoadP_ok {P : Program} {H : Hn} {t : TypeId} {k o : Nat} {st : St} {h : Heap} {K : Value → Prop} {cs : List Value} (hcs : st.pget k = some cs) (hk : xsLoad P H t (.p k o) st h K) :
    ∃ v, (∀ b w, (∃ T, w.heap[b]? = some (.cells cs.toArray T (0, 0))) → (Instr.loadAt t (.pointer (some ⟨b, o, none⟩))).run P w = .ok v w) ∧ K v := by
  unfold xsLoad at hk
  dsimp only at hk
  rw [hcs] at hk
  dsimp only at hk
  have hcell : ∀ (b : Nat) (w : World), (∃ T, w.heap[b]? = some (.cells cs.toArray T (0, 0))) → ∀ o, w.cell? ⟨b, o, none⟩ = cs[o]? := by
    rintro b w ⟨T, hT⟩ o; rw [cell?_of hT]; simp
  have hagg : ∀ (i : TypeInfo), o + i.size ≤ cs.length → ∀ d, P.underlying t = some d → isAggD d = true → P.info? t = some i →
      ∀ b w, (∃ T, w.heap[b]? = some (.cells cs.toArray T (0, 0))) → (Instr.loadAt t (.pointer (some ⟨b, o, none⟩))).run P w = .ok (.agg ((cs.drop o).take i.size).toArray) w := by
    intro i hle d hd hda hi b w hb
    have := run_loadVar_agg (P := P) (w := w) (b := b) (o := o) (vs := (cs.drop o).take i.size) hd hda hi (by simp; omega) (by
      intro j hj
      rw [hcell b w hb]
      have hj' : j < i.size := by simp at hj; omega
      simp [hj', List.getElem?_drop])
    simp [Instr.loadAt, Instr.sureAddr, this]
  have hone : ∀ v d, P.underlying t = some d → isAggD d = false → cs[o]? = some v → ∀ b w, (∃ T, w.heap[b]? = some (.cells cs.toArray T (0, 0))) → (Instr.loadAt t (.pointer (some ⟨b, o, none⟩))).run P w = .ok v w := by
    intro v d hd hda hv b w hb
    have := run_loadVar_one (P := P) (w := w) (b := b) (o := o) (v := v) hd hda (by rw [hcell b w hb, hv])
    simp [Instr.loadAt, Instr.sureAddr, this]
  unfold xsGetP at hk
  split at hk
  · unfold xsGetD at hk
    split at hk
    · rename_i d hd
      split at hk
      · rename_i hda
        split at hk
        · rename_i i hi
          obtain ⟨hle, hk⟩ := hk
          split at hk
          · rename_i l hl
            split at hk
            · rename_i hb
              have hb' : l.length = i.size := Nat.eq_of_beq_eq_true hb
              obtain ⟨vs, hvl, hvc, hkv⟩ := leavesK_ok l _ o _ hk
              refine ⟨_, hagg i hle d hd hda hi, ?_⟩
              have h2 : (cs.drop o).take i.size = vs := by
                apply List.ext_getElem?
                intro j
                rw [List.getElem?_take, List.getElem?_drop]
                by_cases hj : j < vs.length
                · rw [if_pos (by omega)]; exact hvc j hj
                · rw [if_neg (by omega), List.getElem?_eq_none (by omega)]
              rw [h2]; exact hkv
            · exact hk.elim
          · exact ⟨_, hagg i hle d hd hda hi, hk⟩
        · exact hk.elim
      · rename_i hda
        obtain ⟨v, hv, hkv⟩ := leafK_ok hk
        unfold lget at hv
        exact ⟨v, hone v d hd hda hv, hkv⟩
    · exact hk.elim
  · unfold xsGetS at hk
    split at hk
    · rename_i d hd
      split at hk
      · rename_i hda
        split at hk
        · rename_i i hi
          split at hk
          · rename_i hle
            exact ⟨_, hagg i (Nat.le_of_ble_eq_true hle) d hd hda hi, forceAgg_ok hk⟩
          · exact hk.elim
        · exact hk.elim
      · rename_i hda
        split at hk
        · rename_i v hv
          exact ⟨v, hone v d hd hda hv, hk⟩
        · exact hk.elim
    · exact hk.elim

def xsStore (P : Program) (H : Hn) (t : TypeId) (x : XV) (v : XV) (st : St) (h : Heap) (K : St → Heap → Prop) : Prop :=
  match v with
  | .v v => match P.info? t with
    | some i => xsIf (Nat.beq v.cells.size i.size) (xsIf (oneCells v.cells.toList) (match x with
        | .p k o => match st.pget k with
          | some cs => match memN H.dyn k with
            | true => o + i.size ≤ cs.length ∧ K (st.pput k (lput cs o v.cells.toList)) h
            | false => match Nat.ble (o + i.size) cs.length with
              | true => K (st.pput k (setL cs o v.cells.toList)) h
              | false => False
          | none => False
        | .v (.pointer (some ⟨b, o, none⟩)) => h.can b o i.size ∧ K st (h.put b o v.cells.toList)
        | _ => False) False) False
    | none => False
  | _ => False

/-- A state that an operation without a result leaves. -/
theorem xsStore_ok {P : Program} {H : Hn} {n : Nat} {t : TypeId} {x v : XV} {st : St} {h : Heap} {K : St → Heap → Prop} {β : Nat → Nat} {a : Act} {w : World} {y z : Value}
    (r : Rep n st h β a w) (hx : x.is β y) (hv : v.is β z) (hk : xsStore P H t x v st h K) :
    ∃ st' h' w', (Instr.storeAt t y z).run P w = .ok () w' ∧ Rep n st' h' β a w' ∧ Mid st β h w st' β h' w' ∧ KeepP st β w st' β w' (stTo x) ∧ NewP st st' none ∧ K st' h' := by
  unfold xsStore at hk
  split at hk
  · rename_i v
    have hz : z = v := hv
    subst hz
    split at hk
    · rename_i i hi
      obtain ⟨hk3, hno3⟩ := xsIf_iff.1 hk
      clear hk
      cases hs : Nat.beq z.cells.size i.size with
      | false => exact (hno3 hs).elim
      | true =>
      have hk := hk3 hs
      clear hk3 hno3
      · have hs' : z.cells.size = i.size := Nat.eq_of_beq_eq_true hs
        obtain ⟨hk2, hno⟩ := xsIf_iff.1 hk
        clear hk
        cases h1 : oneCells z.cells.toList with
        | false => exact (hno h1).elim
        | true =>
        have hk := hk2 h1
        clear hk2 hno
        split at hk
        · rename_i k o
          have hy : y = .pointer (some ⟨β k, o, none⟩) := hx
          subst hy
          split at hk
          · rename_i cs hcs
            obtain ⟨_, T, hT⟩ := r.priv k cs hcs
            have hkp : KeepP st β w (st.pput k (setL cs o z.cells.toList)) β (World.putCells w (β k) o z.cells.toList) (stTo (.p k o)) := by
              intro j hj hne
              have hne' : ¬ k = j := fun e => hne (by rw [e]; rfl)
              refine ⟨by rw [pget_pput, if_neg hne'], rfl, ?_⟩
              rw [World.heap_putCells, if_neg]
              exact fun e => hne' (r.inj k j (by rw [hcs]; simp) hj e.symm)
            have hnw : NewP st (st.pput k (setL cs o z.cells.toList)) none := by
              intro j hj
              rw [pget_pput] at hj
              split at hj
              · rename_i e; left; rw [← e, hcs]; simp
              · exact .inl hj
            have hfin : o + i.size ≤ cs.length → (Instr.storeAt t (.pointer (some ⟨β k, o, none⟩)) z).run P w = .ok () (World.putCells w (β k) o z.cells.toList) := by
              intro hle
              have := run_storeVar (P := P) (w := w) (t := t) (b := β k) (o := o) (v := z) hi hT hs' h1 (by simpa using hle) (.inr (Nat.zero_le _))
              simp [Instr.storeAt, Instr.sureAddr, this]
            split at hk
            · exact ⟨_, _, _, hfin hk.1, r.pstore hcs _ _, Mid.pstore r hcs _ _, hkp, hnw, hk.2⟩
            · split at hk
              · rename_i hle
                exact ⟨_, _, _, hfin (Nat.le_of_ble_eq_true hle), r.pstore hcs _ _, Mid.pstore r hcs _ _, hkp, hnw, hk⟩
              · exact hk.elim
          · exact hk.elim
        · rename_i b o
          have hy : y = .pointer (some ⟨b, o, none⟩) := hx
          subst hy
          obtain ⟨⟨c, T, lo, hi', hb, hl, hf⟩, hk⟩ := hk
          have hne : h b ≠ none := by rw [hb]; simp
          have hkp : KeepP st β w st β (World.putCells w b o z.cells.toList) (stTo (.v (.pointer (some ⟨b, o, none⟩)))) := by
            intro j hj _
            obtain ⟨cs, hcs⟩ := Option.ne_none_iff_exists'.1 hj
            refine ⟨rfl, rfl, ?_⟩
            rw [World.heap_putCells, if_neg]
            exact fun e => hne (by rw [← e]; exact (r.priv j cs hcs).1)
          refine ⟨_, _, _, ?_, r.hstore hne _ _, Mid.hstore r hne _ _, hkp, (fun _ hj => .inl hj), hk⟩
          have := run_storeVar (P := P) (w := w) (t := t) (b := b) (o := o) (v := z) hi (r.sub _ _ hb) hs' h1 hl hf
          simp [Instr.storeAt, Instr.sureAddr, this]
        · exact hk.elim
    · exact hk.elim
  · exact hk.elim

/-- A new variable, that holds v. -/
def xsNew (H : Hn) (dst : Option Tmp) (T : TypeId) (v : Value) (st : St) (h : Heap) (K : XV → St → Heap → Prop) : Prop :=
  match dst with
  | none => False
  | some d => match memN H.pub d with
    | true => ∀ b, h b = none → K (.v (.pointer (some ⟨b, 0, none⟩))) st (upd h b (.cells v.cells T (0, 0)))
    | false => match st.pget d with
      | some _ => False
      | none => K (.p d 0) (st.pput d v.cells.toList) h

theorem xsNew_ok {P : Program} {H : Hn} {n : Nat} {dst : Option Tmp} {T : TypeId} {v : Value} {st : St} {h : Heap} {K : XV → St → Heap → Prop} {β : Nat → Nat} {a : Act} {w : World}
    (r : Rep n st h β a w) (hk : xsNew H dst T v st h K) :
    ∃ y x st' h' β' w', (newVar T v).run P w = .ok y w' ∧ x.is β' (.pointer (some y)) ∧ Rep n st' h' β' a w' ∧ Mid st β h w st' β' h' w' ∧ (∀ k off, x = .p k off → st'.pget k ≠ none) ∧ KeepP st β w st' β' w' none ∧ NewP st st' dst ∧ K x st' h' := by
  have hkept : ∀ k, st.pget k ≠ none → (w.alloc (.cells v.cells T)).heap[β k]? = w.heap[β k]? := by
    intro k hk
    obtain ⟨cs, hcs⟩ := Option.ne_none_iff_exists'.1 hk
    have := r.lt hcs
    rw [heap_alloc, if_neg (by omega)]
  have hrun : (newVar T v).run P w = .ok ⟨w.heap.size, 0, none⟩ (w.alloc (.cells v.cells T)) := by simp [newVar, newRow]
  unfold xsNew at hk
  split at hk
  · exact hk.elim
  · rename_i d
    split at hk
    · exact ⟨_, .v (.pointer (some ⟨w.heap.size, 0, none⟩)), _, _, _, _, hrun, rfl, r.halloc _, Mid.halloc r _, (fun _ _ e => by cases e), (fun k hk _ => ⟨rfl, rfl, hkept k hk⟩), (fun _ hj => .inl hj), hk _ r.free⟩
    · split at hk
      · exact hk.elim
      · rename_i hd
        refine ⟨_, .p d 0, _, _, _, _, hrun, ?_, r.palloc d hd v.cells T, Mid.palloc r d hd v.cells T, ?_, ?_, ?_, hk⟩
        · simp [XV.is]
        · intro k off e
          cases e
          rw [pget_pput]; simp
        · intro k hk' _
          have hne : ¬ k = d := fun e => hk' (by rw [e]; exact hd)
          exact ⟨by rw [pget_pput, if_neg (fun e => hne e.symm)], (if_neg hne), hkept k hk'⟩
        · intro k hk'
          rw [pget_pput] at hk'
          split at hk'
          · rename_i e; rw [e]; exact .inr rfl
          · exact .inl hk'

def xsFieldAddr (P : Program) (s : TypeId) (x : XV) (f : Nat) (K : XV → Prop) : Prop :=
  match P.underlying s with
  | some (.struct fs) => match fs.toList[f]? with
    | some fd => match P.info? fd.type with
      | some i => match Nat.beq i.size 0 with
        | true => False
        | false => match x with
          | .p k o => K (.p k (o + fd.offset))
          | .v (.pointer (some ⟨b, o, none⟩)) => K (.v (.pointer (some ⟨b, o + fd.offset, none⟩)))
          | _ => False
      | none => False
    | none => False
  | _ => False

theorem xsFieldAddr_ok {P : Program} {s : TypeId} {x : XV} {f : Nat} {K : XV → Prop} {β : Nat → Nat} {y : Value} (hx : x.is β y) (hk : xsFieldAddr P s x f K) :
    ∃ v z, (∀ w, (Instr.fieldAt s y f).run P w = .ok v w) ∧ XV.is β z v ∧ (∀ k o, z = .p k o → ∃ o', x = .p k o') ∧ K z := by
  unfold xsFieldAddr at hk
  split at hk
  · rename_i fs hs
    split at hk
    · rename_i fd hfd
      have hfd' : fs[f]? = some fd := by simpa using hfd
      split at hk
      · rename_i i hi
        split at hk
        · exact hk.elim
        · rename_i hz
          have hz' : ¬ i.size = 0 := by intro e; rw [e] at hz; cases hz
          split at hk
          · rename_i k o
            have hy : y = .pointer (some ⟨β k, o, none⟩) := hx
            subst hy
            refine ⟨.pointer (some ⟨β k, o + fd.offset, none⟩), .p k (o + fd.offset), ?_, rfl, (fun k' o' e => ⟨o, by cases e; rfl⟩), hk⟩
            intro w
            simp [Instr.fieldAt, run_underlying hs, hfd', Instr.sureAddr, fieldPlace, run_sizeOf hi, hz', add_lit]
          · rename_i b o
            have hy : y = .pointer (some ⟨b, o, none⟩) := hx
            subst hy
            refine ⟨.pointer (some ⟨b, o + fd.offset, none⟩), .v (.pointer (some ⟨b, o + fd.offset, none⟩)), ?_, rfl, (fun k' o' e => by cases e), hk⟩
            intro w
            simp [Instr.fieldAt, run_underlying hs, hfd', Instr.sureAddr, fieldPlace, run_sizeOf hi, hz', add_lit]
          · exact hk.elim
      · exact hk.elim
    · exact hk.elim
  · exact hk.elim

/-- A part of an aggregate. -/
def xsPart (P : Program) (t : TypeId) (c : List Value) (o : Nat) (K : Value → Prop) : Prop := xsGetS P t c o K

theorem xsPart_ok {P : Program} {t : TypeId} {c : List Value} {o : Nat} {K : Value → Prop} (hk : xsPart P t c o K) : ∃ v, (∀ w, (part t c.toArray o).run P w = .ok v w) ∧ K v := by
  unfold xsPart xsGetS at hk
  split at hk
  · rename_i d hd
    split at hk
    · rename_i hda
      split at hk
      · rename_i i hi
        split at hk
        · rename_i hle
          refine ⟨_, ?_, forceAgg_ok hk⟩
          intro w
          simp [part, run_isAgg hd, hda, run_sizeOf hi, List.take_drop]
        · exact hk.elim
      · exact hk.elim
    · rename_i hda
      split at hk
      · rename_i v hv
        refine ⟨v, ?_, hk⟩
        intro w
        simp [part, run_isAgg hd, hda, hv]
      · exact hk.elim
  · exact hk.elim

def xsField (P : Program) (s : TypeId) (x : XV) (f : Nat) (K : Value → Prop) : Prop :=
  match P.underlying s with
  | some (.struct fs) => match fs.toList[f]? with
    | some fd => match x with
      | .v (.agg c) => xsPart P fd.type c.toList fd.offset K
      | _ => False
    | none => False
  | _ => False

theorem xsField_ok {P : Program} {s : TypeId} {x : XV} {f : Nat} {K : Value → Prop} {β : Nat → Nat} {y : Value} (hx : x.is β y) (hk : xsField P s x f K) :
    ∃ v, (∀ w, (Instr.field s y f).run P w = .ok v w) ∧ K v := by
  unfold xsField at hk
  split at hk
  · rename_i fs hs
    split at hk
    · rename_i fd hfd
      have hfd' : fs[f]? = some fd := by simpa using hfd
      split at hk
      · rename_i c
        have hy : y = .agg c := hx
        subst hy
        obtain ⟨v, hv, hkv⟩ := xsPart_ok hk
        refine ⟨v, ?_, hkv⟩
        intro w
        simp only [Array.toArray_toList] at hv
        simp [Instr.field, run_underlying hs, hfd', asAgg, hv]
      · exact hk.elim
    · exact hk.elim
  · exact hk.elim

end Go.Gb
namespace Go.Gb

/-! More operations: aggregates, slices, strings, conversions. -/

def infoSz (P : Program) (t : TypeId) : Nat :=
  match P.info? t with
  | some i => i.size
  | none => 0

def fillL (places : Nat → Option (Nat × Nat)) : List Value → List (Nat × Value) → Option (List Value)
  | cells, [] => some cells
  | cells, (i, v) :: rest =>
    match places i with
    | none => none
    | some (off, size) => match Nat.beq v.cells.size size with
      | true => match Nat.ble (off + size) cells.length with
        | true => fillL places (setL cells off v.cells.toList) rest
        | false => none
      | false => none

theorem foldl_setL (vs : List Value) : ∀ (c : List Value) (off k : Nat),
    (vs.zipIdx k).foldl (fun (cs : Array Value) (x : Value × Nat) => cs.setIfInBounds (off + x.2) x.1) c.toArray = (setL c (off + k) vs).toArray := by
  induction vs with
  | nil => intro c off k; rfl
  | cons v r ih =>
    intro c off k
    simp only [List.zipIdx_cons, List.foldl_cons, setL]
    have := ih (c.set (off + k) v) off (k + 1)
    rw [show off + (k + 1) = off + k + 1 by omega] at this
    rw [← this]
    congr 1
    simp

theorem fill_of {places : Nat → Option (Nat × Nat)} (parts : List (Nat × Value)) : ∀ (c r : List Value), fillL places c parts = some r → Instr.fill places c.toArray parts = some r.toArray := by
  induction parts with
  | nil => intro c r h; simp only [fillL, Option.some.injEq] at h; subst h; rfl
  | cons p rest ih =>
    obtain ⟨i, v⟩ := p
    intro c r h
    unfold fillL at h
    unfold Instr.fill
    split at h
    · cases h
    · rename_i off size hp
      rw [hp]
      split at h
      · rename_i hs
        split at h
        · rename_i hle
          have hs' : v.cells.size = size := Nat.eq_of_beq_eq_true hs
          have hle' := Nat.le_of_ble_eq_true hle
          have hno : ¬ ((decide (v.cells.size ≠ size) || decide (off + v.cells.size > c.toArray.size)) = true) := by simp; omega
          dsimp only
          rw [if_neg hno]
          have h2 : v.cells.zipIdx.foldl (fun cs (c, j) => cs.setIfInBounds (off + j) c) c.toArray = (setL c off v.cells.toList).toArray := by
            rw [← Array.foldl_toList]
            have := foldl_setL v.cells.toList c off 0
            simp only [Nat.add_zero] at this
            rw [← this]
            simp
          rw [h2]
          exact ih _ _ h
        · cases h
      · cases h

theorem run_mapM_list {P : Program} {w : World} {α β : Type} (g : α → Sem β) (g' : α → β) (l : List α) (h : ∀ x, x ∈ l → (g x).run P w = .ok (g' x) w) : (l.mapM g).run P w = .ok (l.map g') w := by
  induction l with
  | nil => simp
  | cons x r ih =>
    rw [List.mapM_cons, Sem.run_bind, h x (by simp), Result.andThen_ok, Sem.run_bind, ih (fun y hy => h y (by simp [hy])), Result.andThen_ok]
    simp

theorem run_mapM_array {P : Program} {w : World} {α β : Type} (g : α → Sem β) (g' : α → β) (l : Array α) (h : ∀ x, x ∈ l.toList → (g x).run P w = .ok (g' x) w) : (l.mapM g).run P w = .ok (l.map g') w := by
  rw [Array.mapM_eq_mapM_toList, Sem.run_map, run_mapM_list g g' l.toList h, Result.andThen_ok]
  congr 1
  apply Array.ext'
  simp

def opdVals (st : St) : List (Nat × Operand) → Option (List (Nat × Value))
  | [] => some []
  | (i, x) :: r => match st.opd x with
    | .v v => match opdVals st r with
      | some l => some ((i, v) :: l)
      | none => none
    | _ => none

theorem opdVals_ok {n : Nat} {st : St} {h : Heap} {β : Nat → Nat} {a : Act} {w : World} (r : Rep n st h β a w) (l : List (Nat × Operand)) : ∀ l', opdVals st l = some l' → l.map (fun p => (p.1, a.eval p.2)) = l' := by
  induction l with
  | nil => intro l' h; simp only [opdVals, Option.some.injEq] at h; subst h; rfl
  | cons p rest ih =>
    obtain ⟨i, x⟩ := p
    intro l' h
    unfold opdVals at h
    split at h
    · rename_i v hv
      split at h
      · rename_i l2 hl2
        simp only [Option.some.injEq] at h
        subst h
        rcases r.opd x with hd | hi
        · rw [hv] at hd; cases hd
        · rw [hv] at hi
          simp only [List.map_cons, ih _ hl2]
          rw [show a.eval x = v from hi]
      · cases h
    · cases h

def opdList (st : St) : List Operand → Option (List Value)
  | [] => some []
  | x :: r => match st.opd x with
    | .v v => match opdList st r with
      | some l => some (v :: l)
      | none => none
    | _ => none

theorem opdList_ok {n : Nat} {st : St} {h : Heap} {β : Nat → Nat} {a : Act} {w : World} (r : Rep n st h β a w) (l : List Operand) : ∀ l', opdList st l = some l' → l.map a.eval = l' := by
  induction l with
  | nil => intro l' h; simp only [opdList, Option.some.injEq] at h; subst h; rfl
  | cons x rest ih =>
    intro l' h
    unfold opdList at h
    split at h
    · rename_i v hv
      split at h
      · rename_i l2 hl2
        simp only [Option.some.injEq] at h
        subst h
        rcases r.opd x with hd | hi
        · rw [hv] at hd; cases hd
        · rw [hv] at hi
          simp only [List.map_cons, ih _ hl2]
          rw [show a.eval x = v from hi]
      · cases h
    · cases h

def placeS (P : Program) (fs : List Field) (i : Nat) : Option (Nat × Nat) :=
  match fs[i]? with
  | some f => some (f.offset, infoSz P f.type)
  | none => none

def allInfo (P : Program) : List Field → Bool
  | [] => true
  | f :: r => match P.info? f.type with
    | some _ => allInfo P r
    | none => false

theorem allInfo_ok {P : Program} (l : List Field) (h : allInfo P l = true) : ∀ f, f ∈ l → ∃ i, P.info? f.type = some i := by
  induction l with
  | nil => intro f hf; cases hf
  | cons g r ih =>
    unfold allInfo at h
    split at h
    · rename_i i hi
      intro f hf
      rcases List.mem_cons.1 hf with rfl | hf
      · exact ⟨i, hi⟩
      · exact ih h f hf
    · cases h

def xsBuild (P : Program) (t : TypeId) (parts : List (Nat × Operand)) (st : St) (K : Value → Prop) : Prop :=
  match P.info? t with
  | some inf => match inf.zero with
    | some z => match opdVals st parts with
      | some vs => match P.underlying t with
        | some (.struct fs) => match allInfo P fs.toList with
          | true => match fillL (placeS P fs.toList) z.cells.toList vs with
            | some cs => listK cs fun cs' => K (.agg cs'.toArray)
            | none => False
          | false => False
        | some (.array _ e) => match P.info? e with
          | some ie => match fillL (fun i => some (i * ie.size, ie.size)) z.cells.toList vs with
            | some cs => listK cs fun cs' => K (.agg cs'.toArray)
            | none => False
          | none => False
        | _ => False
      | none => False
    | none => False
  | none => False

theorem xsBuild_ok {P : Program} {n : Nat} {t : TypeId} {parts : List (Nat × Operand)} {st : St} {h : Heap} {K : Value → Prop} {β : Nat → Nat} {a : Act} {w : World}
    (r : Rep n st h β a w) (hk : xsBuild P t parts st K) : ∃ v, (∀ w, (Instr.build t (parts.toArray.map fun (i, x) => (i, a.eval x))).run P w = .ok v w) ∧ K v := by
  unfold xsBuild at hk
  split at hk
  · rename_i inf hinf
    split at hk
    · rename_i z hz
      split at hk
      · rename_i vs hvs
        have hv := opdVals_ok r parts vs hvs
        have hv2 : (parts.toArray.map fun (i, x) => (i, a.eval x)).toList = vs := by simpa using hv
        have hzero : ∀ w, (zeroValue t).run P w = .ok z w := by intro w; simp [zeroValue, typeInfo, hinf, hz]
        split at hk
        · rename_i fs hfs
          split at hk
          · rename_i hall
            have hall := allInfo_ok _ hall
            split at hk
            · rename_i cs hcs
              refine ⟨_, ?_, listK_ok _ _ hk⟩
              have hpl : ∀ w, (fs.mapM fun f => do pure (f.offset, ← sizeOf f.type) : Sem (Array (Nat × Nat))).run P w = .ok (fs.map fun f => (f.offset, infoSz P f.type)) w := by
                intro w
                refine run_mapM_array _ _ _ ?_
                intro f hf
                obtain ⟨i, hi⟩ := hall f hf
                rw [Sem.run_bind, run_sizeOf hi]
                simp [infoSz, hi]
              have hf := fill_of vs _ _ hcs
              have hfun : (fun x => (fs.map fun f => (f.offset, infoSz P f.type))[x]?) = placeS P fs.toList := by
                funext i
                unfold placeS
                simp only [Array.getElem?_map, Array.getElem?_toList]
                cases fs[i]? <;> rfl
              intro w
              unfold Instr.build
              rw [Sem.run_bind, hzero, Result.andThen_ok, Sem.run_bind, run_underlying hfs, Result.andThen_ok]
              dsimp only
              rw [Sem.run_bind, hpl, Result.andThen_ok, hfun, hv2]
              simp only [Array.toArray_toList] at hf
              rw [hf]
              rfl
            · exact hk.elim
          · exact hk.elim
        · rename_i len e he
          split at hk
          · rename_i ie hie
            split at hk
            · rename_i cs hcs
              refine ⟨_, ?_, listK_ok _ _ hk⟩
              have hf := fill_of vs _ _ hcs
              intro w
              unfold Instr.build
              rw [Sem.run_bind, hzero, Result.andThen_ok, Sem.run_bind, run_underlying he, Result.andThen_ok]
              dsimp only
              rw [Sem.run_bind, run_sizeOf hie, Result.andThen_ok, hv2]
              simp only [Array.toArray_toList] at hf
              rw [hf]
              rfl
            · exact hk.elim
          · exact hk.elim
        · exact hk.elim
      · exact hk.elim
    · exact hk.elim
  · exact hk.elim

/-- An aggregate's part, or a string's byte. -/
def xsIndex (P : Program) (t : TypeId) (x i : XV) (ic : Bool) (K : Value → Prop) : Prop :=
  match P.underlying t, x, i with
  | some (.array len e), .v (.agg c), .v (.int _ i) => match P.info? e with
    | some ie => match ic with
      | true => match decide (0 ≤ i ∧ i < len) with
        | true => xsPart P e c.toList (i.toNat * ie.size) K
        | false => False
      | false => (0 ≤ i ∧ i < len) ∧ xsGetL P e c.toList (i.toNat * ie.size) ie.size K
    | none => False
  | some .string, .v (.string s), .v (.int _ i) => ∃ c : UInt8, 0 ≤ i ∧ bget s i.toNat = some c ∧ K (.int .u8 c.toNat)
  | _, _, _ => False
where
  xsGetL (P : Program) (e : TypeId) (c : List Value) (o sz : Nat) (K : Value → Prop) : Prop :=
    match P.underlying e with
    | some d => match isAggD d with
      | true => match leaves P 8 e with
        | some l => match Nat.beq l.length sz with
          | true => leavesK l (fun j => lget c j) o fun vs => K (.agg vs.toArray)
          | false => False
        | none => False
      | false => leafK (shape P e) (lget c o) K
    | none => False

theorem run_part_of {P : Program} {e : TypeId} {c : List Value} {o : Nat} {sz : Nat} {ie : TypeInfo} (hi : P.info? e = some ie) (hsz : ie.size = sz) {K : Value → Prop}
    (hk : xsIndex.xsGetL P e c o sz K) : ∃ v, (∀ w, (part e c.toArray o).run P w = .ok v w) ∧ K v := by
  unfold xsIndex.xsGetL at hk
  split at hk
  · rename_i d hd
    split at hk
    · rename_i hda
      split at hk
      · rename_i l hl
        split at hk
        · rename_i hle
          have hle' : l.length = sz := Nat.eq_of_beq_eq_true hle
          obtain ⟨vs, hvl, hvc, hkv⟩ := leavesK_ok l _ o _ hk
          refine ⟨_, ?_, hkv⟩
          have h2 : (c.drop o).take ie.size = vs := by
            apply List.ext_getElem?
            intro j
            rw [List.getElem?_take, List.getElem?_drop]
            by_cases hj : j < vs.length
            · rw [if_pos (by omega)]; exact hvc j hj
            · rw [if_neg (by omega), List.getElem?_eq_none (by omega)]
          intro w
          simp [part, run_isAgg hd, hda, run_sizeOf hi]
          exact h2
        · exact hk.elim
      · exact hk.elim
    · rename_i hda
      obtain ⟨v, hv, hkv⟩ := leafK_ok hk
      unfold lget at hv
      exact ⟨v, (by intro w; simp [part, run_isAgg hd, hda, hv]), hkv⟩
  · exact hk.elim

theorem xsIndex_ok {P : Program} {t : TypeId} {x i : XV} {ic : Bool} {K : Value → Prop} {β : Nat → Nat} {y z : Value} (hx : x.is β y) (hi : i.is β z) (hk : xsIndex P t x i ic K) :
    ∃ v, (∀ w, (Instr.index t y z).run P w = .ok v w) ∧ K v := by
  unfold xsIndex at hk
  split at hk
  · rename_i len e c k i ht
    have hy : y = .agg c := hx
    have hz : z = .int k i := hi
    subst hy hz
    split at hk
    · rename_i ie hie
      split at hk
      · split at hk
        · rename_i hb
          have hb' : 0 ≤ i ∧ i < len := of_decide_eq_true hb
          obtain ⟨v, hv, hkv⟩ := xsPart_ok hk
          refine ⟨v, ?_, hkv⟩
          simp only [Array.toArray_toList] at hv
          intro w
          simp [Instr.index, asIntOf, run_underlying ht, hb', run_sizeOf hie, hv]
        · exact hk.elim
      · obtain ⟨hb', hk⟩ := hk
        obtain ⟨v, hv, hkv⟩ := run_part_of hie rfl hk
        refine ⟨v, ?_, hkv⟩
        simp only [Array.toArray_toList] at hv
        intro w
        simp [Instr.index, asIntOf, run_underlying ht, hb', run_sizeOf hie, hv]
    · exact hk.elim
  · rename_i s k i ht
    have hy : y = .string s := hx
    have hz : z = .int k i := hi
    subst hy hz
    obtain ⟨c, h0, hc, hkv⟩ := hk
    unfold bget at hc
    refine ⟨_, ?_, hkv⟩
    intro w
    simp [Instr.index, asIntOf, run_underlying ht, h0, hc]
  · exact hk.elim

def atBase (x : Option Addr) (K : Nat → Nat → Prop) : Prop := ∃ b o, x = some ⟨b, o, none⟩ ∧ K b o

def xsIndexAddr (P : Program) (t : TypeId) (x i : XV) (ic : Bool) (K : XV → Prop) : Prop :=
  match P.underlying t, x, i with
  | some (.array len e), .p k o, .v (.int _ i) => match P.info? e with
    | some ie => match ic with
      | true => match decide (0 ≤ i ∧ i < len) with
        | true => K (.p k (o + i.toNat * ie.size))
        | false => False
      | false => (0 ≤ i ∧ i < len) ∧ K (.p k (o + i.toNat * ie.size))
    | none => False
  | some (.array len e), .v (.pointer (some ⟨b, o, none⟩)), .v (.int _ i) => match P.info? e with
    | some ie => (0 ≤ i ∧ i < len) ∧ K (.v (.pointer (some ⟨b, o + i.toNat * ie.size, none⟩)))
    | none => False
  | some (.slice e), .v (.slice a n _), .v (.int _ i) => match P.info? e with
    | some ie => (0 ≤ i ∧ i < n) ∧ atBase a fun b o => K (.v (.pointer (some ⟨b, o + i.toNat * ie.size, none⟩)))
    | none => False
  | _, _, _ => False

theorem xsIndexAddr_ok {P : Program} {t : TypeId} {x i : XV} {ic : Bool} {K : XV → Prop} {β : Nat → Nat} {y z : Value} (hx : x.is β y) (hi : i.is β z) (hk : xsIndexAddr P t x i ic K) :
    ∃ v u, (∀ w, (Instr.indexAt t y z).run P w = .ok v w) ∧ XV.is β u v ∧ (∀ k o, u = .p k o → ∃ o', x = .p k o') ∧ K u := by
  unfold xsIndexAddr at hk
  split at hk
  · rename_i len e k o kk i ht
    have hy : y = .pointer (some ⟨β k, o, none⟩) := hx
    have hz : z = .int kk i := hi
    subst hy hz
    split at hk
    · rename_i ie hie
      have fin : (0 ≤ i ∧ i < len) → ∀ w, (Instr.indexAt t (.pointer (some ⟨β k, o, none⟩)) (.int kk i)).run P w = .ok (.pointer (some ⟨β k, o + i.toNat * ie.size, none⟩)) w := by
        intro hb w
        simp [Instr.indexAt, asIntOf, run_underlying ht, Instr.sureAddr, hb, run_sizeOf hie, add_lit]
      split at hk
      · split at hk
        · rename_i hb
          exact ⟨_, .p k (o + i.toNat * ie.size), fin (of_decide_eq_true hb), rfl, (fun k' o' e => ⟨o, by cases e; rfl⟩), hk⟩
        · exact hk.elim
      · exact ⟨_, .p k (o + i.toNat * ie.size), fin hk.1, rfl, (fun k' o' e => ⟨o, by cases e; rfl⟩), hk.2⟩
    · exact hk.elim
  · rename_i len e b o kk i ht
    have hy : y = .pointer (some ⟨b, o, none⟩) := hx
    have hz : z = .int kk i := hi
    subst hy hz
    split at hk
    · rename_i ie hie
      obtain ⟨hb, hk⟩ := hk
      refine ⟨.pointer (some ⟨b, o + i.toNat * ie.size, none⟩), .v (.pointer (some ⟨b, o + i.toNat * ie.size, none⟩)), ?_, rfl, (fun k' o' e => by cases e), hk⟩
      intro w
      simp [Instr.indexAt, asIntOf, run_underlying ht, Instr.sureAddr, hb, run_sizeOf hie, add_lit]
    · exact hk.elim
  · rename_i e aa n m kk i ht
    have hy : y = .slice aa n m := hx
    have hz : z = .int kk i := hi
    subst hy hz
    split at hk
    · rename_i ie hie
      obtain ⟨hb, b, o, rfl, hk⟩ := hk
      refine ⟨.pointer (some ⟨b, o + i.toNat * ie.size, none⟩), .v (.pointer (some ⟨b, o + i.toNat * ie.size, none⟩)), ?_, rfl, (fun k' o' e => by cases e), hk⟩
      intro w
      simp [Instr.indexAt, asIntOf, run_underlying ht, hb, run_sizeOf hie, add_lit]
    · exact hk.elim
  · exact hk.elim

end Go.Gb
