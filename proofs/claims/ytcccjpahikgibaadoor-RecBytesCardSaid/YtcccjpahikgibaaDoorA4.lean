/- Own texts for the seat: GbEq. -/
import Derived.Test.YtcccjpahikgibaaDoorA3
import Derived.Laws.StructEq
import Derived.ChangeKeysEq
set_option linter.unusedVariables false
set_option linter.unusedSimpArgs false
set_option linter.unnecessarySimpa false
set_option linter.deprecated false
namespace Go.Gb

/-! Equality. -/

def ptrEq {α : Type} (a b : Option α) : Option Bool :=
  match b with
  | none => some a.isNone
  | some _ => match a with
    | none => some false
    | some _ => none

/-- A part of an aggregate, at a place that is known. -/
def partV (P : Program) (t : TypeId) (c : List Value) (o : Nat) : Option Value :=
  match P.underlying t with
  | some d => match isAggD d with
    | true => match P.info? t with
      | some i => match Nat.ble (o + i.size) c.length with
        | true => some (.agg ((c.drop o).take i.size).toArray)
        | false => none
      | none => none
    | false => c[o]?
  | none => none

theorem partV_ok {P : Program} {t : TypeId} {c : List Value} {o : Nat} {v : Value} {w : World} (h : partV P t c o = some v) : (part t c.toArray o).run P w = .ok v w := by
  have : xsPart P t c o (fun x => x = v) := by
    unfold partV at h
    unfold xsPart xsGetS
    cases hd : P.underlying t with
    | none => rw [hd] at h; cases h
    | some d =>
      rw [hd] at h
      dsimp only at h ⊢
      cases ha : isAggD d with
      | true =>
        rw [ha] at h
        dsimp only at h ⊢
        cases hi : P.info? t with
        | none => rw [hi] at h; cases h
        | some i =>
          rw [hi] at h
          dsimp only at h ⊢
          cases hb : Nat.ble (o + i.size) c.length with
          | true => rw [hb] at h; exact forceAgg_mk (Option.some.inj h)
          | false => rw [hb] at h; cases h
      | false =>
        rw [ha] at h
        dsimp only at h ⊢
        rw [h]
  obtain ⟨v', hv, rfl⟩ := xsPart_ok this
  exact hv w

def eqFs (P : Program) (f : TypeId → Value → Value → Option Bool) : List Field → List Value → List Value → Option Bool
  | [], _, _ => some true
  | g :: r, xs, ys => match decide (g.name = "_") with
    | true => eqFs P f r xs ys
    | false => match partV P g.type xs g.offset, partV P g.type ys g.offset with
      | some a, some b => match f g.type a b, eqFs P f r xs ys with
        | some p, some q => some (p && q)
        | _, _ => none
      | _, _ => none

def eqAs (P : Program) (f : TypeId → Value → Value → Option Bool) (e : TypeId) (c : Nat) : List Nat → List Value → List Value → Option Bool
  | [], _, _ => some true
  | i :: r, xs, ys => match partV P e xs (i * c), partV P e ys (i * c) with
    | some a, some b => match f e a b, eqAs P f e c r xs ys with
      | some p, some q => some (p && q)
      | _, _ => none
    | _, _ => none

def eqV (P : Program) : Nat → TypeId → Value → Value → Option Bool
  | 0, _, _, _ => none
  | d + 1, t, x, y => match P.underlying t with
    | some .bool => match x, y with
      | .bool a, .bool b => some (a == b)
      | _, _ => none
    | some (.int _) => match x, y with
      | .int k a, .int k' b => match decide (k = k') with
        | true => some (decide (a = b))
        | false => none
      | _, _ => none
    | some .string => match x, y with
      | .string a, .string b => some (decide (a = b))
      | _, _ => none
    | some (.pointer _) => match x, y with
      | .pointer a, .pointer b => ptrEq a b
      | _, _ => none
    | some (.slice _) => match x, y with
      | .slice a _ _, .slice b _ _ => ptrEq a b
      | _, _ => none
    | some (.map _ _) => match x, y with
      | .map a, .map b => ptrEq a b
      | _, _ => none
    | some (.func _ _ _) => match x, y with
      | .nilFunc, .nilFunc => some true
      | .func _ _ _, .nilFunc => some false
      | _, _ => none
    | some (.struct fs) => match P.stoodInHeld t with
      | true => none
      | false => match x, y with
        | .agg xs, .agg ys => eqFs P (eqV P d) fs.toList xs.toList ys.toList
        | _, _ => none
    | some (.array n e) => match P.info? e with
      | some _ => match x, y with
        | .agg xs, .agg ys => eqAs P (eqV P d) e (P.cellsOf e) (List.range n) xs.toList ys.toList
        | _, _ => none
      | none => none
    | _ => none

theorem toList_beq (a b : ByteArray) : (a.toList == b.toList) = decide (a = b) := by
  rw [ByteArray.toList_eq, ByteArray.toList_eq]
  obtain ⟨⟨x⟩⟩ := a
  obtain ⟨⟨y⟩⟩ := b
  show (x == y) = _
  by_cases e : x = y
  · subst e; simp
  · rw [beq_eq_false_iff_ne.2 e, decide_eq_false]
    intro h
    injection h with h
    injection h with h
    exact e h

theorem eqFields_of {P : Program} {w : World} {f : TypeId → Value → Value → Option Bool} {D : Nat} (hf : ∀ t x y r, f t x y = some r → (Op.equalIn D t x y).run P w = .ok r w) (fs : List Field) (xs ys : List Value) :
    ∀ r, eqFs P f fs xs ys = some r → (Op.eqFields D xs.toArray ys.toArray fs).run P w = .ok r w := by
  induction fs with
  | nil => intro r h; simp only [eqFs, Option.some.injEq] at h; subst h; rfl
  | cons g r ih =>
    intro b h
    unfold eqFs at h
    unfold Op.eqFields
    split at h
    · rename_i hn
      have hn' : g.name = "_" := of_decide_eq_true hn
      rw [if_neg (by simp [hn'])]
      exact ih b h
    · rename_i hn
      have hn' : g.name ≠ "_" := of_decide_eq_false hn
      rw [if_pos hn']
      split at h
      · rename_i x y hx hy
        split at h
        · rename_i p q hp hq
          simp only [Option.some.injEq] at h
          subst h
          have h1 := partV_ok (w := w) hx
          have h2 := partV_ok (w := w) hy
          have h3 := hf _ _ _ _ hp
          rw [Sem.run_bind, h1, Result.andThen_ok, Sem.run_bind, h2, Result.andThen_ok, Sem.run_bind, h3, Result.andThen_ok]
          cases p with
          | true => simp only [Bool.not_true, Bool.false_eq_true, if_false, Bool.true_and]; exact ih q hq
          | false => simp
        · cases h
      · cases h

theorem eqItems_of {P : Program} {w : World} {f : TypeId → Value → Value → Option Bool} {D : Nat} (hf : ∀ t x y r, f t x y = some r → (Op.equalIn D t x y).run P w = .ok r w) (e : TypeId) (c : Nat) (is : List Nat) (xs ys : List Value) :
    ∀ r, eqAs P f e c is xs ys = some r → (Op.eqItems D e c xs.toArray ys.toArray is).run P w = .ok r w := by
  induction is with
  | nil => intro r h; simp only [eqAs, Option.some.injEq] at h; subst h; rfl
  | cons i r ih =>
    intro b h
    unfold eqAs at h
    unfold Op.eqItems
    split at h
    · rename_i x y hx hy
      split at h
      · rename_i p q hp hq
        simp only [Option.some.injEq] at h
        subst h
        have h1 := partV_ok (w := w) hx
        have h2 := partV_ok (w := w) hy
        have h3 := hf _ _ _ _ hp
        rw [Sem.run_bind, h1, Result.andThen_ok, Sem.run_bind, h2, Result.andThen_ok, Sem.run_bind, h3, Result.andThen_ok]
        cases p with
        | true => simp only [Bool.not_true, Bool.false_eq_true, if_false, Bool.true_and]; exact ih q hq
        | false => simp
      · cases h
    · cases h

theorem ptrEq_none {α : Type} {a : Option α} {r : Bool} (h : ptrEq a none = some r) : r = a.isNone := by
  simp only [ptrEq, Option.some.injEq] at h; exact h.symm

set_option maxHeartbeats 1000000 in
theorem eqV_ok {P : Program} (w : World) : ∀ (d : Nat) (D : Nat) (t : TypeId) (x y : Value) (r : Bool), d ≤ D → eqV P d t x y = some r → (Op.equalIn D t x y).run P w = .ok r w := by
  intro d
  induction d with
  | zero => intro D t x y r _ h; cases h
  | succ d ih =>
    intro D t x y r hD h
    obtain ⟨D, rfl⟩ : ∃ m, D = m + 1 := ⟨D - 1, by omega⟩
    unfold eqV at h
    split at h
    · rename_i ht
      split at h
      · cases h; simp [Op.equalIn, run_underlying ht]
      · cases h
    · rename_i kk ht
      split at h
      · rename_i k a k' b
        split at h
        · rename_i hk
          have hk' : k = k' := of_decide_eq_true hk
          subst hk'
          cases h
          simp [Op.equalIn, run_underlying ht]; rfl
        · cases h
      · cases h
    · rename_i ht
      split at h
      · cases h; simp [Op.equalIn, run_underlying ht, beq_toListBytes, toList_beq]
      · cases h
    · rename_i e ht
      split at h
      · rename_i a b
        cases b with
        | none =>
          rw [ptrEq_none h]
          cases a <;> simp [Op.equalIn, run_underlying ht]
        | some b =>
          cases a with
          | none => cases h; simp [Op.equalIn, run_underlying ht]
          | some a => cases h
      · cases h
    · rename_i e ht
      split at h
      · rename_i a _ _ b _ _
        cases b with
        | none =>
          rw [ptrEq_none h]
          cases a <;> simp [Op.equalIn, run_underlying ht]
        | some b =>
          cases a with
          | none => cases h; simp [Op.equalIn, run_underlying ht]
          | some a => cases h
      · cases h
    · rename_i k e ht
      split at h
      · rename_i a b
        cases b with
        | none =>
          rw [ptrEq_none h]
          cases a <;> simp [Op.equalIn, run_underlying ht]
        | some b =>
          cases a with
          | none => cases h; simp [Op.equalIn, run_underlying ht]
          | some a => cases h
      · cases h
    · rename_i p q s ht
      split at h
      · cases h; simp [Op.equalIn, run_underlying ht]
      · cases h; simp [Op.equalIn, run_underlying ht]
      · cases h
    · rename_i fs ht
      split at h
      · cases h
      · rename_i hp
        split at h
        · rename_i xs ys
          have hfs : P.fieldsOf t = fs := by simp [Program.fieldsOf, ht]
          rw [run_equalIn_struct w D t xs ys (by rw [hfs]; exact ht) hp, hfs]
          have := eqFields_of (P := P) (w := w) (f := eqV P d) (D := D) (fun t x y r hr => ih D t x y r (by omega) hr) fs.toList xs.toList ys.toList r h
          simpa using this
        · cases h
    · rename_i n e ht
      split at h
      · rename_i i hi
        split at h
        · rename_i xs ys
          rw [run_equalIn_array w D xs ys ht hi]
          have := eqItems_of (P := P) (w := w) (f := eqV P d) (D := D) (fun t x y r hr => ih D t x y r (by omega) hr) e (P.cellsOf e) (List.range n) xs.toList ys.toList r h
          simpa using this
        · cases h
      · cases h
    · cases h

/-- x == y, or x != y. -/
def xsEql (P : Program) (op : BinOp) (t : TypeId) (a b : Value) (K : Value → Prop) : Prop :=
  match P.eqGuardType P.depth t with
  | true => False
  | false => match eqV P 8 t a b with
    | some r => match op with
      | .eql => K (.bool r)
      | .neq => K (.bool (!r))
      | _ => False
    | none => False

theorem eqGuard_of {P : Program} {w : World} {op : BinOp} {t : TypeId} {x y : Operand} {a b : Value} (h : P.eqGuardType P.depth t = false) (hn : a ≠ .nilIface) : (eqGuard op t x y a b).run P w = .ok () w := by
  cases op <;> first
    | (simp [eqGuard]; done)
    | (cases a <;> first
        | exact absurd rfl hn
        | (cases b <;> simp [eqGuard, h]))

/-- Values whose kinds have comparisons of their own. -/
def ownCmp : Value → Value → Bool
  | .int _ _, .int _ _ | .float _ _, .float _ _ | .complex _ _ _, .complex _ _ _ | .string _, .string _ => true
  | _, _ => false

theorem binOp_eql_own {t : TypeId} {p q : Value} (h : ownCmp p q = false) : binOp .eql t p q = (do pure (.bool (← Op.equal t p q))) ∧ binOp .neq t p q = (do pure (.bool (!(← Op.equal t p q)))) := by
  cases p <;> cases q <;> first
    | (constructor <;> rfl)
    | (simp [ownCmp] at h; done)

theorem eqV_some {P : Program} {d : Nat} {t : TypeId} {p q : Value} {r : Bool} (h : eqV P d t p q = some r) : p ≠ .nilIface ∧ ((∀ k a k' b, ¬ (p = .int k a ∧ q = .int k' b)) → (∀ a b, ¬ (p = .string a ∧ q = .string b)) → ownCmp p q = false) := by
  cases d with
  | zero => cases h
  | succ d =>
    unfold eqV at h
    constructor
    · rintro rfl
      repeat' split at h
      all_goals first | (cases h; done) | contradiction
    · intro h1 h2
      cases p <;> cases q <;> first
        | rfl
        | (exact absurd ⟨rfl, rfl⟩ (h1 _ _ _ _))
        | (exact absurd ⟨rfl, rfl⟩ (h2 _ _))
        | (exfalso; repeat' split at h
           all_goals first | (cases h; done) | contradiction)

theorem xsEql_ok {P : Program} {op : BinOp} {t : TypeId} {x y : Operand} {p q : Value} {K : Value → Prop} (h1 : ∀ k a k' b, ¬ (p = .int k a ∧ q = .int k' b)) (h2 : ∀ a b, ¬ (p = .string a ∧ q = .string b))
    (hk : xsEql P op t p q K) : ∃ v, (∀ w, (do eqGuard op t x y p q; binOp op t p q : Sem Value).run P w = .ok v w) ∧ K v := by
  unfold xsEql at hk
  split at hk
  · exact hk.elim
  · rename_i hgt
    split at hk
    · rename_i b hb
      have hrun : ∀ w, (Op.equal t p q).run P w = .ok b w := fun w => eqV_ok (P := P) w 8 10000 t p q b (by omega) hb
      obtain ⟨hni, hown⟩ := eqV_some hb
      have hown := hown h1 h2
      have hg := fun w => eqGuard_of (P := P) (w := w) (op := op) (x := x) (y := y) (b := q) hgt hni
      obtain ⟨e1, e2⟩ := binOp_eql_own (t := t) hown
      split at hk
      · refine ⟨_, ?_, hk⟩
        intro w
        rw [Sem.run_bind, hg, Result.andThen_ok, e1, Sem.run_bind, hrun]; rfl
      · refine ⟨_, ?_, hk⟩
        intro w
        rw [Sem.run_bind, hg, Result.andThen_ok, e2, Sem.run_bind, hrun]; rfl
      · exact hk.elim
    · exact hk.elim

theorem Rep.is {n : Nat} {st : St} {h : Heap} {β : Nat → Nat} {a : Act} {w : World} (r : Rep n st h β a w) (x : Operand) : (st.opd x).is β (a.eval x) := by
  rcases r.opd x with hd | hi
  · rw [hd]; trivial
  · exact hi

theorem Rep.val {n : Nat} {st : St} {h : Heap} {β : Nat → Nat} {a : Act} {w : World} (r : Rep n st h β a w) {x : Operand} {v : Value} (hx : st.opd x = .v v) : a.eval x = v := by
  have := r.is x
  rw [hx] at this; exact this

theorem Rep.heldOp {n : Nat} {st : St} {h : Heap} {β : Nat → Nat} {a : Act} {w : World} (r : Rep n st h β a w) {x : Operand} {k off : Nat} (hx : st.opd x = .p k off) : st.pget k ≠ none := by
  cases x with
  | tmp t => exact r.held t k off hx
  | const v => cases hx
  | global g => cases hx
  | func f => cases hx

end Go.Gb
