/- Own text for the seat: GbStill. -/
import Derived.Test.YtmonhmmnnekniabGbStep
import Derived.OrdersHeld
set_option linter.unusedVariables false
set_option linter.unusedSimpArgs false
set_option linter.unnecessarySimpa false
set_option linter.deprecated false
namespace Go.Gb

/-! What looks at the memory, and changes nothing. -/

/-- It never comes to an end in order. -/
def Dead {α : Type} : Sem α → Prop
  | .pure _ => False
  | .halt _ => True
  | .load _ _ k => ∀ v, Dead (k v)
  | .store _ _ _ k => Dead k
  | .new _ k => ∀ n, Dead (k n)
  | .shape _ k => ∀ x, Dead (k x)
  | .freeze _ _ k => Dead k
  | .frozen _ k => ∀ b, Dead (k b)
  | .getObj _ k => ∀ o, Dead (k o)
  | .setObj _ _ k => Dead k
  | .choose _ k => ∀ n, Dead (k n)
  | .sys _ k => ∀ r, Dead (k r)
  | .program k => ∀ p, Dead (k p)
  | .mark _ k => Dead k

/-- It changes nothing, where it comes to an end in order. -/
def Calm {α : Type} : Sem α → Prop
  | .pure _ => True
  | .halt _ => True
  | .load _ _ k => ∀ v, Calm (k v)
  | .store _ _ _ k => Dead k
  | .new _ k => ∀ n, Dead (k n)
  | .shape _ k => ∀ x, Calm (k x)
  | .freeze _ _ k => Dead k
  | .frozen _ k => ∀ b, Calm (k b)
  | .getObj _ k => ∀ o, Calm (k o)
  | .setObj _ _ k => Dead k
  | .choose _ k => ∀ n, Dead (k n)
  | .sys _ k => ∀ r, Dead (k r)
  | .program k => ∀ p, Calm (k p)
  | .mark _ k => Calm k

theorem Dead.run {α : Type} {P : Program} (s : Sem α) : ∀ {w : World} {x : α} {w' : World}, Dead s → s.run P w ≠ .ok x w' := by
  induction s with
  | pure a => intro w x w' h; exact h.elim
  | halt h => intro w x w' _ e; cases e
  | load m a k ih =>
    intro w x w' h e
    unfold Sem.run at e
    split at e
    · exact ih _ (h _) e
    · split at e
      · exact ih _ (h _) e
      · cases e
  | store m a v k ih =>
    intro w x w' h e
    have key : ∀ (r : Result _), r = .ok x w' → (r = match w.cell? a with
        | some _ => if w.frozen? a then .halt (.unsupported (.unsafePointer "a write to bytes that a string shares")) w else k.run P (w.setCell a v)
        | none => match w.farStore P a v (m == .atomic) with
          | .ok (w, _) => k.run P w
          | .error h => .halt h w) → False := by
      intro r hr hm
      rw [hr] at hm
      split at hm
      · split at hm
        · cases hm
        · exact ih h hm.symm
      · split at hm
        · exact ih h hm.symm
        · cases hm
    cases v <;> first | (cases e; done) | exact key _ e rfl
  | new o k ih => intro w x w' h e; exact ih _ (h _) e
  | shape r k ih => intro w x w' h e; exact ih _ (h _) e
  | freeze a n k ih => intro w x w' h e; exact ih h e
  | frozen a k ih => intro w x w' h e; exact ih _ (h _) e
  | getObj r k ih =>
    intro w x w' h e
    unfold Sem.run at e
    split at e
    · cases e
    · exact ih _ (h _) e
    · cases e
  | setObj r o k ih =>
    intro w x w' h e
    unfold Sem.run at e
    split at e
    · cases e
    · exact ih h e
    · cases e
  | choose q k ih =>
    intro w x w' h e
    unfold Sem.run at e
    split at e <;> exact ih _ (h _) e
  | sys c k ih => intro w x w' h e; exact ih _ (h _) e
  | program k ih => intro w x w' h e; exact ih _ (h _) e
  | mark m k ih => intro w x w' h e; exact ih h e

theorem Calm.run {α : Type} {P : Program} (s : Sem α) : ∀ {w : World} {x : α} {w' : World}, Calm s → s.run P w = .ok x w' → w' = w := by
  induction s with
  | pure a => intro w x w' h e; cases e; rfl
  | halt h => intro w x w' _ e; cases e
  | load m a k ih =>
    intro w x w' h e
    unfold Sem.run at e
    split at e
    · exact ih _ (h _) e
    · split at e
      · exact ih _ (h _) e
      · cases e
  | store m a v k ih => intro w x w' h e; exact absurd e (Dead.run (.store m a v k) h)
  | new o k ih => intro w x w' h e; exact absurd e (Dead.run (.new o k) h)
  | shape r k ih => intro w x w' h e; exact ih _ (h _) e
  | freeze a n k ih => intro w x w' h e; exact absurd e (Dead.run (.freeze a n k) h)
  | frozen a k ih => intro w x w' h e; exact ih _ (h _) e
  | getObj r k ih =>
    intro w x w' h e
    unfold Sem.run at e
    split at e
    · cases e
    · exact ih _ (h _) e
    · cases e
  | setObj r o k ih => intro w x w' h e; exact absurd e (Dead.run (.setObj r o k) h)
  | choose q k ih => intro w x w' h e; exact absurd e (Dead.run (.choose q k) h)
  | sys c k ih => intro w x w' h e; exact absurd e (Dead.run (.sys c k) h)
  | program k ih => intro w x w' h e; exact ih _ (h _) e
  | mark m k ih => intro w x w' h e; exact ih h e

theorem Dead.bind {α β : Type} (s : Sem α) (f : α → Sem β) : Dead s → Dead (s >>= f) := by
  show Dead s → Dead (s.bind f)
  induction s with
  | pure a => intro h; exact h.elim
  | halt h => intro _; trivial
  | load m a k ih => intro h v; exact ih v (h v)
  | store m a v k ih => intro h; exact ih h
  | new o k ih => intro h n; exact ih n (h n)
  | shape r k ih => intro h n; exact ih n (h n)
  | freeze a n k ih => intro h; exact ih h
  | frozen a k ih => intro h n; exact ih n (h n)
  | getObj r k ih => intro h n; exact ih n (h n)
  | setObj r o k ih => intro h; exact ih h
  | choose q k ih => intro h n; exact ih n (h n)
  | sys c k ih => intro h n; exact ih n (h n)
  | program k ih => intro h n; exact ih n (h n)
  | mark m k ih => intro h; exact ih h

theorem Calm.bind {α β : Type} (s : Sem α) (f : α → Sem β) (hf : ∀ x, Calm (f x)) : Calm s → Calm (s >>= f) := by
  show Calm s → Calm (s.bind f)
  induction s with
  | pure a => intro _; exact hf a
  | halt h => intro _; trivial
  | load m a k ih => intro h v; exact ih v (h v)
  | store m a v k ih => intro h; exact Dead.bind k f h
  | new o k ih => intro h n; exact Dead.bind (k n) f (h n)
  | shape r k ih => intro h n; exact ih n (h n)
  | freeze a n k ih => intro h; exact Dead.bind k f h
  | frozen a k ih => intro h n; exact ih n (h n)
  | getObj r k ih => intro h n; exact ih n (h n)
  | setObj r o k ih => intro h; exact Dead.bind k f h
  | choose q k ih => intro h n; exact Dead.bind (k n) f (h n)
  | sys c k ih => intro h n; exact Dead.bind (k n) f (h n)
  | program k ih => intro h n; exact ih n (h n)
  | mark m k ih => intro h; exact ih h

theorem calm_pure {α : Type} (x : α) : Calm (pure x : Sem α) := trivial
theorem calm_halt {α : Type} (h : Halt) : Calm (.halt h : Sem α) := trivial
theorem calm_stuck {α : Type} (s : String) : Calm (stuck s : Sem α) := trivial
theorem calm_unsup {α : Type} (u : Unsupported) : Calm (unsupported u : Sem α) := trivial
theorem calm_program : Calm program := fun _ => trivial
theorem calm_load (a : Addr) : Calm (load a) := fun _ => trivial
theorem calm_shape (r : Nat) : Calm (Go.shape r) := fun _ => trivial
theorem dead_panic {α : Type} (v : Value) : Dead (goPanic v : Sem α) := trivial

theorem dead_then {α β : Type} (s : Sem α) (f : α → Sem β) (h : ∀ x, Dead (f x)) : Dead (s >>= f) := by
  show Dead (s.bind f)
  induction s with
  | pure a => exact h a
  | halt _ => trivial
  | load m a k ih => exact fun v => ih v
  | store m a v k ih => exact ih
  | new o k ih => exact fun v => ih v
  | shape r k ih => exact fun v => ih v
  | freeze a n k ih => exact ih
  | frozen a k ih => exact fun v => ih v
  | getObj r k ih => exact fun v => ih v
  | setObj r o k ih => exact ih
  | choose q k ih => exact fun v => ih v
  | sys c k ih => exact fun v => ih v
  | program k ih => exact fun v => ih v
  | mark m k ih => exact ih

theorem dead_runtimePanic {α : Type} (e : RuntimeError) : Dead (runtimePanic e : Sem α) := by
  unfold runtimePanic
  refine dead_then _ _ fun p => ?_
  cases e <;> first | exact dead_panic _ | (refine dead_then _ _ fun _ => ?_; first | exact dead_panic _ | (refine dead_then _ _ fun _ => ?_; exact dead_panic _))

theorem Dead.calm {α : Type} (s : Sem α) : Dead s → Calm s := by
  induction s with
  | pure a => intro h; exact h.elim
  | halt h => intro _; trivial
  | load m a k ih => intro h v; exact ih v (h v)
  | store m a v k ih => intro h; exact h
  | new o k ih => intro h n; exact h n
  | shape r k ih => intro h n; exact ih n (h n)
  | freeze a n k ih => intro h; exact h
  | frozen a k ih => intro h n; exact ih n (h n)
  | getObj r k ih => intro h n; exact ih n (h n)
  | setObj r o k ih => intro h; exact h
  | choose q k ih => intro h n; exact h n
  | sys c k ih => intro h n; exact h n
  | program k ih => intro h n; exact ih n (h n)
  | mark m k ih => intro h; exact ih h

theorem calm_runtimePanic {α : Type} (e : RuntimeError) : Calm (runtimePanic e : Sem α) := (dead_runtimePanic e).calm
theorem calm_boundsPanic {α : Type} (k : IntKind) (x y : Int) (c : BoundsCode) : Calm (boundsPanic k x y c : Sem α) := by
  unfold boundsPanic
  dsimp only
  split <;> exact (dead_then _ _ fun _ => dead_runtimePanic _).calm

theorem calm_typeInfo (t : TypeId) : Calm (typeInfo t) := by
  unfold typeInfo
  refine Calm.bind _ _ (fun p => ?_) calm_program
  split <;> first | exact calm_pure _ | exact calm_stuck _
theorem calm_underlying (t : TypeId) : Calm (underlying t) := by
  unfold underlying
  refine Calm.bind _ _ (fun p => ?_) calm_program
  split <;> first | exact calm_pure _ | exact calm_stuck _
theorem calm_sizeOf (t : TypeId) : Calm (sizeOf t) := by
  unfold sizeOf
  exact Calm.bind _ _ (fun p => calm_pure _) (calm_typeInfo t)
theorem calm_isAgg (t : TypeId) : Calm (isAgg t) := by
  unfold isAgg
  refine Calm.bind _ _ (fun p => ?_) (calm_underlying t)
  split <;> exact calm_pure _
theorem calm_loadCellsFrom (a : Addr) (n : Nat) : ∀ (i : Nat) (acc : Array Value), Calm (loadCellsFrom a i n acc) := by
  induction n with
  | zero => intro i acc; exact calm_pure _
  | succ n ih => intro i acc; unfold loadCellsFrom; exact Calm.bind _ _ (fun v => ih _ _) (calm_load _)
theorem calm_loadVar (t : TypeId) (a : Addr) : Calm (loadVar t a) := by
  unfold loadVar
  refine Calm.bind _ _ (fun b => ?_) (calm_isAgg t)
  split
  · refine Calm.bind _ _ (fun n => ?_) (calm_sizeOf t)
    exact Calm.bind _ _ (fun _ => calm_pure _) (calm_loadCellsFrom a n 0 #[])
  · exact calm_load a
theorem calm_sureAddr (v : Value) : Calm (Instr.sureAddr v) := by
  unfold Instr.sureAddr
  split <;> first | exact calm_pure _ | exact calm_stuck _
theorem calm_loadAt (t : TypeId) (v : Value) : Calm (Instr.loadAt t v) := by
  unfold Instr.loadAt
  exact Calm.bind _ _ (fun a => calm_loadVar t a) (calm_sureAddr v)
theorem calm_asIntOf (v : Value) : Calm (asIntOf v) := by
  unfold asIntOf
  split <;> first | exact calm_pure _ | exact calm_stuck _ | exact calm_unsup _
theorem calm_indexAt (t : TypeId) (x i : Value) : Calm (Instr.indexAt t x i) := by
  unfold Instr.indexAt
  refine Calm.bind _ _ (fun ki => ?_) (calm_asIntOf i)
  refine Calm.bind _ _ (fun d => ?_) (calm_underlying t)
  have fin : ∀ (base : Option Addr) (len : Nat) (elem : TypeId) (tiny : Bool), Calm (match base with
      | some a => if 0 ≤ ki.2 ∧ ki.2 < (len : Int) then (do let s ← sizeOf elem; pure (Value.pointer (some (a.add (ki.2.toNat * s))))) else if tiny = true then unsupported (.noEntry "op/indexAddr.an index out of range at an array of length 0 or 1 (ledger 616)") else boundsPanic ki.1 ki.2 len .index
      | none => boundsPanic ki.1 ki.2 0 .index : Sem Value) := by
    intro base len elem tiny
    cases base with
    | none => exact calm_boundsPanic _ _ _ _
    | some a =>
      dsimp only
      split
      · exact Calm.bind _ _ (fun _ => calm_pure _) (calm_sizeOf _)
      · split
        · exact calm_unsup _
        · exact calm_boundsPanic _ _ _ _
  dsimp only
  split
  · refine Calm.bind _ _ (fun a => ?_) (calm_sureAddr _)
    refine Calm.bind _ _ (fun q => ?_) (calm_pure _)
    refine Calm.bind _ _ (fun d => ?_) (calm_underlying t)
    exact fin _ _ _ _
  · refine Calm.bind _ _ (fun q => ?_) (calm_pure _)
    refine Calm.bind _ _ (fun d => ?_) (calm_underlying t)
    exact fin _ _ _ _
  · exact calm_stuck _
theorem calm_byteOf (a : Addr) : Calm (byteOf a) := by
  unfold byteOf
  split
  · exact calm_pure _
  · refine Calm.bind _ _ (fun p => ?_) calm_program
    refine Calm.bind _ _ (fun _ => ?_) ?_
    · refine Calm.bind _ _ (fun o => ?_) (calm_shape _)
      split
      · dsimp only
        split
        · exact calm_pure _
        · split
          · exact calm_pure _
          · exact calm_stuck _
      · exact calm_stuck _
    · unfold noView
      refine Calm.bind _ _ (fun b => ?_) ?_
      · split
        · exact calm_unsup _
        · exact calm_pure _
      · unfold viewAt
        refine Calm.bind _ _ (fun o => ?_) (calm_shape _)
        split
        · exact calm_pure _
        · refine Calm.bind _ _ (fun o => ?_) (fun _ => trivial)
          split <;> exact calm_pure _
theorem calm_fieldPlace (a : Addr) (f : Field) : Calm (fieldPlace a f) := by
  unfold fieldPlace
  refine Calm.bind _ _ (fun n => ?_) (calm_sizeOf _)
  split
  · unfold partAt
    refine Calm.bind _ _ (fun x => ?_) (calm_byteOf _)
    exact Calm.bind _ _ (fun _ => calm_pure _) (calm_byteOf _)
  · exact calm_pure _
theorem calm_fieldAt (t : TypeId) (x : Value) (i : Nat) : Calm (Instr.fieldAt t x i) := by
  unfold Instr.fieldAt
  refine Calm.bind _ _ (fun d => ?_) (calm_underlying t)
  split
  · split
    · refine Calm.bind _ _ (fun a => ?_) (calm_sureAddr x)
      exact Calm.bind _ _ (fun _ => calm_pure _) (calm_fieldPlace _ _)
    · exact calm_stuck _
  · exact calm_stuck _

theorem calm_asAgg (v : Value) : Calm (asAgg v) := by
  unfold asAgg
  split <;> first | exact calm_pure _ | exact calm_stuck _
theorem calm_part (t : TypeId) (cs : Array Value) (off : Nat) : Calm (part t cs off) := by
  unfold part
  refine Calm.bind _ _ (fun b => ?_) (calm_isAgg t)
  split
  · exact Calm.bind _ _ (fun _ => calm_pure _) (calm_sizeOf t)
  · split <;> first | exact calm_pure _ | exact calm_stuck _
theorem calm_field (t : TypeId) (x : Value) (i : Nat) : Calm (Instr.field t x i) := by
  unfold Instr.field
  refine Calm.bind _ _ (fun d => ?_) (calm_underlying t)
  split
  · split
    · exact Calm.bind _ _ (fun _ => calm_part _ _ _) (calm_asAgg x)
    · exact calm_stuck _
  · exact calm_stuck _
theorem calm_extract (x : Value) (i : Nat) : Calm (Instr.extract x i) := by
  unfold Instr.extract
  split
  · split <;> first | exact calm_pure _ | exact calm_stuck _
  · exact calm_stuck _
theorem calm_asBool (v : Value) : Calm (asBool v) := by
  unfold asBool
  split <;> first | exact calm_pure _ | exact calm_stuck _

/-- Operations that look, and change nothing, whatever they are given. -/
def isStill (o : Oper) : Bool :=
  match o.op with
  | .load _ _ | .move _ | .assign _ | .pick _ _ _ | .fieldAddr _ _ _ | .indexAddr _ _ _ | .field _ _ _ | .extract _ _ => true
  | _ => false

theorem isStill_ok {P : Program} {o : Oper} (h : isStill o = true) {ρ : Operand → Value} {w w' : World} {n : Next} (e : (execOp ρ o).run P w = .ok n w') : w' = w ∧ ∃ u, n = .value u := by
  have key : ∀ s : Sem Value, Calm s → (do pure (Next.value (← s)) : Sem Next).run P w = .ok n w' → w' = w ∧ ∃ u, n = .value u := by
    intro s hs e
    refine ⟨Calm.run _ (Calm.bind _ _ (fun _ => calm_pure _) hs) e, ?_⟩
    rw [Sem.run_bind] at e
    cases hr : s.run P w with
    | ok x w2 => rw [hr] at e; cases e; exact ⟨_, rfl⟩
    | halt _ _ => rw [hr] at e; cases e
  unfold isStill at h
  unfold execOp at e
  split at h
  all_goals first
    | (rename_i ho; rw [ho] at e; first
        | exact key _ (calm_loadAt _ _) e
        | exact key _ (calm_fieldAt _ _ _) e
        | exact key _ (calm_indexAt _ _ _) e
        | exact key _ (calm_field _ _ _) e
        | exact key _ (calm_extract _ _) e
        | (cases e; exact ⟨rfl, _, rfl⟩)
        | (refine ⟨Calm.run _ (Calm.bind _ _ (fun _ => calm_pure _) (calm_asBool _)) e, ?_⟩
           dsimp only at e
           rw [Sem.run_bind] at e
           cases hr : (asBool _ : Sem Bool).run P w with
           | ok x w2 => rw [hr] at e; cases e; exact ⟨_, rfl⟩
           | halt _ _ => rw [hr] at e; cases e))
    | (cases h; done)

section
variable {P : Program} {ops : Array Oper} {Q : Exit → Act → World → Prop} {md : Region.Mode} {S : World → Prop}

/-- An operation that changes nothing leaves the world as it was. -/
theorem wpOp_still {j : Nat} {oj : Oper} (hj : ops[j]? = some oj) (hs : isStill oj = true) {K : Act → World → Prop} {a : Act} {w : World} (h : wpOp P ops Q j K a w) :
    wpOp P ops Q j (fun a' w' => w' = w ∧ K a' w') a w := by
  unfold wpOp at *
  simp only [hj] at *
  split
  · rename_i hw
    simp only [hw, if_true] at h
    refine h.imp (fun h => ?_) id
    unfold Oper.wp at *
    cases hr : (execOp a.eval oj).run P w with
    | ok n w' =>
      obtain ⟨rfl, u, rfl⟩ := isStill_ok hs hr
      rw [hr] at h
      exact ⟨rfl, h⟩
    | halt x w' =>
      rw [hr] at h
      cases x <;> first | exact h | exact h.elim
  · rename_i hw
    simp only [hw] at h
    first | exact ⟨rfl, h⟩ | exact ⟨trivial, h⟩

/-- A look may be taken first where all that may come ahead of it are looks, too. 'late': those that wait for it. -/
theorem wpAnyH_look {i : Nat} {oi : Oper} {v : Value} {late : Nat → Bool} (hi : ops[i]? = some oi) (hsel : ∀ (j : Nat) (o : Oper) cs b, ops[j]? = some o → o.op ≠ .select cs b)
    (hQ : ∀ c a w, Q (.panic c) (a.put oi.dst v) w → Q (.panic c) a w) :
    ∀ (fuel : Nat) (listed : Array Bool) (a : Act) (w : World),
      (∀ j oj, ops[j]? = some oj → late j = true → ∃ e ∈ oj.after, Region.binds md e = true ∧ (e.on = i ∨ late e.on = true)) →
      (∀ j, late j = true → listed.getD j false = false) →
      (∀ j oj, ops[j]? = some oj → j ≠ i → listed.getD j true = false → late j = false → oi.apart ops oj = true ∧ isStill oj = true) →
      i ∈ Region.ready md ops listed → YieldsIf P ops (· = w) oi v a → S w →
      wpAnyH P md ops Q S fuel (listed.setIfInBounds i true) (a.put oi.dst v) w → wpAnyH P md ops Q S (fuel + 1) listed a w := by
  intro fuel
  induction fuel with
  | zero =>
    intro listed a w _ _ _ hr hy hS H
    refine ⟨fun h => (by rw [h] at hr; cases hr), fun j hj => ?_⟩
    by_cases hji : j = i
    · subst hji; exact hy.wpOp hi rfl ⟨hS, H⟩
    · have := ready_mono hj hji
      rw [H.1] at this
      cases this
  | succ fuel ih =>
    intro listed a w hlate hun hfree hr hy hS H
    refine ⟨fun h => (by rw [h] at hr; cases hr), fun j hj => ?_⟩
    by_cases hji : j = i
    · subst hji; exact hy.wpOp hi rfl ⟨hS, H⟩
    · have h1 := H.2 j (ready_mono hj hji)
      obtain ⟨hjun, oj, hoj, hall⟩ := mem_ready.1 hj
      have hiun : listed.getD i false = false := by
        have h0 := (mem_ready.1 hr).1
        rcases Nat.lt_or_ge i listed.size with h' | h'
        · simp [h'] at h0 ⊢; exact h0
        · simp [Array.getElem?_eq_none h']
      have hnl : late j = false := by
        cases hl : late j with
        | false => rfl
        | true =>
          obtain ⟨e, he, hb, hon⟩ := hlate j oj hoj hl
          have := hall e he hb
          rcases hon with h2 | h2
          · rw [h2, hiun] at this; cases this
          · rw [hun _ h2] at this; cases this
      obtain ⟨hap, hst⟩ := hfree j oj hoj hji hjun hnl
      have h2 := wpOp_still hoj hst (wpOp_putIf hoj hap (fun cs b => hsel i oi cs b hi) (fun cs b => hsel j oj cs b hoj) hQ hy h1)
      have hfree' : ∀ k ok, ops[k]? = some ok → k ≠ i → (listed.setIfInBounds j true).getD k true = false → late k = false → oi.apart ops ok = true ∧ isStill ok = true := fun k ok hk hki hun hno => by
        refine hfree k ok hk hki ?_ hno
        by_cases hjk : j = k
        · subst hjk; exact hjun
        · rw [getD_set_ne true hjk] at hun; exact hun
      have hun' : ∀ k, late k = true → (listed.setIfInBounds j true).getD k false = false := fun k hk => by
        have hjk : j ≠ k := fun e => by rw [e, hk] at hnl; cases hnl
        rw [getD_set_ne false hjk]; exact hun k hk
      refine wpOp_mono (fun a' w' h3 => ⟨h3.2.2.1, ?_⟩) h2
      obtain ⟨rfl, hy', h4⟩ := h3
      refine ih (listed.setIfInBounds j true) a' w' hlate hun' hfree' (ready_mono hr (Ne.symm hji)) hy' h4.1 ?_
      rw [Array.setIfInBounds_comm _ _ hji]
      exact h4.2

end
end Go.Gb
