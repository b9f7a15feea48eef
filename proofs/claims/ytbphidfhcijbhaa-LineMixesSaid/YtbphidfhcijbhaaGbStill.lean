/- Own text for the seat: GbStill. -/
import Derived.Test.YtbphidfhcijbhaaGbMap
import Derived.OrdersHeld
set_option linter.unusedVariables false
set_option linter.unusedSimpArgs false
set_option linter.unnecessarySimpa false
set_option linter.deprecated false
namespace Go.Gb

/-! What looks at the memory, and changes nothing. -/

/-- It never comes to an end in order. -/
def Dead {α : Type} : Sem α → Prop
  | .pure _ => False
  | .halt _ => True
  | .load _ _ k => ∀ v, Dead (k v)
  | .store _ _ _ k => Dead k
  | .new _ k => ∀ n, Dead (k n)
  | .shape _ k => ∀ x, Dead (k x)
  | .freeze _ _ k => Dead k
  | .frozen _ k => ∀ b, Dead (k b)
  | .getObj _ k => ∀ o, Dead (k o)
  | .setObj _ _ k => Dead k
  | .choose _ k => ∀ n, Dead (k n)
  | .sys _ k => ∀ r, Dead (k r)
  | .program k => ∀ p, Dead (k p)
  | .mark _ k => Dead k

/-- It changes nothing, where it comes to an end in order. -/
def Calm1 {α : Type} : Sem α → Prop
  | .pure _ => True
  | .halt _ => True
  | .load _ _ k => ∀ v, Calm1 (k v)
  | .store _ _ _ k => Dead k
  | .new _ k => ∀ n, Dead (k n)
  | .shape _ k => ∀ x, Calm1 (k x)
  | .freeze _ _ k => Dead k
  | .frozen _ k => ∀ b, Calm1 (k b)
  | .getObj _ k => ∀ o, Calm1 (k o)
  | .setObj _ _ k => Dead k
  | .choose _ k => ∀ n, Dead (k n)
  | .sys _ k => ∀ r, Dead (k r)
  | .program k => ∀ p, Calm1 (k p)
  | .mark _ k => Calm1 k

theorem Dead.run {α : Type} {P : Program} (s : Sem α) : ∀ {w : World} {x : α} {w' : World}, Dead s → s.run P w ≠ .ok x w' := by
  induction s with
  | pure a => intro w x w' h; exact h.elim
  | halt h => intro w x w' _ e; cases e
  | load m a k ih =>
    intro w x w' h e
    unfold Sem.run at e
    split at e
    · exact ih _ (h _) e
    · split at e
      · exact ih _ (h _) e
      · cases e
  | store m a v k ih =>
    intro w x w' h e
    have key : ∀ (r : Result _), r = .ok x w' → (r = match w.cell? a with
        | some _ => if w.frozen? a then .halt (.unsupported (.unsafePointer "a write to bytes that a string shares")) w else k.run P (w.setCell a v)
        | none => match w.farStore P a v (m == .atomic) with
          | .ok (w, _) => k.run P w
          | .error h => .halt h w) → False := by
      intro r hr hm
      rw [hr] at hm
      split at hm
      · split at hm
        · cases hm
        · exact ih h hm.symm
      · split at hm
        · exact ih h hm.symm
        · cases hm
    cases v <;> first | (cases e; done) | exact key _ e rfl
  | new o k ih => intro w x w' h e; exact ih _ (h _) e
  | shape r k ih => intro w x w' h e; exact ih _ (h _) e
  | freeze a n k ih => intro w x w' h e; exact ih h e
  | frozen a k ih => intro w x w' h e; exact ih _ (h _) e
  | getObj r k ih =>
    intro w x w' h e
    unfold Sem.run at e
    split at e
    · cases e
    · exact ih _ (h _) e
    · cases e
  | setObj r o k ih =>
    intro w x w' h e
    unfold Sem.run at e
    split at e
    · cases e
    · exact ih h e
    · cases e
  | choose q k ih =>
    intro w x w' h e
    unfold Sem.run at e
    split at e <;> exact ih _ (h _) e
  | sys c k ih => intro w x w' h e; exact ih _ (h _) e
  | program k ih => intro w x w' h e; exact ih _ (h _) e
  | mark m k ih => intro w x w' h e; exact ih h e

theorem Calm1.run {α : Type} {P : Program} (s : Sem α) : ∀ {w : World} {x : α} {w' : World}, Calm1 s → s.run P w = .ok x w' → w' = w := by
  induction s with
  | pure a => intro w x w' h e; cases e; rfl
  | halt h => intro w x w' _ e; cases e
  | load m a k ih =>
    intro w x w' h e
    unfold Sem.run at e
    split at e
    · exact ih _ (h _) e
    · split at e
      · exact ih _ (h _) e
      · cases e
  | store m a v k ih => intro w x w' h e; exact absurd e (Dead.run (.store m a v k) h)
  | new o k ih => intro w x w' h e; exact absurd e (Dead.run (.new o k) h)
  | shape r k ih => intro w x w' h e; exact ih _ (h _) e
  | freeze a n k ih => intro w x w' h e; exact absurd e (Dead.run (.freeze a n k) h)
  | frozen a k ih => intro w x w' h e; exact ih _ (h _) e
  | getObj r k ih =>
    intro w x w' h e
    unfold Sem.run at e
    split at e
    · cases e
    · exact ih _ (h _) e
    · cases e
  | setObj r o k ih => intro w x w' h e; exact absurd e (Dead.run (.setObj r o k) h)
  | choose q k ih => intro w x w' h e; exact absurd e (Dead.run (.choose q k) h)
  | sys c k ih => intro w x w' h e; exact absurd e (Dead.run (.sys c k) h)
  | program k ih => intro w x w' h e; exact ih _ (h _) e
  | mark m k ih => intro w x w' h e; exact ih h e

theorem Dead.bind {α β : Type} (s : Sem α) (f : α → Sem β) : Dead s → Dead (s >>= f) := by
  show Dead s → Dead (s.bind f)
  induction s with
  | pure a => intro h; exact h.elim
  | halt h => intro _; trivial
  | load m a k ih => intro h v; exact ih v (h v)
  | store m a v k ih => intro h; exact ih h
  | new o k ih => intro h n; exact ih n (h n)
  | shape r k ih => intro h n; exact ih n (h n)
  | freeze a n k ih => intro h; exact ih h
  | frozen a k ih => intro h n; exact ih n (h n)
  | getObj r k ih => intro h n; exact ih n (h n)
  | setObj r o k ih => intro h; exact ih h
  | choose q k ih => intro h n; exact ih n (h n)
  | sys c k ih => intro h n; exact ih n (h n)
  | program k ih => intro h n; exact ih n (h n)
  | mark m k ih => intro h; exact ih h

theorem Calm1.bind {α β : Type} (s : Sem α) (f : α → Sem β) (hf : ∀ x, Calm1 (f x)) : Calm1 s → Calm1 (s >>= f) := by
  show Calm1 s → Calm1 (s.bind f)
  induction s with
  | pure a => intro _; exact hf a
  | halt h => intro _; trivial
  | load m a k ih => intro h v; exact ih v (h v)
  | store m a v k ih => intro h; exact Dead.bind k f h
  | new o k ih => intro h n; exact Dead.bind (k n) f (h n)
  | shape r k ih => intro h n; exact ih n (h n)
  | freeze a n k ih => intro h; exact Dead.bind k f h
  | frozen a k ih => intro h n; exact ih n (h n)
  | getObj r k ih => intro h n; exact ih n (h n)
  | setObj r o k ih => intro h; exact Dead.bind k f h
  | choose q k ih => intro h n; exact Dead.bind (k n) f (h n)
  | sys c k ih => intro h n; exact Dead.bind (k n) f (h n)
  | program k ih => intro h n; exact ih n (h n)
  | mark m k ih => intro h; exact ih h

theorem calm_pure {α : Type} (x : α) : Calm1 (pure x : Sem α) := trivial
theorem calm_halt {α : Type} (h : Halt) : Calm1 (.halt h : Sem α) := trivial
theorem calm_stuck {α : Type} (s : String) : Calm1 (stuck s : Sem α) := trivial
theorem calm_unsup {α : Type} (u : Unsupported) : Calm1 (unsupported u : Sem α) := trivial
theorem calm_program : Calm1 program := fun _ => trivial
theorem calm_load (a : Addr) : Calm1 (load a) := fun _ => trivial
theorem calm_shape (r : Nat) : Calm1 (Go.shape r) := fun _ => trivial
theorem dead_panic {α : Type} (v : Value) : Dead (goPanic v : Sem α) := trivial

theorem dead_then {α β : Type} (s : Sem α) (f : α → Sem β) (h : ∀ x, Dead (f x)) : Dead (s >>= f) := by
  show Dead (s.bind f)
  induction s with
  | pure a => exact h a
  | halt _ => trivial
  | load m a k ih => exact fun v => ih v
  | store m a v k ih => exact ih
  | new o k ih => exact fun v => ih v
  | shape r k ih => exact fun v => ih v
  | freeze a n k ih => exact ih
  | frozen a k ih => exact fun v => ih v
  | getObj r k ih => exact fun v => ih v
  | setObj r o k ih => exact ih
  | choose q k ih => exact fun v => ih v
  | sys c k ih => exact fun v => ih v
  | program k ih => exact fun v => ih v
  | mark m k ih => exact ih

theorem dead_runtimePanic {α : Type} (e : RuntimeError) : Dead (runtimePanic e : Sem α) := by
  unfold runtimePanic
  refine dead_then _ _ fun p => ?_
  cases e <;> first | exact dead_panic _ | (refine dead_then _ _ fun _ => ?_; first | exact dead_panic _ | (refine dead_then _ _ fun _ => ?_; exact dead_panic _))

theorem Dead.calm {α : Type} (s : Sem α) : Dead s → Calm1 s := by
  induction s with
  | pure a => intro h; exact h.elim
  | halt h => intro _; trivial
  | load m a k ih => intro h v; exact ih v (h v)
  | store m a v k ih => intro h; exact h
  | new o k ih => intro h n; exact h n
  | shape r k ih => intro h n; exact ih n (h n)
  | freeze a n k ih => intro h; exact h
  | frozen a k ih => intro h n; exact ih n (h n)
  | getObj r k ih => intro h n; exact ih n (h n)
  | setObj r o k ih => intro h; exact h
  | choose q k ih => intro h n; exact h n
  | sys c k ih => intro h n; exact h n
  | program k ih => intro h n; exact ih n (h n)
  | mark m k ih => intro h; exact ih h

theorem calm_runtimePanic {α : Type} (e : RuntimeError) : Calm1 (runtimePanic e : Sem α) := (dead_runtimePanic e).calm
theorem calm_boundsPanic {α : Type} (k : IntKind) (x y : Int) (c : BoundsCode) : Calm1 (boundsPanic k x y c : Sem α) := by
  unfold boundsPanic
  dsimp only
  split <;> exact (dead_then _ _ fun _ => dead_runtimePanic _).calm

theorem calm_typeInfo (t : TypeId) : Calm1 (typeInfo t) := by
  unfold typeInfo
  refine Calm1.bind _ _ (fun p => ?_) calm_program
  split <;> first | exact calm_pure _ | exact calm_stuck _
theorem calm_underlying (t : TypeId) : Calm1 (underlying t) := by
  unfold underlying
  refine Calm1.bind _ _ (fun p => ?_) calm_program
  split <;> first | exact calm_pure _ | exact calm_stuck _
theorem calm_sizeOf (t : TypeId) : Calm1 (sizeOf t) := by
  unfold sizeOf
  exact Calm1.bind _ _ (fun p => calm_pure _) (calm_typeInfo t)
theorem calm_isAgg (t : TypeId) : Calm1 (isAgg t) := by
  unfold isAgg
  refine Calm1.bind _ _ (fun p => ?_) (calm_underlying t)
  split <;> exact calm_pure _
theorem calm_loadCellsFrom (a : Addr) (n : Nat) : ∀ (i : Nat) (acc : Array Value), Calm1 (loadCellsFrom a i n acc) := by
  induction n with
  | zero => intro i acc; exact calm_pure _
  | succ n ih => intro i acc; unfold loadCellsFrom; exact Calm1.bind _ _ (fun v => ih _ _) (calm_load _)
theorem calm_loadVar (t : TypeId) (a : Addr) : Calm1 (loadVar t a) := by
  unfold loadVar
  refine Calm1.bind _ _ (fun b => ?_) (calm_isAgg t)
  split
  · refine Calm1.bind _ _ (fun n => ?_) (calm_sizeOf t)
    exact Calm1.bind _ _ (fun _ => calm_pure _) (calm_loadCellsFrom a n 0 #[])
  · exact calm_load a
theorem calm_sureAddr (v : Value) : Calm1 (Instr.sureAddr v) := by
  unfold Instr.sureAddr
  split <;> first | exact calm_pure _ | exact calm_stuck _
theorem calm_loadAt (t : TypeId) (v : Value) : Calm1 (Instr.loadAt t v) := by
  unfold Instr.loadAt
  exact Calm1.bind _ _ (fun a => calm_loadVar t a) (calm_sureAddr v)
theorem calm_asIntOf (v : Value) : Calm1 (asIntOf v) := by
  unfold asIntOf
  split <;> first | exact calm_pure _ | exact calm_stuck _ | exact calm_unsup _
theorem calm_indexAt (t : TypeId) (x i : Value) : Calm1 (Instr.indexAt t x i) := by
  unfold Instr.indexAt
  refine Calm1.bind _ _ (fun ki => ?_) (calm_asIntOf i)
  refine Calm1.bind _ _ (fun d => ?_) (calm_underlying t)
  have fin : ∀ (base : Option Addr) (len : Nat) (elem : TypeId) (tiny : Bool), Calm1 (match base with
      | some a => if 0 ≤ ki.2 ∧ ki.2 < (len : Int) then (do let s ← sizeOf elem; pure (Value.pointer (some (a.add (ki.2.toNat * s))))) else if tiny = true then unsupported (.noEntry "op/indexAddr.an index out of range at an array of length 0 or 1 (ledger 616)") else boundsPanic ki.1 ki.2 len .index
      | none => boundsPanic ki.1 ki.2 0 .index : Sem Value) := by
    intro base len elem tiny
    cases base with
    | none => exact calm_boundsPanic _ _ _ _
    | some a =>
      dsimp only
      split
      · exact Calm1.bind _ _ (fun _ => calm_pure _) (calm_sizeOf _)
      · split
        · exact calm_unsup _
        · exact calm_boundsPanic _ _ _ _
  dsimp only
  split
  · refine Calm1.bind _ _ (fun a => ?_) (calm_sureAddr _)
    refine Calm1.bind _ _ (fun q => ?_) (calm_pure _)
    refine Calm1.bind _ _ (fun d => ?_) (calm_underlying t)
    exact fin _ _ _ _
  · refine Calm1.bind _ _ (fun q => ?_) (calm_pure _)
    refine Calm1.bind _ _ (fun d => ?_) (calm_underlying t)
    exact fin _ _ _ _
  · exact calm_stuck _
theorem calm_byteOf (a : Addr) : Calm1 (byteOf a) := by
  unfold byteOf
  split
  · exact calm_pure _
  · refine Calm1.bind _ _ (fun p => ?_) calm_program
    refine Calm1.bind _ _ (fun _ => ?_) ?_
    · refine Calm1.bind _ _ (fun o => ?_) (calm_shape _)
      split
      · dsimp only
        split
        · exact calm_pure _
        · split
          · exact calm_pure _
          · exact calm_stuck _
      · exact calm_stuck _
    · unfold noView
      refine Calm1.bind _ _ (fun b => ?_) ?_
      · split
        · exact calm_unsup _
        · exact calm_pure _
      · unfold viewAt
        refine Calm1.bind _ _ (fun o => ?_) (calm_shape _)
        split
        · exact calm_pure _
        · refine Calm1.bind _ _ (fun o => ?_) (fun _ => trivial)
          split <;> exact calm_pure _
theorem calm_fieldPlace (a : Addr) (f : Field) : Calm1 (fieldPlace a f) := by
  unfold fieldPlace
  refine Calm1.bind _ _ (fun n => ?_) (calm_sizeOf _)
  split
  · unfold partAt
    refine Calm1.bind _ _ (fun x => ?_) (calm_byteOf _)
    exact Calm1.bind _ _ (fun _ => calm_pure _) (calm_byteOf _)
  · exact calm_pure _
theorem calm_fieldAt (t : TypeId) (x : Value) (i : Nat) : Calm1 (Instr.fieldAt t x i) := by
  unfold Instr.fieldAt
  refine Calm1.bind _ _ (fun d => ?_) (calm_underlying t)
  split
  · split
    · refine Calm1.bind _ _ (fun a => ?_) (calm_sureAddr x)
      exact Calm1.bind _ _ (fun _ => calm_pure _) (calm_fieldPlace _ _)
    · exact calm_stuck _
  · exact calm_stuck _

theorem calm_asAgg (v : Value) : Calm1 (asAgg v) := by
  unfold asAgg
  split <;> first | exact calm_pure _ | exact calm_stuck _
theorem calm_part (t : TypeId) (cs : Array Value) (off : Nat) : Calm1 (part t cs off) := by
  unfold part
  refine Calm1.bind _ _ (fun b => ?_) (calm_isAgg t)
  split
  · exact Calm1.bind _ _ (fun _ => calm_pure _) (calm_sizeOf t)
  · split <;> first | exact calm_pure _ | exact calm_stuck _
theorem calm_field (t : TypeId) (x : Value) (i : Nat) : Calm1 (Instr.field t x i) := by
  unfold Instr.field
  refine Calm1.bind _ _ (fun d => ?_) (calm_underlying t)
  split
  · split
    · exact Calm1.bind _ _ (fun _ => calm_part _ _ _) (calm_asAgg x)
    · exact calm_stuck _
  · exact calm_stuck _
theorem calm_extract (x : Value) (i : Nat) : Calm1 (Instr.extract x i) := by
  unfold Instr.extract
  split
  · split <;> first | exact calm_pure _ | exact calm_stuck _
  · exact calm_stuck _
theorem calm_asBool (v : Value) : Calm1 (asBool v) := by
  unfold asBool
  split <;> first | exact calm_pure _ | exact calm_stuck _

theorem calm_followBlind : ∀ (l : List FieldStep) (t : TypeId) (x : Option Value), Calm1 (followBlind l t x) := by
  intro l
  induction l with
  | nil => intro t x; exact calm_pure _
  | cons s rest ih =>
    intro t x
    unfold followBlind
    refine Calm1.bind _ _ (fun d => ?_) (calm_underlying _)
    split
    · split
      · split
        · exact calm_pure _
        · exact ih _ _
        · exact calm_stuck _
        · exact calm_pure _
        · exact Calm1.bind _ _ (fun _ => ih _ _) (calm_part _ _ _)
        · exact calm_stuck _
        · exact ih _ _
      · exact calm_stuck _
    · exact calm_stuck _

theorem calm_nilAhead : ∀ (fuel : Nat) (t : TypeId) (v : Value) (name : String), Calm1 (nilAhead fuel t v name) := by
  intro fuel
  induction fuel with
  | zero => intro t v name; exact calm_pure _
  | succ n ih =>
    intro t v name
    unfold nilAhead
    refine Calm1.bind _ _ (fun d => ?_) (calm_typeInfo _)
    split
    · refine Calm1.bind _ _ (fun r => ?_) (calm_followBlind _ _ _)
      split
      · exact calm_pure _
      · split
        · exact ih _ _ _
        · exact calm_pure _
        · exact calm_stuck _
        · exact calm_pure _
        · exact calm_pure _
        · refine Calm1.bind _ _ (fun d => ?_) (calm_underlying _)
          split <;> exact calm_pure _
    · exact calm_stuck _

/-- It changes nothing, and yields a value. -/
def CalmV (s : Sem Next) : Prop := Calm1 s ∧ ∀ P w n w', s.run P w = .ok n w' → ∃ u, n = .value u
theorem calmV_pure (v : Value) : CalmV (pure (.value v)) := ⟨calm_pure _, fun P w n w' e => by cases e; exact ⟨_, rfl⟩⟩
theorem calmV_panic (r : RuntimeError) : CalmV (runtimePanic r) := ⟨calm_runtimePanic _, fun P w n w' e => absurd e (Dead.run _ (dead_runtimePanic r))⟩
theorem calmV_nil (x : Value) : CalmV (match x with
    | .pointer none | .nilIface | .nilFunc => runtimePanic .nilDeref
    | .func (.method name) first captured =>
      match (first[0]? : Option Value) with
      | some .nilIface => runtimePanic .nilDeref
      | some (.iface t w) => do
        if (← nilAhead ((← program).types.size + Made.depth) t w name) != some false then
          unsupported (.noEntry "op/nilCheck.the method's receiver behind this interface value is a nil pointer, or cannot be seen to be none, and the arguments act or may panic (ledger 612)")
        pure (.value (.func (.method name) first captured))
      | _ => pure (.value (.func (.method name) first captured))
    | x => pure (.value x)) := by
  split
  · exact calmV_panic _
  · exact calmV_panic _
  · exact calmV_panic _
  · split
    · exact calmV_panic _
    · refine ⟨?_, ?_⟩
      · refine Calm1.bind _ _ (fun p => ?_) calm_program
        refine Calm1.bind _ _ (fun r => ?_) (calm_nilAhead _ _ _ _)
        dsimp only
        split
        · exact Calm1.bind _ _ (fun _ => calm_pure _) (calm_unsup _)
        · exact calm_pure _
      · intro P w n w' e
        rw [Sem.run_bind] at e
        cases h1 : program.run P w with
        | halt _ _ => rw [h1] at e; cases e
        | ok p w1 =>
          rw [h1] at e
          simp only [Result.andThen] at e
          rw [Sem.run_bind] at e
          cases h2 : (nilAhead (p.types.size + Made.depth) _ _ _).run P w1 with
          | halt _ _ => rw [h2] at e; cases e
          | ok r w2 =>
            rw [h2] at e
            simp only [Result.andThen] at e
            split at e
            · rw [Sem.run_bind] at e; cases e
            · cases e; exact ⟨_, rfl⟩
    · exact calmV_pure _
  · exact calmV_pure _

/-- Operations that look, and change nothing, whatever they are given. -/
def isStill (o : Oper) : Bool :=
  match o.op with
  | .load _ _ | .move _ | .assign _ | .pick _ _ _ | .fieldAddr _ _ _ | .indexAddr _ _ _ | .field _ _ _ | .extract _ _ | .nilCheck _ => true
  | _ => false

theorem isStill_ok {P : Program} {o : Oper} (h : isStill o = true) {ρ : Operand → Value} {w w' : World} {n : Next} (e : (execOp ρ o).run P w = .ok n w') : w' = w ∧ ∃ u, n = .value u := by
  have key : ∀ s : Sem Value, Calm1 s → (do pure (Next.value (← s)) : Sem Next).run P w = .ok n w' → w' = w ∧ ∃ u, n = .value u := by
    intro s hs e
    refine ⟨Calm1.run _ (Calm1.bind _ _ (fun _ => calm_pure _) hs) e, ?_⟩
    rw [Sem.run_bind] at e
    cases hr : s.run P w with
    | ok x w2 => rw [hr] at e; cases e; exact ⟨_, rfl⟩
    | halt _ _ => rw [hr] at e; cases e
  unfold isStill at h
  unfold execOp at e
  split at h
  all_goals first
    | (rename_i ho; rw [ho] at e; first
        | exact key _ (calm_loadAt _ _) e
        | exact key _ (calm_fieldAt _ _ _) e
        | exact key _ (calm_indexAt _ _ _) e
        | exact key _ (calm_field _ _ _) e
        | exact key _ (calm_extract _ _) e
        | exact ⟨Calm1.run _ (calmV_nil _).1 e, (calmV_nil _).2 _ _ _ _ e⟩
        | (cases e; exact ⟨rfl, _, rfl⟩)
        | (refine ⟨Calm1.run _ (Calm1.bind _ _ (fun _ => calm_pure _) (calm_asBool _)) e, ?_⟩
           dsimp only at e
           rw [Sem.run_bind] at e
           cases hr : (asBool _ : Sem Bool).run P w with
           | ok x w2 => rw [hr] at e; cases e; exact ⟨_, rfl⟩
           | halt _ _ => rw [hr] at e; cases e))
    | (cases h; done)

/-- What lies in the one lies in the other. -/
def Ext (w w' : World) : Prop := ∀ (k : Nat) (o : Obj), w.heap[k]? = some o → w'.heap[k]? = some o
theorem Ext.refl (w : World) : Ext w w := fun _ _ e => e
theorem Ext.trans {a b c : World} (x : Ext a b) (y : Ext b c) : Ext a c := fun k o e => y k o (x k o e)

/-- It lays new objects, and changes nothing else. -/
def Grow {α : Type} : Sem α → Prop
  | .pure _ => True
  | .halt _ => True
  | .load _ _ k => ∀ v, Grow (k v)
  | .store _ _ _ k => Dead k
  | .new _ k => ∀ n, Grow (k n)
  | .shape _ k => ∀ x, Grow (k x)
  | .freeze _ _ k => Dead k
  | .frozen _ k => ∀ b, Grow (k b)
  | .getObj _ k => ∀ o, Grow (k o)
  | .setObj _ _ k => Dead k
  | .choose _ k => ∀ n, Dead (k n)
  | .sys _ k => ∀ r, Dead (k r)
  | .program k => ∀ p, Grow (k p)
  | .mark _ k => Grow k

theorem Grow.run {α : Type} {P : Program} (s : Sem α) : ∀ {w : World} {x : α} {w' : World}, Grow s → s.run P w = .ok x w' → Ext w w' := by
  induction s with
  | pure a => intro w x w' h e; cases e; exact Ext.refl _
  | halt h => intro w x w' _ e; cases e
  | load m a k ih =>
    intro w x w' h e
    unfold Sem.run at e
    split at e
    · exact ih _ (h _) e
    · split at e
      · exact ih _ (h _) e
      · cases e
  | store m a v k ih => intro w x w' h e; exact absurd e (Dead.run (.store m a v k) h)
  | new o k ih =>
    intro w x w' h e
    unfold Sem.run at e
    refine Ext.trans (fun j o' hj => ?_) (ih _ (h _) e)
    simp only [World.alloc, Array.getElem?_push]
    rw [if_neg (by have := (Array.getElem?_eq_some_iff.1 hj).1; omega)]
    exact hj
  | shape r k ih => intro w x w' h e; exact ih _ (h _) e
  | freeze a n k ih => intro w x w' h e; exact absurd e (Dead.run (.freeze a n k) h)
  | frozen a k ih => intro w x w' h e; exact ih _ (h _) e
  | getObj r k ih =>
    intro w x w' h e
    unfold Sem.run at e
    split at e
    · cases e
    · exact ih _ (h _) e
    · cases e
  | setObj r o k ih => intro w x w' h e; exact absurd e (Dead.run (.setObj r o k) h)
  | choose q k ih => intro w x w' h e; exact absurd e (Dead.run (.choose q k) h)
  | sys c k ih => intro w x w' h e; exact absurd e (Dead.run (.sys c k) h)
  | program k ih => intro w x w' h e; exact ih _ (h _) e
  | mark m k ih => intro w x w' h e; exact ih h e

theorem Grow.bind {α β : Type} (s : Sem α) (f : α → Sem β) (hf : ∀ x, Grow (f x)) : Grow s → Grow (s >>= f) := by
  show Grow s → Grow (s.bind f)
  induction s with
  | pure a => intro _; exact hf a
  | halt h => intro _; trivial
  | load m a k ih => intro h v; exact ih v (h v)
  | store m a v k ih => intro h; exact Dead.bind k f h
  | new o k ih => intro h n; exact ih n (h n)
  | shape r k ih => intro h n; exact ih n (h n)
  | freeze a n k ih => intro h; exact Dead.bind k f h
  | frozen a k ih => intro h n; exact ih n (h n)
  | getObj r k ih => intro h n; exact ih n (h n)
  | setObj r o k ih => intro h; exact Dead.bind k f h
  | choose q k ih => intro h n; exact Dead.bind (k n) f (h n)
  | sys c k ih => intro h n; exact Dead.bind (k n) f (h n)
  | program k ih => intro h n; exact ih n (h n)
  | mark m k ih => intro h; exact ih h

theorem Calm1.grow {α : Type} (s : Sem α) : Calm1 s → Grow s := by
  induction s with
  | pure a => intro _; trivial
  | halt h => intro _; trivial
  | load m a k ih => intro h v; exact ih v (h v)
  | store m a v k ih => intro h; exact h
  | new o k ih => intro h n; exact ih n ((Dead.calm _ (h n)))
  | shape r k ih => intro h n; exact ih n (h n)
  | freeze a n k ih => intro h; exact h
  | frozen a k ih => intro h n; exact ih n (h n)
  | getObj r k ih => intro h n; exact ih n (h n)
  | setObj r o k ih => intro h; exact h
  | choose q k ih => intro h n; exact h n
  | sys c k ih => intro h n; exact h n
  | program k ih => intro h n; exact ih n (h n)
  | mark m k ih => intro h; exact ih h

theorem grow_alloc (t : TypeId) : Grow (Instr.alloc t true (.tuple #[])) := by
  unfold Instr.alloc
  refine Grow.bind _ _ (fun z => ?_) (Calm1.grow _ (by
    unfold zeroValue
    refine Calm1.bind _ _ (fun p => ?_) (calm_typeInfo t)
    split <;> first | exact calm_pure _ | exact calm_unsup _))
  dsimp only
  refine Grow.bind _ _ (fun _ => trivial) ?_
  unfold newVar newRow
  refine Grow.bind _ _ (fun _ => trivial) ?_
  exact fun _ => trivial

/-- Operations that change nothing, or lay a new variable, and nothing else. -/
def isMild (o : Oper) : Bool :=
  match isStill o with
  | true => true
  | false => match o.op with
    | .alloc _ => true
    | _ => false

theorem isMild_ok {P : Program} {o : Oper} (h : isMild o = true) {ρ : Operand → Value} {w w' : World} {n : Next} (e : (execOp ρ o).run P w = .ok n w') : Ext w w' ∧ ∃ u, n = .value u := by
  unfold isMild at h
  split at h
  · rename_i hs
    obtain ⟨rfl, hu⟩ := isStill_ok hs e
    exact ⟨Ext.refl _, hu⟩
  · split at h
    · rename_i t ho
      unfold execOp at e
      rw [ho] at e
      dsimp only at e
      have hg : Grow (do pure (Next.value (← Instr.alloc t true (.tuple #[]))) : Sem Next) := Grow.bind _ (fun x => pure (Next.value x)) (fun _ => trivial) (grow_alloc t)
      refine ⟨Grow.run _ hg e, ?_⟩
      rw [Sem.run_bind] at e
      cases hr : (Instr.alloc t true (.tuple #[])).run P w with
      | halt _ _ => rw [hr] at e; cases e
      | ok x w2 => rw [hr] at e; cases e; exact ⟨_, rfl⟩
    · cases h

section
variable {P : Program} {ops : Array Oper} {Q : Exit → Act → World → Prop} {md : Region.Mode} {S : World → Prop}

/-- An operation that changes nothing leaves the world as it was. -/
theorem wpOp_mild {j : Nat} {oj : Oper} (hj : ops[j]? = some oj) (hs : isMild oj = true) {K : Act → World → Prop} {a : Act} {w : World} (h : wpOp P ops Q j K a w) :
    wpOp P ops Q j (fun a' w' => Ext w w' ∧ K a' w') a w := by
  unfold wpOp at *
  simp only [hj] at *
  split
  · rename_i hw
    simp only [hw, if_true] at h
    refine h.imp (fun h => ?_) id
    unfold Oper.wp at *
    cases hr : (execOp a.eval oj).run P w with
    | ok n w' =>
      obtain ⟨hx, u, rfl⟩ := isMild_ok hs hr
      rw [hr] at h
      exact ⟨hx, h⟩
    | halt x w' =>
      rw [hr] at h
      cases x <;> first | exact h | exact h.elim
  · rename_i hw
    simp only [hw] at h
    exact ⟨Ext.refl _, h⟩

/-- A look may be taken first where all that may come ahead of it are looks, too, or lay new variables. 'late': those that wait for it. -/
theorem wpAnyH_look {w0 : World} {i : Nat} {oi : Oper} {v : Value} {late : Nat → Bool} (hi : ops[i]? = some oi) (hsel : ∀ (j : Nat) (o : Oper) cs b, ops[j]? = some o → o.op ≠ .select cs b)
    (hQ : ∀ c a w, Q (.panic c) (a.put oi.dst v) w → Q (.panic c) a w) :
    ∀ (fuel : Nat) (listed : Array Bool) (a : Act) (w : World),
      (∀ j oj, ops[j]? = some oj → late j = true → ∃ e ∈ oj.after, Region.binds md e = true ∧ (e.on = i ∨ late e.on = true)) →
      (∀ j, late j = true → listed.getD j false = false) →
      (∀ j oj, ops[j]? = some oj → j ≠ i → listed.getD j true = false → late j = false → oi.apart ops oj = true ∧ isMild oj = true) →
      i ∈ Region.ready md ops listed → Ext w0 w → YieldsIf P ops (Ext w0) oi v a → S w →
      wpAnyH P md ops Q S fuel (listed.setIfInBounds i true) (a.put oi.dst v) w → wpAnyH P md ops Q S (fuel + 1) listed a w := by
  intro fuel
  induction fuel with
  | zero =>
    intro listed a w _ _ _ hr hx0 hy hS H
    refine ⟨fun h => (by rw [h] at hr; cases hr), fun j hj => ?_⟩
    by_cases hji : j = i
    · subst hji; exact hy.wpOp hi hx0 ⟨hS, H⟩
    · have := ready_mono hj hji
      rw [H.1] at this
      cases this
  | succ fuel ih =>
    intro listed a w hlate hun hfree hr hx0 hy hS H
    refine ⟨fun h => (by rw [h] at hr; cases hr), fun j hj => ?_⟩
    by_cases hji : j = i
    · subst hji; exact hy.wpOp hi hx0 ⟨hS, H⟩
    · have h1 := H.2 j (ready_mono hj hji)
      obtain ⟨hjun, oj, hoj, hall⟩ := mem_ready.1 hj
      have hiun : listed.getD i false = false := by
        have h0 := (mem_ready.1 hr).1
        rcases Nat.lt_or_ge i listed.size with h' | h'
        · simp [h'] at h0 ⊢; exact h0
        · simp [Array.getElem?_eq_none h']
      have hnl : late j = false := by
        cases hl : late j with
        | false => rfl
        | true =>
          obtain ⟨e, he, hb, hon⟩ := hlate j oj hoj hl
          have := hall e he hb
          rcases hon with h2 | h2
          · rw [h2, hiun] at this; cases this
          · rw [hun _ h2] at this; cases this
      obtain ⟨hap, hst⟩ := hfree j oj hoj hji hjun hnl
      have h2 := wpOp_mild hoj hst (wpOp_putIf hoj hap (fun cs b => hsel i oi cs b hi) (fun cs b => hsel j oj cs b hoj) hQ hy h1)
      have hfree' : ∀ k ok, ops[k]? = some ok → k ≠ i → (listed.setIfInBounds j true).getD k true = false → late k = false → oi.apart ops ok = true ∧ isMild ok = true := fun k ok hk hki hun hno => by
        refine hfree k ok hk hki ?_ hno
        by_cases hjk : j = k
        · subst hjk; exact hjun
        · rw [getD_set_ne true hjk] at hun; exact hun
      have hun' : ∀ k, late k = true → (listed.setIfInBounds j true).getD k false = false := fun k hk => by
        have hjk : j ≠ k := fun e => by rw [e, hk] at hnl; cases hnl
        rw [getD_set_ne false hjk]; exact hun k hk
      refine wpOp_mono (fun a' w' h3 => ⟨h3.2.2.1, ?_⟩) h2
      obtain ⟨hx1, hy', h4⟩ := h3
      refine ih (listed.setIfInBounds j true) a' w' hlate hun' hfree' (ready_mono hr (Ne.symm hji)) (hx0.trans hx1) hy' h4.1 ?_
      rw [Array.setIfInBounds_comm _ _ hji]
      exact h4.2

end
end Go.Gb
