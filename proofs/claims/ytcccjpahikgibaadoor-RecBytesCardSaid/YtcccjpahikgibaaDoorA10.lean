/- Own texts for the seat: GbStill GbDraw. -/
import Derived.Test.YtcccjpahikgibaaDoorA9
import Derived.OrdersHeld
set_option linter.unusedVariables false
set_option linter.unusedSimpArgs false
set_option linter.unnecessarySimpa false
set_option linter.deprecated false
namespace Go.Gb

/-! What looks at the memory, and changes nothing. -/

/-- It never comes to an end in order. -/
def Dead {α : Type} : Sem α → Prop
  | .pure _ => False
  | .halt _ => True
  | .load _ _ k => ∀ v, Dead (k v)
  | .store _ _ _ k => Dead k
  | .new _ k => ∀ n, Dead (k n)
  | .shape _ k => ∀ x, Dead (k x)
  | .freeze _ _ k => Dead k
  | .frozen _ k => ∀ b, Dead (k b)
  | .getObj _ k => ∀ o, Dead (k o)
  | .setObj _ _ k => Dead k
  | .choose _ k => ∀ n, Dead (k n)
  | .sys _ k => ∀ r, Dead (k r)
  | .program k => ∀ p, Dead (k p)
  | .mark _ k => Dead k

/-- It changes nothing, where it comes to an end in order. -/
def Calm1 {α : Type} : Sem α → Prop
  | .pure _ => True
  | .halt _ => True
  | .load _ _ k => ∀ v, Calm1 (k v)
  | .store _ _ _ k => Dead k
  | .new _ k => ∀ n, Dead (k n)
  | .shape _ k => ∀ x, Calm1 (k x)
  | .freeze _ _ k => Dead k
  | .frozen _ k => ∀ b, Calm1 (k b)
  | .getObj _ k => ∀ o, Calm1 (k o)
  | .setObj _ _ k => Dead k
  | .choose _ k => ∀ n, Dead (k n)
  | .sys _ k => ∀ r, Dead (k r)
  | .program k => ∀ p, Calm1 (k p)
  | .mark _ k => Calm1 k

theorem Dead.run {α : Type} {P : Program} (s : Sem α) : ∀ {w : World} {x : α} {w' : World}, Dead s → s.run P w ≠ .ok x w' := by
  induction s with
  | pure a => intro w x w' h; exact h.elim
  | halt h => intro w x w' _ e; cases e
  | load m a k ih =>
    intro w x w' h e
    unfold Sem.run at e
    split at e
    · exact ih _ (h _) e
    · split at e
      · exact ih _ (h _) e
      · cases e
  | store m a v k ih =>
    intro w x w' h e
    have key : ∀ (r : Result _), r = .ok x w' → (r = match w.cell? a with
        | some _ => if w.frozen? a then .halt (.unsupported (.unsafePointer "a write to bytes that a string shares")) w else k.run P (w.setCell a v)
        | none => match w.farStore P a v (m == .atomic) with
          | .ok (w, _) => k.run P w
          | .error h => .halt h w) → False := by
      intro r hr hm
      rw [hr] at hm
      split at hm
      · split at hm
        · cases hm
        · exact ih h hm.symm
      · split at hm
        · exact ih h hm.symm
        · cases hm
    cases v <;> first | (cases e; done) | exact key _ e rfl
  | new o k ih => intro w x w' h e; exact ih _ (h _) e
  | shape r k ih => intro w x w' h e; exact ih _ (h _) e
  | freeze a n k ih => intro w x w' h e; exact ih h e
  | frozen a k ih => intro w x w' h e; exact ih _ (h _) e
  | getObj r k ih =>
    intro w x w' h e
    unfold Sem.run at e
    split at e
    · cases e
    · exact ih _ (h _) e
    · cases e
  | setObj r o k ih =>
    intro w x w' h e
    unfold Sem.run at e
    split at e
    · cases e
    · exact ih h e
    · cases e
  | choose q k ih =>
    intro w x w' h e
    unfold Sem.run at e
    split at e <;> exact ih _ (h _) e
  | sys c k ih => intro w x w' h e; exact ih _ (h _) e
  | program k ih => intro w x w' h e; exact ih _ (h _) e
  | mark m k ih => intro w x w' h e; exact ih h e

theorem Calm1.run {α : Type} {P : Program} (s : Sem α) : ∀ {w : World} {x : α} {w' : World}, Calm1 s → s.run P w = .ok x w' → w' = w := by
  induction s with
  | pure a => intro w x w' h e; cases e; rfl
  | halt h => intro w x w' _ e; cases e
  | load m a k ih =>
    intro w x w' h e
    unfold Sem.run at e
    split at e
    · exact ih _ (h _) e
    · split at e
      · exact ih _ (h _) e
      · cases e
  | store m a v k ih => intro w x w' h e; exact absurd e (Dead.run (.store m a v k) h)
  | new o k ih => intro w x w' h e; exact absurd e (Dead.run (.new o k) h)
  | shape r k ih => intro w x w' h e; exact ih _ (h _) e
  | freeze a n k ih => intro w x w' h e; exact absurd e (Dead.run (.freeze a n k) h)
  | frozen a k ih => intro w x w' h e; exact ih _ (h _) e
  | getObj r k ih =>
    intro w x w' h e
    unfold Sem.run at e
    split at e
    · cases e
    · exact ih _ (h _) e
    · cases e
  | setObj r o k ih => intro w x w' h e; exact absurd e (Dead.run (.setObj r o k) h)
  | choose q k ih => intro w x w' h e; exact absurd e (Dead.run (.choose q k) h)
  | sys c k ih => intro w x w' h e; exact absurd e (Dead.run (.sys c k) h)
  | program k ih => intro w x w' h e; exact ih _ (h _) e
  | mark m k ih => intro w x w' h e; exact ih h e

theorem Dead.bind {α β : Type} (s : Sem α) (f : α → Sem β) : Dead s → Dead (s >>= f) := by
  show Dead s → Dead (s.bind f)
  induction s with
  | pure a => intro h; exact h.elim
  | halt h => intro _; trivial
  | load m a k ih => intro h v; exact ih v (h v)
  | store m a v k ih => intro h; exact ih h
  | new o k ih => intro h n; exact ih n (h n)
  | shape r k ih => intro h n; exact ih n (h n)
  | freeze a n k ih => intro h; exact ih h
  | frozen a k ih => intro h n; exact ih n (h n)
  | getObj r k ih => intro h n; exact ih n (h n)
  | setObj r o k ih => intro h; exact ih h
  | choose q k ih => intro h n; exact ih n (h n)
  | sys c k ih => intro h n; exact ih n (h n)
  | program k ih => intro h n; exact ih n (h n)
  | mark m k ih => intro h; exact ih h

theorem Calm1.bind {α β : Type} (s : Sem α) (f : α → Sem β) (hf : ∀ x, Calm1 (f x)) : Calm1 s → Calm1 (s >>= f) := by
  show Calm1 s → Calm1 (s.bind f)
  induction s with
  | pure a => intro _; exact hf a
  | halt h => intro _; trivial
  | load m a k ih => intro h v; exact ih v (h v)
  | store m a v k ih => intro h; exact Dead.bind k f h
  | new o k ih => intro h n; exact Dead.bind (k n) f (h n)
  | shape r k ih => intro h n; exact ih n (h n)
  | freeze a n k ih => intro h; exact Dead.bind k f h
  | frozen a k ih => intro h n; exact ih n (h n)
  | getObj r k ih => intro h n; exact ih n (h n)
  | setObj r o k ih => intro h; exact Dead.bind k f h
  | choose q k ih => intro h n; exact Dead.bind (k n) f (h n)
  | sys c k ih => intro h n; exact Dead.bind (k n) f (h n)
  | program k ih => intro h n; exact ih n (h n)
  | mark m k ih => intro h; exact ih h

theorem calm_pure {α : Type} (x : α) : Calm1 (pure x : Sem α) := trivial
theorem calm_stuck {α : Type} (s : String) : Calm1 (stuck s : Sem α) := trivial
theorem calm_unsup {α : Type} (u : Unsupported) : Calm1 (unsupported u : Sem α) := trivial
theorem calm_program : Calm1 program := fun _ => trivial
theorem calm_load (a : Addr) : Calm1 (load a) := fun _ => trivial
theorem calm_shape (r : Nat) : Calm1 (Go.shape r) := fun _ => trivial
theorem dead_panic {α : Type} (v : Value) : Dead (goPanic v : Sem α) := trivial

theorem dead_then {α β : Type} (s : Sem α) (f : α → Sem β) (h : ∀ x, Dead (f x)) : Dead (s >>= f) := by
  show Dead (s.bind f)
  induction s with
  | pure a => exact h a
  | halt _ => trivial
  | load m a k ih => exact fun v => ih v
  | store m a v k ih => exact ih
  | new o k ih => exact fun v => ih v
  | shape r k ih => exact fun v => ih v
  | freeze a n k ih => exact ih
  | frozen a k ih => exact fun v => ih v
  | getObj r k ih => exact fun v => ih v
  | setObj r o k ih => exact ih
  | choose q k ih => exact fun v => ih v
  | sys c k ih => exact fun v => ih v
  | program k ih => exact fun v => ih v
  | mark m k ih => exact ih

theorem dead_runtimePanic {α : Type} (e : RuntimeError) : Dead (runtimePanic e : Sem α) := by
  unfold runtimePanic
  refine dead_then _ _ fun p => ?_
  cases e <;> first | exact dead_panic _ | (refine dead_then _ _ fun _ => ?_; first | exact dead_panic _ | (refine dead_then _ _ fun _ => ?_; exact dead_panic _))

theorem Dead.calm {α : Type} (s : Sem α) : Dead s → Calm1 s := by
  induction s with
  | pure a => intro h; exact h.elim
  | halt h => intro _; trivial
  | load m a k ih => intro h v; exact ih v (h v)
  | store m a v k ih => intro h; exact h
  | new o k ih => intro h n; exact h n
  | shape r k ih => intro h n; exact ih n (h n)
  | freeze a n k ih => intro h; exact h
  | frozen a k ih => intro h n; exact ih n (h n)
  | getObj r k ih => intro h n; exact ih n (h n)
  | setObj r o k ih => intro h; exact h
  | choose q k ih => intro h n; exact h n
  | sys c k ih => intro h n; exact h n
  | program k ih => intro h n; exact ih n (h n)
  | mark m k ih => intro h; exact ih h

theorem calm_runtimePanic {α : Type} (e : RuntimeError) : Calm1 (runtimePanic e : Sem α) := (dead_runtimePanic e).calm
theorem calm_boundsPanic {α : Type} (k : IntKind) (x y : Int) (c : BoundsCode) : Calm1 (boundsPanic k x y c : Sem α) := by
  unfold boundsPanic
  dsimp only
  split <;> exact (dead_then _ _ fun _ => dead_runtimePanic _).calm

theorem calm_typeInfo (t : TypeId) : Calm1 (typeInfo t) := by
  unfold typeInfo
  refine Calm1.bind _ _ (fun p => ?_) calm_program
  split <;> first | exact calm_pure _ | exact calm_stuck _
theorem calm_underlying (t : TypeId) : Calm1 (underlying t) := by
  unfold underlying
  refine Calm1.bind _ _ (fun p => ?_) calm_program
  split <;> first | exact calm_pure _ | exact calm_stuck _
theorem calm_sizeOf (t : TypeId) : Calm1 (sizeOf t) := by
  unfold sizeOf
  exact Calm1.bind _ _ (fun p => calm_pure _) (calm_typeInfo t)
theorem calm_isAgg (t : TypeId) : Calm1 (isAgg t) := by
  unfold isAgg
  refine Calm1.bind _ _ (fun p => ?_) (calm_underlying t)
  split <;> exact calm_pure _
theorem calm_loadCellsFrom (a : Addr) (n : Nat) : ∀ (i : Nat) (acc : Array Value), Calm1 (loadCellsFrom a i n acc) := by
  induction n with
  | zero => intro i acc; exact calm_pure _
  | succ n ih => intro i acc; unfold loadCellsFrom; exact Calm1.bind _ _ (fun v => ih _ _) (calm_load _)
theorem calm_loadVar (t : TypeId) (a : Addr) : Calm1 (loadVar t a) := by
  unfold loadVar
  refine Calm1.bind _ _ (fun b => ?_) (calm_isAgg t)
  split
  · refine Calm1.bind _ _ (fun n => ?_) (calm_sizeOf t)
    exact Calm1.bind _ _ (fun _ => calm_pure _) (calm_loadCellsFrom a n 0 #[])
  · exact calm_load a
theorem calm_sureAddr (v : Value) : Calm1 (Instr.sureAddr v) := by
  unfold Instr.sureAddr
  split <;> first | exact calm_pure _ | exact calm_stuck _
theorem calm_loadAt (t : TypeId) (v : Value) : Calm1 (Instr.loadAt t v) := by
  unfold Instr.loadAt
  exact Calm1.bind _ _ (fun a => calm_loadVar t a) (calm_sureAddr v)
theorem calm_asIntOf (v : Value) : Calm1 (asIntOf v) := by
  unfold asIntOf
  split <;> first | exact calm_pure _ | exact calm_stuck _ | exact calm_unsup _
theorem calm_indexAt (t : TypeId) (x i : Value) : Calm1 (Instr.indexAt t x i) := by
  unfold Instr.indexAt
  refine Calm1.bind _ _ (fun ki => ?_) (calm_asIntOf i)
  refine Calm1.bind _ _ (fun d => ?_) (calm_underlying t)
  have fin : ∀ (base : Option Addr) (len : Nat) (elem : TypeId) (tiny : Bool), Calm1 (match base with
      | some a => if 0 ≤ ki.2 ∧ ki.2 < (len : Int) then (do let s ← sizeOf elem; pure (Value.pointer (some (a.add (ki.2.toNat * s))))) else if tiny = true then unsupported (.noEntry "op/indexAddr.an index out of range at an array of length 0 or 1 (ledger 616)") else boundsPanic ki.1 ki.2 len .index
      | none => boundsPanic ki.1 ki.2 0 .index : Sem Value) := by
    intro base len elem tiny
    cases base with
    | none => exact calm_boundsPanic _ _ _ _
    | some a =>
      dsimp only
      split
      · exact Calm1.bind _ _ (fun _ => calm_pure _) (calm_sizeOf _)
      · split
        · exact calm_unsup _
        · exact calm_boundsPanic _ _ _ _
  dsimp only
  split
  · refine Calm1.bind _ _ (fun a => ?_) (calm_sureAddr _)
    refine Calm1.bind _ _ (fun q => ?_) (calm_pure _)
    refine Calm1.bind _ _ (fun d => ?_) (calm_underlying t)
    exact fin _ _ _ _
  · refine Calm1.bind _ _ (fun q => ?_) (calm_pure _)
    refine Calm1.bind _ _ (fun d => ?_) (calm_underlying t)
    exact fin _ _ _ _
  · exact calm_stuck _
theorem calm_byteOf (a : Addr) : Calm1 (byteOf a) := by
  unfold byteOf
  split
  · exact calm_pure _
  · refine Calm1.bind _ _ (fun p => ?_) calm_program
    refine Calm1.bind _ _ (fun _ => ?_) ?_
    · refine Calm1.bind _ _ (fun o => ?_) (calm_shape _)
      split
      · dsimp only
        split
        · exact calm_pure _
        · split
          · exact calm_pure _
          · exact calm_stuck _
      · exact calm_stuck _
    · unfold noView
      refine Calm1.bind _ _ (fun b => ?_) ?_
      · split
        · exact calm_unsup _
        · exact calm_pure _
      · unfold viewAt
        refine Calm1.bind _ _ (fun o => ?_) (calm_shape _)
        split
        · exact calm_pure _
        · refine Calm1.bind _ _ (fun o => ?_) (fun _ => trivial)
          split <;> exact calm_pure _
theorem calm_fieldPlace (a : Addr) (f : Field) : Calm1 (fieldPlace a f) := by
  unfold fieldPlace
  refine Calm1.bind _ _ (fun n => ?_) (calm_sizeOf _)
  split
  · unfold partAt
    refine Calm1.bind _ _ (fun x => ?_) (calm_byteOf _)
    exact Calm1.bind _ _ (fun _ => calm_pure _) (calm_byteOf _)
  · exact calm_pure _
theorem calm_fieldAt (t : TypeId) (x : Value) (i : Nat) : Calm1 (Instr.fieldAt t x i) := by
  unfold Instr.fieldAt
  refine Calm1.bind _ _ (fun d => ?_) (calm_underlying t)
  split
  · split
    · refine Calm1.bind _ _ (fun a => ?_) (calm_sureAddr x)
      exact Calm1.bind _ _ (fun _ => calm_pure _) (calm_fieldPlace _ _)
    · exact calm_stuck _
  · exact calm_stuck _

theorem calm_asAgg (v : Value) : Calm1 (asAgg v) := by
  unfold asAgg
  split <;> first | exact calm_pure _ | exact calm_stuck _
theorem calm_part (t : TypeId) (cs : Array Value) (off : Nat) : Calm1 (part t cs off) := by
  unfold part
  refine Calm1.bind _ _ (fun b => ?_) (calm_isAgg t)
  split
  · exact Calm1.bind _ _ (fun _ => calm_pure _) (calm_sizeOf t)
  · split <;> first | exact calm_pure _ | exact calm_stuck _
theorem calm_field (t : TypeId) (x : Value) (i : Nat) : Calm1 (Instr.field t x i) := by
  unfold Instr.field
  refine Calm1.bind _ _ (fun d => ?_) (calm_underlying t)
  split
  · split
    · exact Calm1.bind _ _ (fun _ => calm_part _ _ _) (calm_asAgg x)
    · exact calm_stuck _
  · exact calm_stuck _
theorem calm_extract (x : Value) (i : Nat) : Calm1 (Instr.extract x i) := by
  unfold Instr.extract
  split
  · split <;> first | exact calm_pure _ | exact calm_stuck _
  · exact calm_stuck _
theorem calm_asBool (v : Value) : Calm1 (asBool v) := by
  unfold asBool
  split <;> first | exact calm_pure _ | exact calm_stuck _

theorem calm_followBlind : ∀ (l : List FieldStep) (t : TypeId) (x : Option Value), Calm1 (followBlind l t x) := by
  intro l
  induction l with
  | nil => intro t x; exact calm_pure _
  | cons s rest ih =>
    intro t x
    unfold followBlind
    refine Calm1.bind _ _ (fun d => ?_) (calm_underlying _)
    split
    · split
      · split
        · exact calm_pure _
        · exact ih _ _
        · exact calm_stuck _
        · exact calm_pure _
        · exact Calm1.bind _ _ (fun _ => ih _ _) (calm_part _ _ _)
        · exact calm_stuck _
        · exact ih _ _
      · exact calm_stuck _
    · exact calm_stuck _

theorem calm_nilAhead : ∀ (fuel : Nat) (t : TypeId) (v : Value) (name : String), Calm1 (nilAhead fuel t v name) := by
  intro fuel
  induction fuel with
  | zero => intro t v name; exact calm_pure _
  | succ n ih =>
    intro t v name
    unfold nilAhead
    refine Calm1.bind _ _ (fun d => ?_) (calm_typeInfo _)
    split
    · refine Calm1.bind _ _ (fun r => ?_) (calm_followBlind _ _ _)
      split
      · exact calm_pure _
      · split
        · exact ih _ _ _
        · exact calm_pure _
        · exact calm_stuck _
        · exact calm_pure _
        · exact calm_pure _
        · refine Calm1.bind _ _ (fun d => ?_) (calm_underlying _)
          split <;> exact calm_pure _
    · exact calm_stuck _

/-- It changes nothing, and yields a value. -/
def CalmV (s : Sem Next) : Prop := Calm1 s ∧ ∀ P w n w', s.run P w = .ok n w' → ∃ u, n = .value u
theorem calmV_pure (v : Value) : CalmV (pure (.value v)) := ⟨calm_pure _, fun P w n w' e => by cases e; exact ⟨_, rfl⟩⟩
theorem calmV_panic (r : RuntimeError) : CalmV (runtimePanic r) := ⟨calm_runtimePanic _, fun P w n w' e => absurd e (Dead.run _ (dead_runtimePanic r))⟩
theorem calmV_nil (x : Value) : CalmV (match x with
    | .pointer none | .nilIface | .nilFunc => runtimePanic .nilDeref
    | .func (.method name) first captured =>
      match (first[0]? : Option Value) with
      | some .nilIface => runtimePanic .nilDeref
      | some (.iface t w) => do
        if (← nilAhead ((← program).types.size + Made.depth) t w name) != some false then
          unsupported (.noEntry "op/nilCheck.the method's receiver behind this interface value is a nil pointer, or cannot be seen to be none, and the arguments act or may panic (ledger 612)")
        pure (.value (.func (.method name) first captured))
      | _ => pure (.value (.func (.method name) first captured))
    | x => pure (.value x)) := by
  split
  · exact calmV_panic _
  · exact calmV_panic _
  · exact calmV_panic _
  · split
    · exact calmV_panic _
    · refine ⟨?_, ?_⟩
      · refine Calm1.bind _ _ (fun p => ?_) calm_program
        refine Calm1.bind _ _ (fun r => ?_) (calm_nilAhead _ _ _ _)
        dsimp only
        split
        · exact Calm1.bind _ _ (fun _ => calm_pure _) (calm_unsup _)
        · exact calm_pure _
      · intro P w n w' e
        rw [Sem.run_bind] at e
        cases h1 : program.run P w with
        | halt _ _ => rw [h1] at e; cases e
        | ok p w1 =>
          rw [h1] at e
          simp only [Result.andThen] at e
          rw [Sem.run_bind] at e
          cases h2 : (nilAhead (p.types.size + Made.depth) _ _ _).run P w1 with
          | halt _ _ => rw [h2] at e; cases e
          | ok r w2 =>
            rw [h2] at e
            simp only [Result.andThen] at e
            split at e
            · rw [Sem.run_bind] at e; cases e
            · cases e; exact ⟨_, rfl⟩
    · exact calmV_pure _
  · exact calmV_pure _

/-- Operations that look, and change nothing, whatever they are given. -/
def isStill (o : Oper) : Bool :=
  match o.op with
  | .load _ _ | .move _ | .assign _ | .pick _ _ _ | .fieldAddr _ _ _ | .indexAddr _ _ _ | .field _ _ _ | .extract _ _ | .nilCheck _ => true
  | _ => false

theorem isStill_ok {P : Program} {o : Oper} (h : isStill o = true) {ρ : Operand → Value} {w w' : World} {n : Next} (e : (execOp ρ o).run P w = .ok n w') : w' = w ∧ ∃ u, n = .value u := by
  have key : ∀ s : Sem Value, Calm1 s → (do pure (Next.value (← s)) : Sem Next).run P w = .ok n w' → w' = w ∧ ∃ u, n = .value u := by
    intro s hs e
    refine ⟨Calm1.run _ (Calm1.bind _ _ (fun _ => calm_pure _) hs) e, ?_⟩
    rw [Sem.run_bind] at e
    cases hr : s.run P w with
    | ok x w2 => rw [hr] at e; cases e; exact ⟨_, rfl⟩
    | halt _ _ => rw [hr] at e; cases e
  unfold isStill at h
  unfold execOp at e
  split at h
  all_goals first
    | (rename_i ho; rw [ho] at e; first
        | exact key _ (calm_loadAt _ _) e
        | exact key _ (calm_fieldAt _ _ _) e
        | exact key _ (calm_indexAt _ _ _) e
        | exact key _ (calm_field _ _ _) e
        | exact key _ (calm_extract _ _) e
        | exact ⟨Calm1.run _ (calmV_nil _).1 e, (calmV_nil _).2 _ _ _ _ e⟩
        | (cases e; exact ⟨rfl, _, rfl⟩)
        | (refine ⟨Calm1.run _ (Calm1.bind _ _ (fun _ => calm_pure _) (calm_asBool _)) e, ?_⟩
           dsimp only at e
           rw [Sem.run_bind] at e
           cases hr : (asBool _ : Sem Bool).run P w with
           | ok x w2 => rw [hr] at e; cases e; exact ⟨_, rfl⟩
           | halt _ _ => rw [hr] at e; cases e))
    | (cases h; done)

/-- What lies in the one lies in the other. -/
def Ext (w w' : World) : Prop := ∀ (k : Nat) (o : Obj), w.heap[k]? = some o → w'.heap[k]? = some o
theorem Ext.refl (w : World) : Ext w w := fun _ _ e => e
theorem Ext.trans {a b c : World} (x : Ext a b) (y : Ext b c) : Ext a c := fun k o e => y k o (x k o e)

/-- It lays new objects, and changes nothing else. -/
def Grow {α : Type} : Sem α → Prop
  | .pure _ => True
  | .halt _ => True
  | .load _ _ k => ∀ v, Grow (k v)
  | .store _ _ _ k => Dead k
  | .new _ k => ∀ n, Grow (k n)
  | .shape _ k => ∀ x, Grow (k x)
  | .freeze _ _ k => Dead k
  | .frozen _ k => ∀ b, Grow (k b)
  | .getObj _ k => ∀ o, Grow (k o)
  | .setObj _ _ k => Dead k
  | .choose _ k => ∀ n, Dead (k n)
  | .sys _ k => ∀ r, Dead (k r)
  | .program k => ∀ p, Grow (k p)
  | .mark _ k => Grow k

theorem Grow.run {α : Type} {P : Program} (s : Sem α) : ∀ {w : World} {x : α} {w' : World}, Grow s → s.run P w = .ok x w' → Ext w w' := by
  induction s with
  | pure a => intro w x w' h e; cases e; exact Ext.refl _
  | halt h => intro w x w' _ e; cases e
  | load m a k ih =>
    intro w x w' h e
    unfold Sem.run at e
    split at e
    · exact ih _ (h _) e
    · split at e
      · exact ih _ (h _) e
      · cases e
  | store m a v k ih => intro w x w' h e; exact absurd e (Dead.run (.store m a v k) h)
  | new o k ih =>
    intro w x w' h e
    unfold Sem.run at e
    refine Ext.trans (fun j o' hj => ?_) (ih _ (h _) e)
    simp only [World.alloc, Array.getElem?_push]
    rw [if_neg (by have := (Array.getElem?_eq_some_iff.1 hj).1; omega)]
    exact hj
  | shape r k ih => intro w x w' h e; exact ih _ (h _) e
  | freeze a n k ih => intro w x w' h e; exact absurd e (Dead.run (.freeze a n k) h)
  | frozen a k ih => intro w x w' h e; exact ih _ (h _) e
  | getObj r k ih =>
    intro w x w' h e
    unfold Sem.run at e
    split at e
    · cases e
    · exact ih _ (h _) e
    · cases e
  | setObj r o k ih => intro w x w' h e; exact absurd e (Dead.run (.setObj r o k) h)
  | choose q k ih => intro w x w' h e; exact absurd e (Dead.run (.choose q k) h)
  | sys c k ih => intro w x w' h e; exact absurd e (Dead.run (.sys c k) h)
  | program k ih => intro w x w' h e; exact ih _ (h _) e
  | mark m k ih => intro w x w' h e; exact ih h e

theorem Grow.bind {α β : Type} (s : Sem α) (f : α → Sem β) (hf : ∀ x, Grow (f x)) : Grow s → Grow (s >>= f) := by
  show Grow s → Grow (s.bind f)
  induction s with
  | pure a => intro _; exact hf a
  | halt h => intro _; trivial
  | load m a k ih => intro h v; exact ih v (h v)
  | store m a v k ih => intro h; exact Dead.bind k f h
  | new o k ih => intro h n; exact ih n (h n)
  | shape r k ih => intro h n; exact ih n (h n)
  | freeze a n k ih => intro h; exact Dead.bind k f h
  | frozen a k ih => intro h n; exact ih n (h n)
  | getObj r k ih => intro h n; exact ih n (h n)
  | setObj r o k ih => intro h; exact Dead.bind k f h
  | choose q k ih => intro h n; exact Dead.bind (k n) f (h n)
  | sys c k ih => intro h n; exact Dead.bind (k n) f (h n)
  | program k ih => intro h n; exact ih n (h n)
  | mark m k ih => intro h; exact ih h

theorem Calm1.grow {α : Type} (s : Sem α) : Calm1 s → Grow s := by
  induction s with
  | pure a => intro _; trivial
  | halt h => intro _; trivial
  | load m a k ih => intro h v; exact ih v (h v)
  | store m a v k ih => intro h; exact h
  | new o k ih => intro h n; exact ih n ((Dead.calm _ (h n)))
  | shape r k ih => intro h n; exact ih n (h n)
  | freeze a n k ih => intro h; exact h
  | frozen a k ih => intro h n; exact ih n (h n)
  | getObj r k ih => intro h n; exact ih n (h n)
  | setObj r o k ih => intro h; exact h
  | choose q k ih => intro h n; exact h n
  | sys c k ih => intro h n; exact h n
  | program k ih => intro h n; exact ih n (h n)
  | mark m k ih => intro h; exact ih h

theorem grow_alloc (t : TypeId) : Grow (Instr.alloc t true (.tuple #[])) := by
  unfold Instr.alloc
  refine Grow.bind _ _ (fun z => ?_) (Calm1.grow _ (by
    unfold zeroValue
    refine Calm1.bind _ _ (fun p => ?_) (calm_typeInfo t)
    split <;> first | exact calm_pure _ | exact calm_unsup _))
  dsimp only
  refine Grow.bind _ _ (fun _ => trivial) ?_
  unfold newVar newRow
  refine Grow.bind _ _ (fun _ => trivial) ?_
  exact fun _ => trivial

/-- Operations that change nothing, or lay a new variable, and nothing else. -/
def isMild (o : Oper) : Bool :=
  match isStill o with
  | true => true
  | false => match o.op with
    | .alloc _ => true
    | _ => false

theorem isMild_ok {P : Program} {o : Oper} (h : isMild o = true) {ρ : Operand → Value} {w w' : World} {n : Next} (e : (execOp ρ o).run P w = .ok n w') : Ext w w' ∧ ∃ u, n = .value u := by
  unfold isMild at h
  split at h
  · rename_i hs
    obtain ⟨rfl, hu⟩ := isStill_ok hs e
    exact ⟨Ext.refl _, hu⟩
  · split at h
    · rename_i t ho
      unfold execOp at e
      rw [ho] at e
      dsimp only at e
      have hg : Grow (do pure (Next.value (← Instr.alloc t true (.tuple #[]))) : Sem Next) := Grow.bind _ (fun x => pure (Next.value x)) (fun _ => trivial) (grow_alloc t)
      refine ⟨Grow.run _ hg e, ?_⟩
      rw [Sem.run_bind] at e
      cases hr : (Instr.alloc t true (.tuple #[])).run P w with
      | halt _ _ => rw [hr] at e; cases e
      | ok x w2 => rw [hr] at e; cases e; exact ⟨_, rfl⟩
    · cases h

section
variable {P : Program} {ops : Array Oper} {Q : Exit → Act → World → Prop} {md : Region.Mode} {S : World → Prop}

/-- An operation that changes nothing leaves the world as it was. -/
theorem wpOp_mild {j : Nat} {oj : Oper} (hj : ops[j]? = some oj) (hs : isMild oj = true) {K : Act → World → Prop} {a : Act} {w : World} (h : wpOp P ops Q j K a w) :
    wpOp P ops Q j (fun a' w' => Ext w w' ∧ K a' w') a w := by
  unfold wpOp at *
  simp only [hj] at *
  split
  · rename_i hw
    simp only [hw, if_true] at h
    refine h.imp (fun h => ?_) id
    unfold Oper.wp at *
    cases hr : (execOp a.eval oj).run P w with
    | ok n w' =>
      obtain ⟨hx, u, rfl⟩ := isMild_ok hs hr
      rw [hr] at h
      exact ⟨hx, h⟩
    | halt x w' =>
      rw [hr] at h
      cases x <;> first | exact h | exact h.elim
  · rename_i hw
    simp only [hw] at h
    exact ⟨Ext.refl _, h⟩

/-- A look may be taken first where all that may come ahead of it are looks, too, or lay new variables. 'late': those that wait for it. -/
theorem wpAnyH_look {w0 : World} {i : Nat} {oi : Oper} {v : Value} {late : Nat → Bool} (hi : ops[i]? = some oi) (hsel : ∀ (j : Nat) (o : Oper) cs b, ops[j]? = some o → o.op ≠ .select cs b)
    (hQ : ∀ c a w, Q (.panic c) (a.put oi.dst v) w → Q (.panic c) a w) :
    ∀ (fuel : Nat) (listed : Array Bool) (a : Act) (w : World),
      (∀ j oj, ops[j]? = some oj → late j = true → ∃ e ∈ oj.after, Region.binds md e = true ∧ (e.on = i ∨ late e.on = true)) →
      (∀ j, late j = true → listed.getD j false = false) →
      (∀ j oj, ops[j]? = some oj → j ≠ i → listed.getD j true = false → late j = false → oi.apart ops oj = true ∧ isMild oj = true) →
      i ∈ Region.ready md ops listed → Ext w0 w → YieldsIf P ops (Ext w0) oi v a → S w →
      wpAnyH P md ops Q S fuel (listed.setIfInBounds i true) (a.put oi.dst v) w → wpAnyH P md ops Q S (fuel + 1) listed a w := by
  intro fuel
  induction fuel with
  | zero =>
    intro listed a w _ _ _ hr hx0 hy hS H
    refine ⟨fun h => (by rw [h] at hr; cases hr), fun j hj => ?_⟩
    by_cases hji : j = i
    · subst hji; exact hy.wpOp hi hx0 ⟨hS, H⟩
    · have := ready_mono hj hji
      rw [H.1] at this
      cases this
  | succ fuel ih =>
    intro listed a w hlate hun hfree hr hx0 hy hS H
    refine ⟨fun h => (by rw [h] at hr; cases hr), fun j hj => ?_⟩
    by_cases hji : j = i
    · subst hji; exact hy.wpOp hi hx0 ⟨hS, H⟩
    · have h1 := H.2 j (ready_mono hj hji)
      obtain ⟨hjun, oj, hoj, hall⟩ := mem_ready.1 hj
      have hiun : listed.getD i false = false := by
        have h0 := (mem_ready.1 hr).1
        rcases Nat.lt_or_ge i listed.size with h' | h'
        · simp [h'] at h0 ⊢; exact h0
        · simp [Array.getElem?_eq_none h']
      have hnl : late j = false := by
        cases hl : late j with
        | false => rfl
        | true =>
          obtain ⟨e, he, hb, hon⟩ := hlate j oj hoj hl
          have := hall e he hb
          rcases hon with h2 | h2
          · rw [h2, hiun] at this; cases this
          · rw [hun _ h2] at this; cases this
      obtain ⟨hap, hst⟩ := hfree j oj hoj hji hjun hnl
      have h2 := wpOp_mild hoj hst (wpOp_putIf hoj hap (fun cs b => hsel i oi cs b hi) (fun cs b => hsel j oj cs b hoj) hQ hy h1)
      have hfree' : ∀ k ok, ops[k]? = some ok → k ≠ i → (listed.setIfInBounds j true).getD k true = false → late k = false → oi.apart ops ok = true ∧ isMild ok = true := fun k ok hk hki hun hno => by
        refine hfree k ok hk hki ?_ hno
        by_cases hjk : j = k
        · subst hjk; exact hjun
        · rw [getD_set_ne true hjk] at hun; exact hun
      have hun' : ∀ k, late k = true → (listed.setIfInBounds j true).getD k false = false := fun k hk => by
        have hjk : j ≠ k := fun e => by rw [e, hk] at hnl; cases hnl
        rw [getD_set_ne false hjk]; exact hun k hk
      refine wpOp_mono (fun a' w' h3 => ⟨h3.2.2.1, ?_⟩) h2
      obtain ⟨hx1, hy', h4⟩ := h3
      refine ih (listed.setIfInBounds j true) a' w' hlate hun' hfree' (ready_mono hr (Ne.symm hji)) (hx0.trans hx1) hy' h4.1 ?_
      rw [Array.setIfInBounds_comm _ _ hji]
      exact h4.2

end
end Go.Gb
namespace Go.Gb

/-! Regions whose order is open: what hangs on nobody else comes first, what doesn't must be the only one that may come. -/

def predsIn : List Edge → Nat → Bool
  | [], _ => true
  | e :: r, done => match Region.binds .any e with
    | false => predsIn r done
    | true => match Nat.testBit done e.on with
      | true => predsIn r done
      | false => false

def waitsFor : List Edge → Nat → Bool
  | [], _ => false
  | e :: r, i => match Region.binds .any e with
    | false => waitsFor r i
    | true => match Nat.beq e.on i with
      | true => true
      | false => waitsFor r i

/-- No operation that is left, but i, may come now. -/
def alone (done i : Nat) : List Oper → Nat → Bool
  | [], _ => true
  | o :: r, j => match Nat.beq j i with
    | true => alone done i r (j + 1)
    | false => match Nat.testBit done j with
      | true => alone done i r (j + 1)
      | false => match predsIn o.after.toList done with
        | true => false
        | false => alone done i r (j + 1)

/-- Every operation that is left, but i, waits for i, or has nothing to do with it. -/
def freeOf (ops : Array Oper) (oi : Oper) (done i : Nat) : List Oper → Nat → Bool
  | [], _ => true
  | o :: r, j => match Nat.beq j i with
    | true => freeOf ops oi done i r (j + 1)
    | false => match Nat.testBit done j with
      | true => freeOf ops oi done i r (j + 1)
      | false => match waitsFor o.after.toList i with
        | true => freeOf ops oi done i r (j + 1)
        | false => match Oper.apart ops oi o with
          | true => freeOf ops oi done i r (j + 1)
          | false => false

def noSel : List Oper → Bool
  | [] => true
  | o :: r => match o.op with
    | .select _ _ => false
    | _ => noSel r

def allIn (done : Nat) : List Oper → Nat → Bool
  | [], _ => true
  | _ :: r, j => match Nat.testBit done j with
    | true => allIn done r (j + 1)
    | false => false

/-- May it be done first, without harm? -/
def quiet (P : Program) (wr : List Nat) (o : Oper) (st : St) : Bool :=
  match isQuiet P o.op with
  | true => true
  | false => match o.op with
    | .load _ x => match st.opd x with
      | .p k _ => match memN wr k with
        | true => false
        | false => true
      | _ => false
    | _ => false

def storeOk (wr : List Nat) (st : St) (o : Oper) : Bool :=
  match storeTo st o with
  | some k => memN wr k
  | none => match newTo o with
    | some k => memN wr k
    | none => !isYield st o

/-- Does an operation wait for i, or for one of the mask? -/
def waitsM : List Edge → Nat → Nat → Bool
  | [], _, _ => false
  | e :: r, i, m => match Region.binds .any e with
    | false => waitsM r i m
    | true => match Nat.beq e.on i with
      | true => true
      | false => match Nat.testBit m e.on with
        | true => true
        | false => waitsM r i m

/-- What a look asks of those that are left. -/
def lookOf (ops : Array Oper) (oi : Oper) (done i m : Nat) : List Oper → Nat → Bool
  | [], _ => true
  | o :: r, j => match Nat.testBit m j with
    | true => match Nat.testBit done j with
      | true => false
      | false => match waitsM o.after.toList i m with
        | true => lookOf ops oi done i m r (j + 1)
        | false => false
    | false => match Nat.beq j i with
      | true => lookOf ops oi done i m r (j + 1)
      | false => match Nat.testBit done j with
        | true => lookOf ops oi done i m r (j + 1)
        | false => match isMild o with
          | true => match Oper.apart ops oi o with
            | true => lookOf ops oi done i m r (j + 1)
            | false => false
          | false => false

/-- No operation that is left, but i and those of the mask, may come now. -/
def aloneX (done ex i : Nat) : List Oper → Nat → Bool
  | [], _ => true
  | o :: r, j => match Nat.beq j i with
    | true => aloneX done ex i r (j + 1)
    | false => match Nat.testBit done j with
      | true => aloneX done ex i r (j + 1)
      | false => match Nat.testBit ex j with
        | true => aloneX done ex i r (j + 1)
        | false => match predsIn o.after.toList done with
          | true => false
          | false => aloneX done ex i r (j + 1)

/-- By the guard: it is done, or left out. -/
def xsG (n : Nat) (ops : Array Oper) (o : Oper) (st : St) (go skip : St → Prop) : Prop :=
  match o.guard with
  | none => go st
  | some (j, want) => match ops.toList[j]? with
    | none => False
    | some oj => match oj.dst with
      | none => False
      | some d => match Nat.blt d n with
        | false => False
        | true => match st.get d with
          | .v (.bool b) => xsIf b
              (match want with
                | true => go (st.put d (.v (.bool true)))
                | false => skip (st.put d (.v (.bool true))))
              (match want with
                | true => skip (st.put d (.v (.bool false)))
                | false => go (st.put d (.v (.bool false))))
          | .v (.tuple _) => skip st
          | _ => False

def isLoad (o : Oper) : Bool :=
  match o.op with
  | .load _ _ => true
  | _ => false

def xsD (P : Program) (H : Hn) (n : Nat) (ops : Array Oper) (wr : List Nat) : Sq → Nat → Nat → St → Heap → (St → Heap → Prop) → Prop
  | .nil, done, ex, st, h, K => match Nat.beq ex 0 with
    | false => False
    | true => match allIn done ops.toList 0 with
      | true => K st h
      | false => False
  | .q i r, done, ex, st, h, K => match Nat.beq ex 0 with
    | false => False
    | true => match ops.toList[i]? with
      | none => False
      | some o => match Nat.testBit done i with
        | true => False
        | false => match predsIn o.after.toList done with
          | false => False
          | true => xsG n ops o st
            (fun st' => match quiet P wr o st' with
              | true => match freeOf ops o done i ops.toList 0 with
                | true => xsOper P H o st' h (xsPut n o.dst fun st' h' => xsD P H n ops wr r (done ||| 2 ^ i) 0 st' h' K)
                | false => False
              | false => match alone done i ops.toList 0 with
                | true => match storeOk wr st' o with
                  | true => xsOper P H o st' h (xsPut n o.dst fun st' h' => xsD P H n ops wr r (done ||| 2 ^ i) 0 st' h' K)
                  | false => False
                | false => False)
            (fun st' => match freeOf ops o done i ops.toList 0 with
              | true => xsPut n o.dst (fun st' h' => xsD P H n ops wr r (done ||| 2 ^ i) 0 st' h' K) (.v undef) st' h
              | false => False)
  | .ld i m r, done, ex, st, h, K => match Nat.beq ex 0 with
    | false => False
    | true => match ops.toList[i]? with
      | none => False
      | some o => match Nat.testBit done i with
        | true => False
        | false => match predsIn o.after.toList done with
          | false => False
          | true => match isLoad o with
            | false => False
            | true => match lookOf ops o done i m ops.toList 0 with
              | false => False
              | true => xsG n ops o st (fun st' => xsOper P H o st' h (xsPut n o.dst fun st' h' => xsD P H n ops wr r (done ||| 2 ^ i) 0 st' h' K))
                  (fun st' => xsPut n o.dst (fun st' h' => xsD P H n ops wr r (done ||| 2 ^ i) 0 st' h' K) (.v undef) st' h)
  | .br i a b, done, ex, st, h, K => match Nat.beq b.len (a.len + 1) with
    | false => False
    | true => match ops.toList[i]? with
      | none => False
      | some o => match Nat.testBit done i with
        | true => False
        | false => match predsIn o.after.toList done with
          | false => False
          | true => xsG n ops o st
              (fun st' => match storeOk wr st' o with
                | true => xsOper P H o st' h (xsPut n o.dst fun st' h' => xsD P H n ops wr a (done ||| 2 ^ i) 0 st' h' K)
                | false => False)
              (fun st' => xsPut n o.dst (fun st' h' => xsD P H n ops wr a (done ||| 2 ^ i) 0 st' h' K) (.v undef) st' h) ∧
            xsD P H n ops wr b done (ex ||| 2 ^ i) st h K
  | .one i a, done, ex, st, h, K => match ops.toList[i]? with
    | none => False
    | some o => match Nat.testBit done i with
      | true => False
      | false => match predsIn o.after.toList done with
        | false => False
        | true => match aloneX done ex i ops.toList 0 with
          | false => False
          | true => xsG n ops o st
              (fun st' => match storeOk wr st' o with
                | true => xsOper P H o st' h (xsPut n o.dst fun st' h' => xsD P H n ops wr a (done ||| 2 ^ i) 0 st' h' K)
                | false => False)
              (fun st' => xsPut n o.dst (fun st' h' => xsD P H n ops wr a (done ||| 2 ^ i) 0 st' h' K) (.v undef) st' h)

/-! That it is so. -/

structure Listed (ops : Array Oper) (done : Nat) (l : Array Bool) : Prop where
  size : l.size = ops.size
  bit : ∀ j, j < ops.size → ∀ d, l.getD j d = Nat.testBit done j

theorem predsIn_ok {ops : Array Oper} {done : Nat} {l : Array Bool} (hl : Listed ops done l) (es : List Edge) (h : predsIn es done = true) : ∀ e, e ∈ es → Region.binds .any e = true → e.on < ops.size → l.getD e.on false = true := by
  induction es with
  | nil => intro e he; cases he
  | cons x r ih =>
    unfold predsIn at h
    intro e he hb hlt
    split at h
    · rename_i hx
      rcases List.mem_cons.1 he with rfl | he
      · rw [hb] at hx; cases hx
      · exact ih h e he hb hlt
    · split at h
      · rename_i ht
        rcases List.mem_cons.1 he with rfl | he
        · rw [hl.bit _ hlt]; exact ht
        · exact ih h e he hb hlt
      · cases h

/-- Edges lead to operations of the region. -/
def edgesIn (n : Nat) : List Edge → Bool
  | [] => true
  | e :: r => match Nat.blt e.on n with
    | true => edgesIn n r
    | false => false

def edgesOk (n : Nat) : List Oper → Bool
  | [] => true
  | o :: r => match edgesIn n o.after.toList with
    | true => edgesOk n r
    | false => false

theorem edgesIn_ok {n : Nat} (es : List Edge) (h : edgesIn n es = true) : ∀ e, e ∈ es → e.on < n := by
  induction es with
  | nil => intro e he; cases he
  | cons x r ih =>
    unfold edgesIn at h
    split at h
    · rename_i hb
      intro e he
      rcases List.mem_cons.1 he with rfl | he
      · exact blt_lt hb
      · exact ih h e he
    · cases h

theorem edgesOk_ok {n : Nat} (l : List Oper) (h : edgesOk n l = true) : ∀ o, o ∈ l → ∀ e, e ∈ o.after.toList → e.on < n := by
  induction l with
  | nil => intro o ho; cases ho
  | cons x r ih =>
    unfold edgesOk at h
    split at h
    · rename_i hb
      intro o ho
      rcases List.mem_cons.1 ho with rfl | ho
      · exact edgesIn_ok _ hb
      · exact ih h o ho
    · cases h

theorem predsIn_of {ops : Array Oper} {done : Nat} {l : Array Bool} (hl : Listed ops done l) (es : List Edge) (hlt : ∀ e, e ∈ es → e.on < ops.size) (h : ∀ e, e ∈ es → Region.binds .any e = true → l.getD e.on false = true) : predsIn es done = true := by
  induction es with
  | nil => rfl
  | cons x r ih =>
    unfold predsIn
    have ih' := ih (fun e he => hlt e (by simp [he])) (fun e he => h e (by simp [he]))
    cases hb : Region.binds .any x with
    | false => exact ih'
    | true =>
      have := h x (by simp) hb
      rw [hl.bit _ (hlt x (by simp))] at this
      dsimp only
      rw [this]; exact ih'

theorem ready_of {ops : Array Oper} {done i : Nat} {o : Oper} {l : Array Bool} (hl : Listed ops done l) (he : edgesOk ops.size ops.toList = true) (ho : ops[i]? = some o) (hd : Nat.testBit done i = false) (hp : predsIn o.after.toList done = true) :
    i ∈ Region.ready .any ops l := by
  rw [mem_ready]
  have hlt : i < ops.size := (Array.getElem?_eq_some_iff.1 ho).1
  refine ⟨by rw [hl.bit i hlt]; exact hd, o, ho, ?_⟩
  intro e hm hb
  have hm' : e ∈ o.after.toList := by simpa using hm
  exact predsIn_ok hl _ hp e hm' hb (edgesOk_ok _ he o (by simpa using Array.mem_of_getElem? ho) e hm')

theorem not_ready {ops : Array Oper} {done j : Nat} {o : Oper} {l : Array Bool} (hl : Listed ops done l) (he : edgesOk ops.size ops.toList = true) (ho : ops[j]? = some o) (hr : j ∈ Region.ready .any ops l) :
    Nat.testBit done j = false ∧ predsIn o.after.toList done = true := by
  rw [mem_ready] at hr
  obtain ⟨h0, o', ho', hall⟩ := hr
  rw [ho] at ho'
  cases ho'
  have hlt : j < ops.size := (Array.getElem?_eq_some_iff.1 ho).1
  rw [hl.bit j hlt] at h0
  refine ⟨h0, predsIn_of hl _ ?_ ?_⟩
  · exact edgesOk_ok _ he o (by simpa using Array.mem_of_getElem? ho)
  · intro e hm; exact hall e (by simpa using hm)

theorem alone_ok {done i : Nat} (l : List Oper) : ∀ (k : Nat), alone done i l k = true → ∀ j o, l[j]? = some o → k + j ≠ i → Nat.testBit done (k + j) = true ∨ predsIn o.after.toList done = false := by
  induction l with
  | nil => intro k _ j o h; cases h
  | cons x r ih =>
    intro k h j o hj hne
    unfold alone at h
    cases j with
    | zero =>
      simp only [List.getElem?_cons_zero, Option.some.injEq] at hj
      subst hj
      simp only [Nat.add_zero] at hne ⊢
      rw [beq_ne hne] at h
      dsimp only at h
      cases ht : Nat.testBit done k with
      | true => exact .inl rfl
      | false =>
        rw [ht] at h
        dsimp only at h
        cases hp : predsIn x.after.toList done with
        | true => rw [hp] at h; cases h
        | false => exact .inr rfl
    | succ j =>
      simp only [List.getElem?_cons_succ] at hj
      have e : k + (j + 1) = (k + 1) + j := by omega
      rw [e] at hne ⊢
      refine ih (k + 1) ?_ j o hj hne
      split at h
      · exact h
      · split at h
        · exact h
        · split at h
          · cases h
          · exact h

theorem freeOf_ok {ops : Array Oper} {oi : Oper} {done i : Nat} (l : List Oper) : ∀ (k : Nat), freeOf ops oi done i l k = true → ∀ j o, l[j]? = some o → k + j ≠ i →
    Nat.testBit done (k + j) = true ∨ waitsFor o.after.toList i = true ∨ Oper.apart ops oi o = true := by
  induction l with
  | nil => intro k _ j o h; cases h
  | cons x r ih =>
    intro k h j o hj hne
    unfold freeOf at h
    cases j with
    | zero =>
      simp only [List.getElem?_cons_zero, Option.some.injEq] at hj
      subst hj
      simp only [Nat.add_zero] at hne ⊢
      rw [beq_ne hne] at h
      dsimp only at h
      cases ht : Nat.testBit done k with
      | true => exact .inl rfl
      | false =>
        rw [ht] at h
        dsimp only at h
        cases hp : waitsFor x.after.toList i with
        | true => exact .inr (.inl rfl)
        | false =>
          rw [hp] at h
          dsimp only at h
          cases ha : Oper.apart ops oi x with
          | true => exact .inr (.inr rfl)
          | false => rw [ha] at h; cases h
    | succ j =>
      simp only [List.getElem?_cons_succ] at hj
      have e : k + (j + 1) = (k + 1) + j := by omega
      rw [e] at hne ⊢
      refine ih (k + 1) ?_ j o hj hne
      split at h
      · exact h
      · split at h
        · exact h
        · split at h
          · exact h
          · split at h
            · exact h
            · cases h

theorem waitsM_ok (es : List Edge) (i m : Nat) (h : waitsM es i m = true) : ∃ e, e ∈ es ∧ Region.binds .any e = true ∧ (e.on = i ∨ Nat.testBit m e.on = true) := by
  induction es with
  | nil => cases h
  | cons x r ih =>
    unfold waitsM at h
    split at h
    · obtain ⟨e, he, hb⟩ := ih h; exact ⟨e, by simp [he], hb⟩
    · rename_i hx
      split at h
      · rename_i hb; exact ⟨x, by simp, hx, .inl (beq_eq.1 hb)⟩
      · split at h
        · rename_i hm; exact ⟨x, by simp, hx, .inr hm⟩
        · obtain ⟨e, he, hb⟩ := ih h; exact ⟨e, by simp [he], hb⟩

theorem lookOf_ok {ops : Array Oper} {oi : Oper} {done i m : Nat} (l : List Oper) : ∀ (k : Nat), lookOf ops oi done i m l k = true → ∀ j o, l[j]? = some o →
    (Nat.testBit m (k + j) = true → Nat.testBit done (k + j) = false ∧ waitsM o.after.toList i m = true) ∧
    (Nat.testBit m (k + j) = false → k + j ≠ i → Nat.testBit done (k + j) = false → Oper.apart ops oi o = true ∧ isMild o = true) := by
  induction l with
  | nil => intro k _ j o h; cases h
  | cons x r ih =>
    intro k h j o hj
    unfold lookOf at h
    cases j with
    | succ j =>
      simp only [List.getElem?_cons_succ] at hj
      have e : k + (j + 1) = (k + 1) + j := by omega
      rw [e]
      refine ih (k + 1) ?_ j o hj
      split at h
      · split at h
        · cases h
        · split at h
          · exact h
          · cases h
      · split at h
        · exact h
        · split at h
          · exact h
          · split at h
            · split at h
              · exact h
              · cases h
            · cases h
    | zero =>
      simp only [List.getElem?_cons_zero, Option.some.injEq] at hj
      subst hj
      simp only [Nat.add_zero]
      split at h
      · rename_i hm
        rw [hm]
        refine ⟨fun _ => ?_, fun e => by cases e⟩
        split at h
        · cases h
        · rename_i hd
          split at h
          · rename_i hw; exact ⟨hd, hw⟩
          · cases h
      · rename_i hm
        rw [hm]
        refine ⟨fun e => (by cases e), fun _ hne hd => ?_⟩
        rw [beq_ne hne] at h
        dsimp only at h
        rw [hd] at h
        dsimp only at h
        split at h
        · rename_i hs
          split at h
          · rename_i ha; exact ⟨ha, hs⟩
          · cases h
        · cases h

/-- Beyond the region's operations the mask has nothing. -/
theorem aloneX_ok {done ex i : Nat} (l : List Oper) : ∀ (k : Nat), aloneX done ex i l k = true → ∀ j o, l[j]? = some o → k + j ≠ i → Nat.testBit done (k + j) = true ∨ Nat.testBit ex (k + j) = true ∨ predsIn o.after.toList done = false := by
  induction l with
  | nil => intro k _ j o h; cases h
  | cons x r ih =>
    intro k h j o hj hne
    unfold aloneX at h
    cases j with
    | zero =>
      simp only [List.getElem?_cons_zero, Option.some.injEq] at hj
      subst hj
      simp only [Nat.add_zero] at hne ⊢
      rw [beq_ne hne] at h
      dsimp only at h
      cases ht : Nat.testBit done k with
      | true => exact .inl rfl
      | false =>
        rw [ht] at h
        dsimp only at h
        cases hx : Nat.testBit ex k with
        | true => exact .inr (.inl rfl)
        | false =>
          rw [hx] at h
          dsimp only at h
          cases hp : predsIn x.after.toList done with
          | true => rw [hp] at h; cases h
          | false => exact .inr (.inr rfl)
    | succ j =>
      simp only [List.getElem?_cons_succ] at hj
      have e : k + (j + 1) = (k + 1) + j := by omega
      rw [e] at hne ⊢
      refine ih (k + 1) ?_ j o hj hne
      split at h
      · exact h
      · split at h
        · exact h
        · split at h
          · exact h
          · split at h
            · cases h
            · exact h

theorem waitsFor_ok (es : List Edge) (i : Nat) (h : waitsFor es i = true) : ∃ e, e ∈ es ∧ Region.binds .any e = true ∧ e.on = i := by
  induction es with
  | nil => cases h
  | cons x r ih =>
    unfold waitsFor at h
    split at h
    · obtain ⟨e, he, hb⟩ := ih h; exact ⟨e, by simp [he], hb⟩
    · rename_i hx
      split at h
      · rename_i hb; exact ⟨x, by simp, hx, beq_eq.1 hb⟩
      · obtain ⟨e, he, hb⟩ := ih h; exact ⟨e, by simp [he], hb⟩

theorem noSel_ok (l : List Oper) (h : noSel l = true) : ∀ o, o ∈ l → ∀ cs b, o.op ≠ .select cs b := by
  induction l with
  | nil => intro o ho; cases ho
  | cons x r ih =>
    unfold noSel at h
    split at h
    · cases h
    · rename_i hx
      intro o ho cs b e
      rcases List.mem_cons.1 ho with rfl | ho
      · exact hx cs b e
      · exact ih h o ho cs b e

theorem allIn_ok {done : Nat} (l : List Oper) : ∀ k, allIn done l k = true → ∀ j, j < l.length → Nat.testBit done (k + j) = true := by
  induction l with
  | nil => intro k _ j h; cases h
  | cons x r ih =>
    intro k h j hj
    unfold allIn at h
    split at h
    · rename_i ht
      cases j with
      | zero => exact ht
      | succ j =>
        have := ih (k + 1) h j (by simpa using hj)
        rw [show k + (j + 1) = (k + 1) + j by omega]; exact this
    · cases h

theorem Listed.set {ops : Array Oper} {done i : Nat} {l : Array Bool} (hl : Listed ops done l) (hi : i < ops.size) : Listed ops (done ||| 2 ^ i) (l.setIfInBounds i true) := by
  refine ⟨by simp [hl.size], ?_⟩
  intro j hj d
  rw [Nat.testBit_or, Nat.testBit_two_pow]
  by_cases e : i = j
  · subst e
    have : i < l.size := by rw [hl.size]; exact hi
    simp [this]
  · rw [getD_set_ne d e, hl.bit j hj]
    simp [e]

/-- What is true of every world in the region. -/
def Held (wr : List Nat) (st0 : St) (β0 : Nat → Nat) (w0 : World) (w : World) : Prop :=
  ∀ k, st0.pget k ≠ none → memN wr k = false → w.heap[β0 k]? = w0.heap[β0 k]?

structure InvD (n : Nat) (wr : List Nat) (st0 : St) (β0 : Nat → Nat) (h0 : Heap) (w0 : World) (st : St) (β : Nat → Nat) (h : Heap) (a : Act) (w : World) : Prop where
  rep : Rep n st h β a w
  mid : Mid st0 β0 h0 w0 st β h w
  held : Held wr st0 β0 w0 w
  kept : ∀ k, st0.pget k ≠ none → memN wr k = false → st.pget k = st0.pget k ∧ β k = β0 k

theorem Mid.trans {st st' st'' : St} {β β' β'' : Nat → Nat} {h h' h'' : Heap} {w w' w'' : World} (m : Mid st β h w st' β' h' w') (p : Mid st' β' h' w' st'' β'' h'' w'') : Mid st β h w st'' β'' h'' w'' := by
  refine ⟨Nat.le_trans m.size p.size, ?_, ?_, ?_, p.os.trans m.os, p.output.trans m.output, p.tape.trans m.tape, p.md.trans m.md⟩
  · intro k hk hn hp
    rw [← m.frame k hk hn hp]
    refine p.frame k (Nat.lt_of_lt_of_le hk m.size) ?_ ?_
    · cases hh : h' k with
      | none => rfl
      | some o =>
        rcases m.dom k (by rw [hh]; simp) with h1 | h1
        · exact absurd hn h1
        · omega
    · intro i hi e
      rcases m.pdom i hi with ⟨j, hj, hb⟩ | hb
      · exact hp j hj (by rw [← hb, e])
      · omega
  · intro k hk
    rcases p.dom k hk with h1 | h1
    · exact m.dom k h1
    · have := m.size; exact .inr (by omega)
  · intro i hi
    rcases p.pdom i hi with ⟨j, hj, hb⟩ | hb
    · rcases m.pdom j hj with ⟨j', hj', hb'⟩ | hb'
      · exact .inl ⟨j', hj', by rw [hb, hb']⟩
      · exact .inr (by rw [hb]; exact hb')
    · have := m.size; exact .inr (by omega)

theorem InvD.step {n : Nat} {wr : List Nat} {st0 : St} {β0 : Nat → Nat} {h0 : Heap} {w0 : World} {st st' : St} {β β' : Nat → Nat} {h h' : Heap} {a : Act} {w w' : World} {ex : Option Nat}
    (i : InvD n wr st0 β0 h0 w0 st β h a w) (rep : Rep n st' h' β' a w') (mid : Mid st β h w st' β' h' w') (kp : KeepP st β w st' β' w' ex) (hex : ∀ k, ex = some k → memN wr k = true) :
    InvD n wr st0 β0 h0 w0 st' β' h' a w' := by
  have key : ∀ k, st0.pget k ≠ none → memN wr k = false → st'.pget k = st.pget k ∧ β' k = β k ∧ w'.heap[β k]? = w.heap[β k]? := by
    intro k hk hm
    refine kp k ?_ ?_
    · rw [(i.kept k hk hm).1]; exact hk
    · intro e; have := hex k e; rw [hm] at this; cases this
  refine ⟨rep, i.mid.trans mid, ?_, ?_⟩
  · intro k hk hm
    obtain ⟨h1, h2, h3⟩ := key k hk hm
    rw [(i.kept k hk hm).2] at h3
    rw [h3]; exact i.held k hk hm
  · intro k hk hm
    obtain ⟨h1, h2, h3⟩ := key k hk hm
    obtain ⟨g1, g2⟩ := i.kept k hk hm
    exact ⟨h1.trans g1, h2.trans g2⟩

theorem InvD.put {n : Nat} {wr : List Nat} {st0 : St} {β0 : Nat → Nat} {h0 : Heap} {w0 : World} {st : St} {β : Nat → Nat} {h : Heap} {a : Act} {w : World}
    (i : InvD n wr st0 β0 h0 w0 st β h a w) {d : Nat} (hd : d < n) {x : XV} {v : Value} (hx : x.is β v) (hp : ∀ k off, x = .p k off → st.pget k ≠ none) :
    InvD n wr st0 β0 h0 w0 (st.put d x) β h (a.put (some d) v) w :=
  ⟨i.rep.put hd hx hp, ⟨i.mid.size, i.mid.frame, i.mid.dom, i.mid.pdom, i.mid.os, i.mid.output, i.mid.tape, i.mid.md⟩, i.held, i.kept⟩

theorem InvD.putSame {n : Nat} {wr : List Nat} {st0 : St} {β0 : Nat → Nat} {h0 : Heap} {w0 : World} {st : St} {β : Nat → Nat} {h : Heap} {a : Act} {w : World}
    (i : InvD n wr st0 β0 h0 w0 st β h a w) {d : Nat} {x : XV} (hd : st.get d = x) : InvD n wr st0 β0 h0 w0 (st.put d x) β h a w := by
  have hg : ∀ u, (st.put d x).get u = st.get u := by
    intro u
    rw [get_put]
    split
    · rename_i e; rw [← e, hd]
    · rfl
  refine ⟨⟨i.rep.size, ?_, ?_, i.rep.priv, i.rep.inj, i.rep.sub, i.rep.defers⟩, ⟨i.mid.size, i.mid.frame, i.mid.dom, i.mid.pdom, i.mid.os, i.mid.output, i.mid.tape, i.mid.md⟩, i.held, i.kept⟩
  · intro t; rw [hg]; exact i.rep.env t
  · intro t k off; rw [hg]; exact i.rep.held t k off

theorem KeepP.of_post {n : Nat} {st : St} {h h' : Heap} {β : Nat → Nat} {a : Act} {w w' : World} (r : Rep n st h β a w) (p : Post h w h' w') (ex : Option Nat) : KeepP st β w st β w' ex := by
  intro k hk _
  obtain ⟨cs, hcs⟩ := Option.ne_none_iff_exists'.1 hk
  exact ⟨rfl, rfl, p.frame _ (r.lt hcs) (r.priv k cs hcs).1⟩

theorem yielded_of' {n : Nat} {st : St} {h : Heap} {β : Nat → Nat} {a : Act} {w : World} (r : Rep n st h β a w) {ops : Array Oper} {j d : Nat} {oj : Oper} (hj : ops[j]? = some oj) (hd : oj.dst = some d) {b : Bool} (hg : st.get d = .v (.bool b)) :
    yielded ops a.tmps j = some b := by
  unfold yielded
  rw [hj]
  simp only [Option.bind_some, hd]
  rcases r.env d with h1 | ⟨y, hy, hi⟩
  · rw [hg] at h1; cases h1
  · rw [hg] at hi
    have : y = .bool b := hi
    rw [hy, this]

theorem yielded_none' {n : Nat} {st : St} {h : Heap} {β : Nat → Nat} {a : Act} {w : World} (r : Rep n st h β a w) {ops : Array Oper} {j d : Nat} {oj : Oper} (hj : ops[j]? = some oj) (hd : oj.dst = some d) {vs : Array Value} (hg : st.get d = .v (.tuple vs)) :
    yielded ops a.tmps j = none := by
  unfold yielded
  rw [hj]
  simp only [Option.bind_some, hd]
  rcases r.env d with h1 | ⟨y, hy, hi⟩
  · rw [hg] at h1; cases h1
  · rw [hg] at hi
    have : y = .tuple vs := hi
    rw [hy, this]

section
variable {P : Program} {H : Hn} {f n : Nat} {ops : Array Oper} {wr : List Nat}

/-- What the region is to end in. -/
def EndD (n : Nat) (wr : List Nat) (st0 : St) (β0 : Nat → Nat) (h0 : Heap) (w0 : World) (K : St → Heap → Prop) : Exit → Act → World → Prop :=
  fun e a w => e = .normal ∧ ∃ st β h, InvD n wr st0 β0 h0 w0 st β h a w ∧ K st h

theorem hQ_end {st0 : St} {β0 : Nat → Nat} {h0 : Heap} {w0 : World} {K : St → Heap → Prop} {dst : Option Tmp} {v : Value} :
    ∀ c a w, EndD n wr st0 β0 h0 w0 K (.panic c) (a.put dst v) w → EndD n wr st0 β0 h0 w0 K (.panic c) a w := fun _ _ _ h => by cases h.1

theorem quiet_yields {st0 : St} {β0 : Nat → Nat} {h0 : Heap} {w0 : World} {st : St} {β : Nat → Nat} {h : Heap} {a : Act} {w : World} {o : Oper} {K : XV → St → Heap → Prop}
    (i : InvD n wr st0 β0 h0 w0 st β h a w) (hq : quiet P wr o st = true) (hk : xsOper P H o st h K) (hinit : ∀ k, st.pget k ≠ none → memN wr k = false → st0.pget k ≠ none) :
    ∃ x v, (∀ w', Held wr st0 β0 w0 w' → (execOp a.eval o).run P w' = .ok (.value v) w') ∧ XV.is β x v ∧ (∀ k off, x = .p k off → st.pget k ≠ none) ∧ K x st h := by
  unfold quiet at hq
  split at hq
  · rename_i hp
    obtain ⟨x, v, hv, hx, hpp, hkx⟩ := xsQuiet_ok hp i.rep hk
    exact ⟨x, v, fun w' _ => hv w', hx, hpp, hkx⟩
  · split at hq
    · rename_i t x ho
      split at hq
      · rename_i k off hx
        split at hq
        · cases hq
        · rename_i hm
          have hkk := xsOper_load ho hk
          have hx' : a.eval x = .pointer (some ⟨β k, off, none⟩) := by
            have := i.rep.is x; rw [hx] at this; exact this
          have hpk := i.rep.heldOp hx
          obtain ⟨cs, hcs⟩ := Option.ne_none_iff_exists'.1 hpk
          have hst0 := hinit k hpk hm
          -- every world in the region holds the block
          have hrep : ∀ w', Held wr st0 β0 w0 w' → ∃ T, w'.heap[β k]? = some (.cells cs.toArray T (0, 0)) := by
            intro w' hw'
            obtain ⟨_, T, hT⟩ := i.rep.priv k cs hcs
            refine ⟨T, ?_⟩
            rw [(i.kept k hst0 hm).2] at hT ⊢
            rw [hw' k hst0 hm, ← i.held k hst0 hm, hT]
          rw [hx] at hkk
          obtain ⟨v, hv, hkv⟩ := xsLoadP_ok hcs hkk
          refine ⟨.v v, v, ?_, rfl, (fun _ _ e => by cases e), hkv⟩
          intro w' hw'
          obtain ⟨T, hT⟩ := hrep w' hw'
          unfold execOp; rw [ho]
          refine run_v ?_
          rw [hx']
          exact hv _ _ ⟨T, hT⟩
      · cases hq
    · cases hq

theorem testBit_or_pow {ex i j : Nat} (h : Nat.testBit ex j = false) (hne : j ≠ i) : Nat.testBit (ex ||| 2 ^ i) j = false := by
  rw [Nat.testBit_or, Nat.testBit_two_pow, h]
  simp; exact fun e => hne e.symm

/-- By the guard. -/
theorem xsG_ok {st0 : St} {β0 : Nat → Nat} {h0 : Heap} {w0 : World} {st : St} {β : Nat → Nat} {h : Heap} {a : Act} {w : World} {o : Oper} {go skip : St → Prop}
    (inv : InvD n wr st0 β0 h0 w0 st β h a w) (hk : xsG n ops o st go skip) :
    ∃ st', InvD n wr st0 β0 h0 w0 st' β h a w ∧ (∀ k, st'.pget k = st.pget k) ∧ ((Region.wanted o (yielded ops a.tmps) = true ∧ go st') ∨ (Region.wanted o (yielded ops a.tmps) = false ∧ skip st')) := by
  unfold xsG at hk
  split at hk
  · rename_i hg
    exact ⟨st, inv, fun _ => rfl, .inl ⟨by simp [Region.wanted, hg], hk⟩⟩
  · rename_i j want hg
    split at hk
    · exact hk.elim
    rename_i oj hoj
    have hoj' : ops[j]? = some oj := by rw [← Array.getElem?_toList]; exact hoj
    split at hk
    · exact hk.elim
    rename_i d hd
    split at hk
    · exact hk.elim
    split at hk
    · rename_i b hb
      have hy := yielded_of' inv.rep hoj' hd hb
      obtain ⟨ht, hf⟩ := xsIf_iff.1 hk
      clear hk
      cases b with
      | true =>
        have hk := ht rfl
        have inv1 := inv.putSame hb
        cases want with
        | true => exact ⟨_, inv1, fun _ => rfl, .inl ⟨by simp [Region.wanted, hg, hy], hk⟩⟩
        | false => exact ⟨_, inv1, fun _ => rfl, .inr ⟨by simp [Region.wanted, hg, hy], hk⟩⟩
      | false =>
        have hk := hf rfl
        have inv1 := inv.putSame hb
        cases want with
        | true => exact ⟨_, inv1, fun _ => rfl, .inr ⟨by simp [Region.wanted, hg, hy], hk⟩⟩
        | false => exact ⟨_, inv1, fun _ => rfl, .inl ⟨by simp [Region.wanted, hg, hy], hk⟩⟩
    · rename_i vs hb
      have hy := yielded_none' inv.rep hoj' hd hb
      exact ⟨st, inv, fun _ => rfl, .inr ⟨by simp [Region.wanted, hg, hy], hk⟩⟩
    · exact hk.elim

theorem xsD_ok {st0 : St} {β0 : Nat → Nat} {h0 : Heap} {w0 : World} {K : St → Heap → Prop} (hns : noSel ops.toList = true) (hed : edgesOk ops.size ops.toList = true) (l : Sq) :
    ∀ (done ex : Nat) (listed : Array Bool) (st : St) (β : Nat → Nat) (h : Heap) (a : Act) (w : World), Listed ops done listed → InvD n wr st0 β0 h0 w0 st β h a w →
      (∀ k, st.pget k ≠ none → memN wr k = false → st0.pget k ≠ none) → xsD P H n ops wr l done ex st h K →
      (ex = 0 → wpAnyH P .any ops (EndD n wr st0 β0 h0 w0 K) (Held wr st0 β0 w0) l.len listed a w) ∧
      (∀ j ∈ Region.ready .any ops listed, Nat.testBit ex j = false → wpOp P ops (EndD n wr st0 β0 h0 w0 K) j (fun a' w' => Held wr st0 β0 w0 w' ∧ wpAnyH P .any ops (EndD n wr st0 β0 h0 w0 K) (Held wr st0 β0 w0) (l.len - 1) (listed.setIfInBounds j true) a' w') a w) := by
  have hsel : ∀ (j : Nat) (o : Oper) cs b, ops[j]? = some o → o.op ≠ .select cs b := fun j o cs b ho => noSel_ok _ hns o (by simpa using Array.mem_of_getElem? ho) cs b
  -- the rest, behind a value that went into its slot
  have hnext : ∀ (r : Sq), (∀ (done ex : Nat) (listed : Array Bool) (st : St) (β : Nat → Nat) (h : Heap) (a : Act) (w : World), Listed ops done listed → InvD n wr st0 β0 h0 w0 st β h a w →
      (∀ k, st.pget k ≠ none → memN wr k = false → st0.pget k ≠ none) → xsD P H n ops wr r done ex st h K →
      (ex = 0 → wpAnyH P .any ops (EndD n wr st0 β0 h0 w0 K) (Held wr st0 β0 w0) r.len listed a w) ∧
      (∀ j ∈ Region.ready .any ops listed, Nat.testBit ex j = false → wpOp P ops (EndD n wr st0 β0 h0 w0 K) j (fun a' w' => Held wr st0 β0 w0 w' ∧ wpAnyH P .any ops (EndD n wr st0 β0 h0 w0 K) (Held wr st0 β0 w0) (r.len - 1) (listed.setIfInBounds j true) a' w') a w)) →
      ∀ (done i : Nat) (listed : Array Bool) (o : Oper) (hl' : Listed ops (done ||| 2 ^ i) (listed.setIfInBounds i true)) (st' : St) (β' : Nat → Nat) (h' : Heap) (a' : Act) (w' : World) (x : XV) (v : Value), InvD n wr st0 β0 h0 w0 st' β' h' a' w' → (∀ k, st'.pget k ≠ none → memN wr k = false → st0.pget k ≠ none) → x.is β' v → (∀ k off, x = .p k off → st'.pget k ≠ none) →
        xsPut n o.dst (fun st' h' => xsD P H n ops wr r (done ||| 2 ^ i) 0 st' h' K) x st' h' →
        wpAnyH P .any ops (EndD n wr st0 β0 h0 w0 K) (Held wr st0 β0 w0) r.len (listed.setIfInBounds i true) (a'.put o.dst v) w' := by
    intro r ih done i listed o hl' st' β' h' a' w' x v inv' hin' hx hp hput
    unfold xsPut at hput
    cases hd : o.dst with
    | none => rw [hd] at hput; exact (ih _ _ _ _ _ _ _ _ hl' inv' hin' hput).1 rfl
    | some d =>
      rw [hd] at hput
      dsimp only at hput
      cases hb : Nat.blt d n with
      | false => rw [hb] at hput; exact hput.elim
      | true =>
        rw [hb] at hput
        exact (ih _ _ _ _ _ _ _ _ hl' (inv'.put (blt_lt hb) hx hp) hin' hput).1 rfl
  -- what is free
  have hfree : ∀ (done i : Nat) (listed : Array Bool) (o : Oper), Listed ops done listed → freeOf ops o done i ops.toList 0 = true → ∀ j oj, ops[j]? = some oj → j ≠ i → listed.getD j true = false → (∀ e ∈ oj.after, Region.binds .any e = true → e.on ≠ i) → o.apart ops oj = true := by
    intro done i listed o hl hf j oj hj hne hun hno
    have hjlt : j < ops.size := (Array.getElem?_eq_some_iff.1 hj).1
    rw [hl.bit j hjlt] at hun
    rcases freeOf_ok _ 0 hf j oj (by simpa using hj) (by simpa using hne) with h1 | h1 | h1
    · rw [Nat.zero_add] at h1; rw [h1] at hun; cases hun
    · obtain ⟨e, he, hb, hon⟩ := waitsFor_ok _ _ h1
      exact absurd hon (hno e (by simpa using he) hb)
    · exact h1
  -- one step of whatever kind
  have hstep : ∀ (r : Sq), (∀ (done ex : Nat) (listed : Array Bool) (st : St) (β : Nat → Nat) (h : Heap) (a : Act) (w : World), Listed ops done listed → InvD n wr st0 β0 h0 w0 st β h a w →
      (∀ k, st.pget k ≠ none → memN wr k = false → st0.pget k ≠ none) → xsD P H n ops wr r done ex st h K →
      (ex = 0 → wpAnyH P .any ops (EndD n wr st0 β0 h0 w0 K) (Held wr st0 β0 w0) r.len listed a w) ∧
      (∀ j ∈ Region.ready .any ops listed, Nat.testBit ex j = false → wpOp P ops (EndD n wr st0 β0 h0 w0 K) j (fun a' w' => Held wr st0 β0 w0 w' ∧ wpAnyH P .any ops (EndD n wr st0 β0 h0 w0 K) (Held wr st0 β0 w0) (r.len - 1) (listed.setIfInBounds j true) a' w') a w)) →
      ∀ (done i : Nat) (listed : Array Bool) (o : Oper) (ho' : ops[i]? = some o) (hl' : Listed ops (done ||| 2 ^ i) (listed.setIfInBounds i true)) (st' : St) (β : Nat → Nat) (h : Heap) (a : Act) (w : World), InvD n wr st0 β0 h0 w0 st' β h a w → (∀ k, st'.pget k ≠ none → memN wr k = false → st0.pget k ≠ none) → Region.wanted o (yielded ops a.tmps) = true → storeOk wr st' o = true →
        xsOper P H o st' h (xsPut n o.dst fun st' h' => xsD P H n ops wr r (done ||| 2 ^ i) 0 st' h' K) →
        wpOp P ops (EndD n wr st0 β0 h0 w0 K) i (fun a' w' => Held wr st0 β0 w0 w' ∧ wpAnyH P .any ops (EndD n wr st0 β0 h0 w0 K) (Held wr st0 β0 w0) r.len (listed.setIfInBounds i true) a' w') a w := by
    intro r ih done i listed o ho' hl' st' β h a w inv' hin' hw hst hs
    unfold wpOp
    rw [ho']
    dsimp only
    rw [if_pos hw]
    refine .inl ?_
    have hout := xsOper_ok inv'.rep hs
    unfold Oper.wp
    cases hout with
    | val nx v x st'' h'' β'' w'' run hnx hx rep mid hp kp nw hput =>
      have hex : ∀ k, storeTo st' o = some k → memN wr k = true := by
        intro k hk'
        unfold storeOk at hst
        rw [hk'] at hst; exact hst
      have hne : ∀ k, newTo o = some k → memN wr k = true := by
        intro k hk'
        have hs0 : storeTo st' o = none := by
          unfold newTo at hk'
          unfold storeTo
          split at hk'
          · rename_i ho2; rw [ho2]
          · rename_i ho2; rw [ho2]
          · cases hk'
        unfold storeOk at hst
        rw [hs0, hk'] at hst; exact hst
      have inv'' := inv'.step rep mid kp hex
      have hin'' : ∀ k, st''.pget k ≠ none → memN wr k = false → st0.pget k ≠ none := by
        intro k hk' hm
        rcases nw k hk' with h1 | h1
        · exact hin' k h1 hm
        · have := hne k h1; rw [hm] at this; cases this
      have hres := hnext r ih done i listed o hl' _ _ _ _ _ x v inv'' hin'' hx hp hput
      rw [run]
      rcases hnx with rfl | ⟨rfl, rfl⟩
      · exact ⟨inv''.held, hres⟩
      · exact ⟨inv''.held, hres⟩
    | call g args run hc =>
      rw [run]
      refine (hc w inv'.rep.sub).mono ?_
      rintro e w'' ⟨v, h'', rfl, hput, p⟩
      have inv'' := inv'.step (inv'.rep.world p) (Mid.of_post p) (KeepP.of_post inv'.rep p none) (fun _ e => by cases e)
      exact ⟨inv''.held, hnext r ih done i listed o hl' _ _ _ _ _ (.v v) v inv'' hin' rfl (fun _ _ e => by cases e) hput⟩
    | round l g tmps assign body hy run hc =>
      exfalso
      unfold isYield at hy
      cases hop : o.op <;> rw [hop] at hy <;> first | (simp at hy; done) | skip
      unfold storeOk storeTo newTo isYield at hst
      rw [hop] at hst
      dsimp only at hst hy
      rw [hy] at hst
      cases hst
  -- one that is left out
  have hleft : ∀ (r : Sq), (∀ (done ex : Nat) (listed : Array Bool) (st : St) (β : Nat → Nat) (h : Heap) (a : Act) (w : World), Listed ops done listed → InvD n wr st0 β0 h0 w0 st β h a w →
      (∀ k, st.pget k ≠ none → memN wr k = false → st0.pget k ≠ none) → xsD P H n ops wr r done ex st h K →
      (ex = 0 → wpAnyH P .any ops (EndD n wr st0 β0 h0 w0 K) (Held wr st0 β0 w0) r.len listed a w) ∧
      (∀ j ∈ Region.ready .any ops listed, Nat.testBit ex j = false → wpOp P ops (EndD n wr st0 β0 h0 w0 K) j (fun a' w' => Held wr st0 β0 w0 w' ∧ wpAnyH P .any ops (EndD n wr st0 β0 h0 w0 K) (Held wr st0 β0 w0) (r.len - 1) (listed.setIfInBounds j true) a' w') a w)) →
      ∀ (done i : Nat) (listed : Array Bool) (o : Oper) (ho' : ops[i]? = some o) (hl' : Listed ops (done ||| 2 ^ i) (listed.setIfInBounds i true)) (st' : St) (β : Nat → Nat) (h : Heap) (a : Act) (w : World), InvD n wr st0 β0 h0 w0 st' β h a w → (∀ k, st'.pget k ≠ none → memN wr k = false → st0.pget k ≠ none) → Region.wanted o (yielded ops a.tmps) = false →
        xsPut n o.dst (fun st' h' => xsD P H n ops wr r (done ||| 2 ^ i) 0 st' h' K) (.v undef) st' h →
        wpOp P ops (EndD n wr st0 β0 h0 w0 K) i (fun a' w' => Held wr st0 β0 w0 w' ∧ wpAnyH P .any ops (EndD n wr st0 β0 h0 w0 K) (Held wr st0 β0 w0) r.len (listed.setIfInBounds i true) a' w') a w := by
    intro r ih done i listed o ho' hl' st' β h a w inv' hin' hw hs
    unfold wpOp
    rw [ho']
    dsimp only
    rw [if_neg (by rw [hw]; simp)]
    exact ⟨inv'.held, hnext r ih done i listed o hl' _ _ _ _ _ (.v undef) undef inv' hin' rfl (fun _ _ e => by cases e) hs⟩
  induction l with
  | nil =>
    intro done ex listed st β h a w hl inv hinit hk
    unfold xsD at hk
    split at hk
    · exact hk.elim
    split at hk
    · rename_i hall
      have hr : Region.ready .any ops listed = [] := by
        rw [List.eq_nil_iff_forall_not_mem]
        intro j hj
        have hj' := hj
        rw [mem_ready] at hj'
        obtain ⟨h1, o, ho, _⟩ := hj'
        have hlt : j < ops.size := (Array.getElem?_eq_some_iff.1 ho).1
        rw [hl.bit j hlt] at h1
        have := allIn_ok _ 0 hall j (by simpa using hlt)
        rw [Nat.zero_add] at this
        rw [this] at h1; cases h1
      refine ⟨fun _ => wpAnyH_done hr ⟨rfl, st, β, h, inv, hk⟩ 0, fun j hj => ?_⟩
      rw [hr] at hj; cases hj
    · exact hk.elim
  | q i r ih =>
    intro done ex listed st β h a w hl inv hinit hk
    unfold xsD at hk
    split at hk
    · exact hk.elim
    rename_i hex0
    have hex0 := beq_eq.1 hex0
    subst hex0
    suffices hmain : wpAnyH P .any ops (EndD n wr st0 β0 h0 w0 K) (Held wr st0 β0 w0) (r.len + 1) listed a w from ⟨fun _ => hmain, fun j hj _ => hmain.2 j hj⟩
    split at hk
    · exact hk.elim
    rename_i o ho
    have ho' : ops[i]? = some o := by rw [← Array.getElem?_toList]; exact ho
    have hlt : i < ops.size := (Array.getElem?_eq_some_iff.1 ho').1
    split at hk
    · exact hk.elim
    rename_i hbit
    split at hk
    · exact hk.elim
    rename_i hpre
    have hready := ready_of hl hed ho' hbit hpre
    have hl' := hl.set hlt
    obtain ⟨st', inv', hpg, hcase⟩ := xsG_ok inv hk
    have hin' : ∀ k, st'.pget k ≠ none → memN wr k = false → st0.pget k ≠ none := fun k hk => hinit k (by rw [← hpg]; exact hk)
    rcases hcase with ⟨hw, hs⟩ | ⟨hw, hs⟩
    · split at hs
      · rename_i hq
        split at hs
        · rename_i hf
          obtain ⟨x, v, hv, hx, hp, hput⟩ := quiet_yields inv' hq hs hin'
          exact wpAnyH_first ho' hsel hQ_end r.len listed a w (hfree done i listed o hl hf) hready (.inl ⟨hw, hv⟩) inv'.held (hnext r ih done i listed o hl' _ _ _ _ _ x v inv' hin' hx hp hput)
        · exact hs.elim
      · split at hs
        · rename_i hal
          split at hs
          · rename_i hst
            have hall : ∀ j ∈ Region.ready .any ops listed, j = i := by
              intro j hj
              by_cases e : j = i
              · exact e
              · have hj' := hj
                rw [mem_ready] at hj'
                obtain ⟨_, oj, hoj, _⟩ := hj'
                obtain ⟨h1, h2⟩ := not_ready hl hed hoj hj
                rcases alone_ok _ 0 hal j oj (by simpa using hoj) (by simpa using e) with h3 | h3
                · rw [Nat.zero_add] at h3; rw [h3] at h1; cases h1
                · rw [h3] at h2; cases h2
            refine ⟨fun he => (by rw [he] at hready; cases hready), ?_⟩
            intro j hj
            obtain rfl := hall j hj
            exact hstep r ih done j listed o ho' hl' st' β h a w inv' hin' hw hst hs
          · exact hs.elim
        · exact hs.elim
    · split at hs
      · rename_i hf
        exact wpAnyH_first ho' hsel hQ_end r.len listed a w (hfree done i listed o hl hf) hready (.inr ⟨hw, rfl⟩) inv'.held (hnext r ih done i listed o hl' _ _ _ _ _ (.v undef) undef inv' hin' rfl (fun _ _ e => by cases e) hs)
      · exact hs.elim
  | ld i m r ih =>
    intro done ex listed st β h a w hl inv hinit hk
    unfold xsD at hk
    split at hk
    · exact hk.elim
    rename_i hex0
    have hex0 := beq_eq.1 hex0
    subst hex0
    suffices hmain : wpAnyH P .any ops (EndD n wr st0 β0 h0 w0 K) (Held wr st0 β0 w0) (r.len + 1) listed a w from ⟨fun _ => hmain, fun j hj _ => hmain.2 j hj⟩
    split at hk
    · exact hk.elim
    rename_i o ho
    have ho' : ops[i]? = some o := by rw [← Array.getElem?_toList]; exact ho
    have hlt : i < ops.size := (Array.getElem?_eq_some_iff.1 ho').1
    split at hk
    · exact hk.elim
    rename_i hbit
    split at hk
    · exact hk.elim
    rename_i hpre
    split at hk
    · exact hk.elim
    rename_i hld
    split at hk
    · exact hk.elim
    rename_i hlook
    have hready := ready_of hl hed ho' hbit hpre
    have hl' := hl.set hlt
    have hlk := fun j oj (hj : ops[j]? = some oj) => lookOf_ok _ 0 hlook j oj (by simpa using hj)
    simp only [Nat.zero_add] at hlk
    have h1 : ∀ j oj, ops[j]? = some oj → Nat.testBit m j = true → ∃ e ∈ oj.after, Region.binds .any e = true ∧ (e.on = i ∨ Nat.testBit m e.on = true) := by
      intro j oj hj hm
      obtain ⟨e, he, hb, hon⟩ := waitsM_ok _ _ _ ((hlk j oj hj).1 hm).2
      exact ⟨e, by simpa using he, hb, hon⟩
    have h2 : ∀ j, Nat.testBit m j = true → listed.getD j false = false := by
      intro j hm
      rcases Nat.lt_or_ge j ops.size with hj | hj
      · rw [hl.bit j hj]
        exact ((hlk j ops[j] (by simp [hj])).1 hm).1
      · simp [Array.getElem?_eq_none (show listed.size ≤ j by rw [hl.size]; exact hj)]
    have h3 : ∀ j oj, ops[j]? = some oj → j ≠ i → listed.getD j true = false → Nat.testBit m j = false → o.apart ops oj = true ∧ isMild oj = true := by
      intro j oj hj hne hun hm
      have hjlt : j < ops.size := (Array.getElem?_eq_some_iff.1 hj).1
      rw [hl.bit j hjlt] at hun
      exact (hlk j oj hj).2 hm hne hun
    obtain ⟨st', inv', hpg, hcase⟩ := xsG_ok inv hk
    have hin' : ∀ k, st'.pget k ≠ none → memN wr k = false → st0.pget k ≠ none := fun k hk => hinit k (by rw [← hpg]; exact hk)
    rcases hcase with ⟨hw, hs⟩ | ⟨hw, hs⟩
    · unfold isLoad at hld
      split at hld
      · rename_i t x hop
        have hs := xsOper_load hop hs
        obtain ⟨v, hv, hput⟩ := xsLoad_all (W := Ext w) (fun k cs hk w2 hx => by obtain ⟨_, T, hT⟩ := inv'.rep.priv k cs hk; exact ⟨T, hx _ _ hT⟩) (fun w2 hx k o hk => hx _ _ (inv'.rep.sub k o hk)) (inv'.rep.is x) hs
        refine wpAnyH_look (w0 := w) (late := fun j => Nat.testBit m j) ho' hsel hQ_end r.len listed a w h1 h2 h3 hready (Ext.refl w) (.inl ⟨hw, fun w2 e => ?_⟩) inv'.held (hnext r ih done i listed o hl' _ _ _ _ _ (.v v) v inv' hin' rfl (fun _ _ e => by cases e) hput)
        unfold execOp; rw [hop]
        exact run_v (hv w2 e)
      · cases hld
    · exact wpAnyH_look (w0 := w) (late := fun j => Nat.testBit m j) ho' hsel hQ_end r.len listed a w h1 h2 h3 hready (Ext.refl w) (.inr ⟨hw, rfl⟩) inv'.held (hnext r ih done i listed o hl' _ _ _ _ _ (.v undef) undef inv' hin' rfl (fun _ _ e => by cases e) hs)
  | one i r ih =>
    intro done ex listed st β h a w hl inv hinit hk
    unfold xsD at hk
    split at hk
    · exact hk.elim
    rename_i o ho
    have ho' : ops[i]? = some o := by rw [← Array.getElem?_toList]; exact ho
    have hlt : i < ops.size := (Array.getElem?_eq_some_iff.1 ho').1
    split at hk
    · exact hk.elim
    rename_i hbit
    split at hk
    · exact hk.elim
    rename_i hpre
    split at hk
    · exact hk.elim
    rename_i hal
    have hready := ready_of hl hed ho' hbit hpre
    have hl' := hl.set hlt
    suffices hmain : (∀ j ∈ Region.ready .any ops listed, Nat.testBit ex j = false → wpOp P ops (EndD n wr st0 β0 h0 w0 K) j (fun a' w' => Held wr st0 β0 w0 w' ∧ wpAnyH P .any ops (EndD n wr st0 β0 h0 w0 K) (Held wr st0 β0 w0) r.len (listed.setIfInBounds j true) a' w') a w) from
      ⟨fun e => ⟨fun he => (by rw [he] at hready; cases hready), fun j hj => hmain j hj (by subst e; simp)⟩, hmain⟩
    intro j hj hjx
    have hji : j = i := by
      by_cases e : j = i
      · exact e
      · have hj' := hj
        rw [mem_ready] at hj'
        obtain ⟨_, oj, hoj, _⟩ := hj'
        obtain ⟨h1, h2⟩ := not_ready hl hed hoj hj
        rcases aloneX_ok _ 0 hal j oj (by simpa using hoj) (by simpa using e) with h3 | h3 | h3
        · rw [Nat.zero_add] at h3; rw [h3] at h1; cases h1
        · rw [Nat.zero_add] at h3; rw [h3] at hjx; cases hjx
        · rw [h3] at h2; cases h2
    subst hji
    obtain ⟨st', inv', hpg, hcase⟩ := xsG_ok inv hk
    have hin' : ∀ k, st'.pget k ≠ none → memN wr k = false → st0.pget k ≠ none := fun k hk => hinit k (by rw [← hpg]; exact hk)
    rcases hcase with ⟨hw, hs⟩ | ⟨hw, hs⟩
    · split at hs
      · rename_i hst
        exact hstep r ih done j listed o ho' hl' st' β h a w inv' hin' hw hst hs
      · exact hs.elim
    · exact hleft r ih done j listed o ho' hl' st' β h a w inv' hin' hw hs
  | br i r s ih ihs =>
    intro done ex listed st β h a w hl inv hinit hk
    unfold xsD at hk
    split at hk
    · exact hk.elim
    rename_i hlen
    have hlen := beq_eq.1 hlen
    split at hk
    · exact hk.elim
    rename_i o ho
    have ho' : ops[i]? = some o := by rw [← Array.getElem?_toList]; exact ho
    have hlt : i < ops.size := (Array.getElem?_eq_some_iff.1 ho').1
    split at hk
    · exact hk.elim
    rename_i hbit
    split at hk
    · exact hk.elim
    rename_i hpre
    obtain ⟨hk, hk2⟩ := hk
    have hready := ready_of hl hed ho' hbit hpre
    have hl' := hl.set hlt
    suffices hmain : (∀ j ∈ Region.ready .any ops listed, Nat.testBit ex j = false → wpOp P ops (EndD n wr st0 β0 h0 w0 K) j (fun a' w' => Held wr st0 β0 w0 w' ∧ wpAnyH P .any ops (EndD n wr st0 β0 h0 w0 K) (Held wr st0 β0 w0) r.len (listed.setIfInBounds j true) a' w') a w) from
      ⟨fun e => ⟨fun he => (by rw [he] at hready; cases hready), fun j hj => hmain j hj (by subst e; simp)⟩, hmain⟩
    intro j hj hjx
    by_cases hji : j = i
    · subst hji
      obtain ⟨st', inv', hpg, hcase⟩ := xsG_ok inv hk
      have hin' : ∀ k, st'.pget k ≠ none → memN wr k = false → st0.pget k ≠ none := fun k hk => hinit k (by rw [← hpg]; exact hk)
      rcases hcase with ⟨hw, hs⟩ | ⟨hw, hs⟩
      · split at hs
        · rename_i hst
          exact hstep r ih done j listed o ho' hl' st' β h a w inv' hin' hw hst hs
        · exact hs.elim
      · exact hleft r ih done j listed o ho' hl' st' β h a w inv' hin' hw hs
    · have := (ihs _ _ _ _ _ _ _ _ hl inv hinit hk2).2 j hj (testBit_or_pow hjx hji)
      rw [hlen, Nat.add_sub_cancel] at this
      exact this

/-- The region, in whatever order. -/
theorem TW.draw {id : Nat} {k : List Item} {st : St} {h : Heap} {Q : Value → Heap → Prop} {K : St → Heap → Prop} (order : Sq) (hm : P.follows .mixedOrders = true) (hns : noSel ops.toList = true) (hed : edgesOk ops.size ops.toList = true)
    (hlen : order.len = ops.size) (hmk : st.md.calm = true) (hK : ∀ st h, K st h → TW P f n k st h Q) (hk : xsD P H n ops wr order 0 0 st h K) : TW P f n (.code (.region id ops true) :: k) st h Q := by
  refine .regionDraw fun c => ?_
  intro β a w r cs
  have hl : Listed ops 0 (Array.replicate ops.size false) := by
    refine ⟨by simp, ?_⟩
    intro j hj d
    simp [hj]
  have inv : InvD n wr st β h w st β h a w := ⟨r, Mid.refl _ _ _ _, fun _ _ _ => rfl, fun _ _ _ => ⟨rfl, rfl⟩⟩
  have h1 := (xsD_ok (P := P) (H := H) (K := K) hns hed order 0 0 _ st β h a w hl inv (fun k hk _ => hk) hk).1 rfl
  have h2 := wpAny_of_held _ _ _ _ h1
  rw [hlen] at h2
  have h3 := wpAny_sound ops.size c (Array.replicate ops.size false) a w h2
  have hsch : Region.schedule (P.follows .mixedOrders) ops c = Region.linearise.go .any ops ops.size c (Array.replicate ops.size false) [] := by
    simp only [Region.schedule, hm, Bool.true_or, if_true]; rfl
  rw [hsch]
  obtain ⟨e, a', w', ⟨rfl, st', β', h', inv', hkk⟩, harr⟩ := wp_ops _ a w h3 (baseF st.md f) k cs
  obtain ⟨v, h'', w'', fr, q, p, hs, hlv⟩ := hK _ _ hkk β' a' w' inv'.rep cs
  have hro : (baseF st.md f).roundOf = none := by
    unfold baseF
    cases hm' : st.md with
    | round l => rw [hm'] at hmk; cases hmk
    | _ => rfl
  rw [inv'.mid.md] at hs hlv
  rw [Frame.atR_of_none hro] at hs ⊢
  exact ⟨v, h'', w'', fr, q, inv'.mid.post p, Steps.trans harr hs, hlv⟩

end

end Go.Gb
