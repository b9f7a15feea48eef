/- Own texts for the seat: GbCore GbOp. -/
import Derived.Calls
import Derived.AtR
import Derived.KernelRfl
set_option linter.unusedVariables false
set_option linter.unusedSimpArgs false
set_option linter.unnecessarySimpa false
set_option linter.deprecated false
namespace Go.Gb

/-! Partial heaps, the frame property, the semantic triple. -/

abbrev Heap := Nat → Option Obj

def upd (h : Heap) (b : Nat) (o : Obj) : Heap := fun k => if k = b then some o else h k

def Heap.del (h : Heap) (b : Nat) : Heap := fun k => if k = b then none else h k

def Sub (h : Heap) (w : World) : Prop := ∀ k o, h k = some o → w.heap[k]? = some o

structure Post (h : Heap) (w : World) (h' : Heap) (w' : World) : Prop where
  sub : Sub h' w'
  size : w.heap.size ≤ w'.heap.size
  frame : ∀ k, k < w.heap.size → h k = none → w'.heap[k]? = w.heap[k]?
  dom : ∀ k, h' k ≠ none → h k ≠ none ∨ w.heap.size ≤ k
  os : w'.os = w.os
  output : w'.output = w.output
  tape : w'.tape = w.tape

/-- The semantic triple: called with these arguments over a heap that holds at least h, the function returns a value v and leaves h', and all else is as it was. -/
def C (P : Program) (f : FuncId) (args : Array Value) (h : Heap) (Q : Value → Heap → Prop) : Prop :=
  ∀ w, Sub h w → Calls P f args w fun e w' => ∃ v h', e = .returned v ∧ Q v h' ∧ Post h w h' w'

theorem C.mono {P : Program} {f : FuncId} {args : Array Value} {h : Heap} {Q Q' : Value → Heap → Prop} (c : C P f args h Q) (hq : ∀ v h', Q v h' → Q' v h') : C P f args h Q' :=
  fun w hs => (c w hs).mono fun _ _ ⟨v, h', e, q, p⟩ => ⟨v, h', e, hq _ _ q, p⟩

/-- h1 is a part of h2. -/
def Part (h1 h2 : Heap) : Prop := ∀ k o, h1 k = some o → h2 k = some o

/-- What a call leaves may be forgotten in part. -/
theorem C.drop {P : Program} {f : FuncId} {args : Array Value} {h : Heap} {Q : Value → Heap → Prop}
    (c : C P f args h fun v h' => ∃ h'', Part h'' h' ∧ Q v h'') : C P f args h Q :=
  fun w hs => (c w hs).mono fun _ _ ⟨v, h', e, ⟨h'', hp, q⟩, p⟩ =>
    ⟨v, h'', e, q, fun k o ho => p.sub k o (hp k o ho), p.size, p.frame,
      fun k hk => p.dom k (by
        cases hh : h'' k with
        | none => exact absurd hh hk
        | some o => rw [hp k o hh]; simp), p.os, p.output, p.tape⟩

/-- h1's part of h has become h1'; the rest of h stays. -/
def glue (h1 h h1' : Heap) : Heap := fun k => if h1 k = none then (match h k with | some o => some o | none => h1' k) else h1' k

/-- A call on a part of the heap: the rest stays. -/
theorem C.frame {P : Program} {f : FuncId} {args : Array Value} {h : Heap} {Q : Value → Heap → Prop} (h1 : Heap) (hp : Part h1 h)
    (c : C P f args h1 fun v h1' => Q v (glue h1 h h1')) : C P f args h Q := by
  intro w hs
  refine (c w fun k o ho => hs k o (hp k o ho)).mono ?_
  rintro e w' ⟨v, h1', rfl, q, p⟩
  refine ⟨v, _, rfl, q, ?_⟩
  have hlt : ∀ k o, h k = some o → k < w.heap.size := by
    intro k o ho
    have := hs k o ho
    rcases Nat.lt_or_ge k w.heap.size with h | h
    · exact h
    · rw [Array.getElem?_eq_none h] at this; cases this
  refine ⟨?_, p.size, ?_, ?_, p.os, p.output, p.tape⟩
  · intro k o ho
    unfold glue at ho
    split at ho
    · rename_i hn
      split at ho
      · rename_i o' ho'
        cases ho
        rw [p.frame k (hlt k _ ho') hn]
        exact hs k _ ho'
      · exact p.sub k o ho
    · exact p.sub k o ho
  · intro k hk hn
    refine p.frame k hk ?_
    cases hh : h1 k with
    | none => rfl
    | some o => rw [hp k o hh] at hn; cases hn
  · intro k hk
    unfold glue at hk
    split at hk
    · rename_i hn
      split at hk
      · rename_i o' ho'; left; rw [ho']; simp
      · rcases p.dom k hk with h | h
        · exact absurd hn h
        · exact .inr h
    · rename_i hn
      left
      cases hh : h1 k with
      | none => exact absurd hh hn
      | some o => rw [hp k o hh]; simp

/-! The symbolic state. -/

inductive XV where
  | v (x : Value)
  | p (k off : Nat)
  | dead

def XV.is (β : Nat → Nat) : XV → Value → Prop
  | .v x, y => y = x
  | .p k off, y => y = .pointer (some ⟨β k, off, none⟩)
  | .dead, _ => True

/-- The frame's kind: a function's own; one that has ranged over a function (with its block of deferred calls); a round of such a loop. -/
inductive Mk where
  | plain
  | marked (D : Nat)
  | round (l : Nat)

def Mk.defers : Mk → List Deferred
  | .marked D => [{ target := .collected D, args := #[] }]
  | _ => []

def Mk.calm : Mk → Bool
  | .round _ => false
  | _ => true

def Mk.roundOf : Mk → Option Nat
  | .round l => some l
  | _ => none

structure St where
  env : List (Nat × XV)
  priv : List (Nat × List Value)
  md : Mk

def getE : List (Nat × XV) → Nat → XV
  | [], _ => .dead
  | (k, x) :: r, t => match Nat.beq k t with | true => x | false => getE r t

def getP : List (Nat × List Value) → Nat → Option (List Value)
  | [], _ => none
  | (k, x) :: r, t => match Nat.beq k t with | true => some x | false => getP r t

def St.get (s : St) (t : Nat) : XV := getE s.env t
def St.pget (s : St) (k : Nat) : Option (List Value) := getP s.priv k
def St.put (s : St) (t : Nat) (x : XV) : St := ⟨(t, x) :: s.env, s.priv, s.md⟩
def St.pput (s : St) (k : Nat) (c : List Value) : St := ⟨s.env, (k, c) :: s.priv, s.md⟩
def St.opd (s : St) : Operand → XV
  | .tmp t => s.get t
  | .const v => .v v
  | .global g => .v (.pointer (some ⟨g, 0, none⟩))
  | .func f => .v (.func (.func f) #[] #[])

theorem beq_eq {a b : Nat} : Nat.beq a b = true ↔ a = b := ⟨Nat.eq_of_beq_eq_true, fun h => by subst h; exact Nat.beq_refl a⟩
theorem beq_ne {a b : Nat} (h : a ≠ b) : Nat.beq a b = false := by
  cases hb : Nat.beq a b with
  | false => rfl
  | true => exact absurd (beq_eq.1 hb) h

theorem get_put (s : St) (t : Nat) (x : XV) (u : Nat) : (s.put t x).get u = if t = u then x else s.get u := by
  show getE ((t, x) :: s.env) u = _
  unfold getE
  by_cases h : t = u
  · subst h; rw [Nat.beq_refl]; simp
  · rw [beq_ne h, if_neg h]; rfl

theorem pget_put (s : St) (t : Nat) (x : XV) (u : Nat) : (s.put t x).pget u = s.pget u := rfl
theorem get_pput (s : St) (k : Nat) (c : List Value) (u : Nat) : (s.pput k c).get u = s.get u := rfl
theorem pget_pput (s : St) (k : Nat) (c : List Value) (u : Nat) : (s.pput k c).pget u = if k = u then some c else s.pget u := by
  show getP ((k, c) :: s.priv) u = _
  unfold getP
  by_cases h : k = u
  · subst h; rw [Nat.beq_refl]; simp
  · rw [beq_ne h, if_neg h]; rfl

structure Rep (n : Nat) (st : St) (h : Heap) (β : Nat → Nat) (a : Act) (w : World) : Prop where
  size : a.tmps.size = n
  env : ∀ t, st.get t = .dead ∨ ∃ y, a.tmps[t]? = some y ∧ (st.get t).is β y
  held : ∀ t k off, st.get t = .p k off → st.pget k ≠ none
  priv : ∀ k cs, st.pget k = some cs → h (β k) = none ∧ ∃ T, w.heap[β k]? = some (.cells cs.toArray T (0, 0))
  inj : ∀ k k', st.pget k ≠ none → st.pget k' ≠ none → β k = β k' → k = k'
  sub : Sub h w
  defers : a.defers = st.md.defers

/-- What has happened between two symbolic states. -/
structure Mid (st : St) (β : Nat → Nat) (h : Heap) (w : World) (st' : St) (β' : Nat → Nat) (h' : Heap) (w' : World) : Prop where
  size : w.heap.size ≤ w'.heap.size
  frame : ∀ k, k < w.heap.size → h k = none → (∀ i, st.pget i ≠ none → β i ≠ k) → w'.heap[k]? = w.heap[k]?
  dom : ∀ k, h' k ≠ none → h k ≠ none ∨ w.heap.size ≤ k
  pdom : ∀ i, st'.pget i ≠ none → (∃ j, st.pget j ≠ none ∧ β' i = β j) ∨ w.heap.size ≤ β' i
  os : w'.os = w.os
  output : w'.output = w.output
  tape : w'.tape = w.tape
  md : st'.md = st.md

theorem Mid.refl (st : St) (β : Nat → Nat) (h : Heap) (w : World) : Mid st β h w st β h w :=
  ⟨Nat.le_refl _, fun _ _ _ _ => rfl, fun _ hk => .inl hk, fun i hi => .inl ⟨i, hi, rfl⟩, rfl, rfl, rfl, rfl⟩

/-- What the whole run leaves. -/
structure PostP (st : St) (β : Nat → Nat) (h : Heap) (w : World) (h' : Heap) (w' : World) : Prop where
  sub : Sub h' w'
  size : w.heap.size ≤ w'.heap.size
  frame : ∀ k, k < w.heap.size → h k = none → (∀ i, st.pget i ≠ none → β i ≠ k) → w'.heap[k]? = w.heap[k]?
  dom : ∀ k, h' k ≠ none → h k ≠ none ∨ w.heap.size ≤ k
  os : w'.os = w.os
  output : w'.output = w.output
  tape : w'.tape = w.tape

theorem Mid.post {st st' : St} {β β' : Nat → Nat} {h h' h'' : Heap} {w w' w'' : World} (m : Mid st β h w st' β' h' w') (p : PostP st' β' h' w' h'' w'') : PostP st β h w h'' w'' := by
  refine ⟨p.sub, Nat.le_trans m.size p.size, ?_, ?_, p.os.trans m.os, p.output.trans m.output, p.tape.trans m.tape⟩
  · intro k hk hn hp
    rw [← m.frame k hk hn hp]
    refine p.frame k (Nat.lt_of_lt_of_le hk m.size) ?_ ?_
    · cases hh : h' k with
      | none => rfl
      | some o =>
        rcases m.dom k (by rw [hh]; simp) with h1 | h1
        · exact absurd hn h1
        · omega
    · intro i hi e
      rcases m.pdom i hi with ⟨j, hj, hb⟩ | hb
      · exact hp j hj (by rw [← hb, e])
      · omega
  · intro k hk
    rcases p.dom k hk with h1 | h1
    · exact m.dom k h1
    · have := m.size; exact .inr (by omega)

def baseF (m : Mk) (f : FuncId) : Frame := { (default : Frame) with fn := f, kind := .normal, roundOf := m.roundOf }

/-- How a frame's run ends: a function's: it leaves with a value; a round's: it goes on (true), or leaves by a return (false). -/
def Ends (P : Program) (m : Mk) (f : FuncId) (fr : Frame) (w : World) (v : Value) : Prop :=
  match m with
  | .round l => ∃ a, (v = .bool true ∧ fr = (baseF (.round l) f).atR a []) ∨ (v = .bool false ∧ ∃ k, fr = (baseF (.round l) f).atR a (.code .ret :: k))
  | _ => fr.fn = f ∧ fr.leaving P w (.returned v)

/-- What is left to do, from every frame and world that the symbolic state stands for, ends in a return. -/
def TW (P : Program) (f : FuncId) (n : Nat) (todo : List Item) (st : St) (h : Heap) (Q : Value → Heap → Prop) : Prop :=
  ∀ β a w, Rep n st h β a w → ∀ cs, ∃ v h' w' fr, Q v h' ∧ PostP st β h w h' w' ∧
    Steps P (lone ((baseF st.md f).atR a todo) cs w) (lone fr cs w') ∧ Ends P st.md f fr w' v

theorem TW.mono {P : Program} {f n : Nat} {todo : List Item} {st : St} {h : Heap} {Q Q' : Value → Heap → Prop} (t : TW P f n todo st h Q) (hq : ∀ v h', Q v h' → Q' v h') : TW P f n todo st h Q' :=
  fun β a w r cs => let ⟨v, h', w', fr, q, rest⟩ := t β a w r cs; ⟨v, h', w', fr, hq _ _ q, rest⟩

theorem TW.of_step {P : Program} {f n : Nat} {todo todo' : List Item} {st : St} {h : Heap} {Q : Value → Heap → Prop}
    (s : ∀ a cs w, step P (lone ((baseF st.md f).atR a todo) cs w) = .next (lone ((baseF st.md f).atR a todo') cs w)) (t : TW P f n todo' st h Q) : TW P f n todo st h Q := by
  intro β a w r cs
  obtain ⟨v, h', w', fr, q, p, hs, hl⟩ := t β a w r cs
  exact ⟨v, h', w', fr, q, p, .head (s a cs w) hs, hl⟩

theorem TW.skip {P : Program} {f n : Nat} {k : List Item} {st : St} {h : Heap} {Q : Value → Heap → Prop} (t : TW P f n k st h Q) : TW P f n (.code .skip :: k) st h Q :=
  .of_step (fun _ _ _ => stepR_skip) t
theorem TW.label {P : Program} {f n l : Nat} {k : List Item} {st : St} {h : Heap} {Q : Value → Heap → Prop} (t : TW P f n k st h Q) : TW P f n (.code (.label l) :: k) st h Q :=
  .of_step (fun _ _ _ => stepR_label) t
theorem TW.inBlock {P : Program} {f n l : Nat} {k : List Item} {st : St} {h : Heap} {Q : Value → Heap → Prop} (t : TW P f n k st h Q) : TW P f n (.inBlock l :: k) st h Q :=
  .of_step (fun _ _ _ => stepR_inBlock) t
theorem TW.scope {P : Program} {f n : Nat} {c : Code} {k : List Item} {st : St} {h : Heap} {Q : Value → Heap → Prop} (t : TW P f n (.code c :: .inScope c :: k) st h Q) : TW P f n (.code (.scope c) :: k) st h Q :=
  .of_step (fun _ _ _ => step_lone_go (by simp [stepG, stepG.exec, Frame.atR])) t
theorem TW.inScope {P : Program} {f n : Nat} {c : Code} {k : List Item} {st : St} {h : Heap} {Q : Value → Heap → Prop} (t : TW P f n k st h Q) : TW P f n (.inScope c :: k) st h Q :=
  .of_step (fun _ _ _ => step_lone_go (by simp [stepG, stepG.exec, Frame.atR])) t
theorem TW.goto {P : Program} {f n l : Nat} {k k' : List Item} {st : St} {h : Heap} {Q : Value → Heap → Prop} (he : gotoIn l k = some k') (t : TW P f n k' st h Q) : TW P f n (.code (.goto l) :: k) st h Q :=
  .of_step (fun _ _ _ => stepR_goto he) t
theorem TW.seq {P : Program} {f n : Nat} {x y : Code} {k : List Item} {st : St} {h : Heap} {Q : Value → Heap → Prop} (t : TW P f n (.code x :: .code y :: k) st h Q) : TW P f n (.code (.seq x y) :: k) st h Q :=
  .of_step (fun _ _ _ => stepR_seq) t
theorem TW.block {P : Program} {f n id : Nat} {c : Code} {k : List Item} {st : St} {h : Heap} {Q : Value → Heap → Prop} (t : TW P f n (.code c :: .inBlock id :: k) st h Q) : TW P f n (.code (.block id c) :: k) st h Q :=
  .of_step (fun _ _ _ => stepR_block) t
theorem TW.loop {P : Program} {f n : Nat} {c : Code} {k : List Item} {st : St} {h : Heap} {Q : Value → Heap → Prop} (t : TW P f n (.code c :: .inLoop c :: k) st h Q) : TW P f n (.code (.loop c) :: k) st h Q :=
  .of_step (fun _ _ _ => stepR_loop) t
theorem TW.inLoop {P : Program} {f n : Nat} {c : Code} {k : List Item} {st : St} {h : Heap} {Q : Value → Heap → Prop} (t : TW P f n (.code c :: .inLoop c :: k) st h Q) : TW P f n (.inLoop c :: k) st h Q :=
  .of_step (fun _ _ _ => stepR_inLoop) t
theorem TW.exit {P : Program} {f n id : Nat} {k k' : List Item} {st : St} {h : Heap} {Q : Value → Heap → Prop} (he : exitTo id k = some k') (t : TW P f n k' st h Q) : TW P f n (.code (.exit id) :: k) st h Q :=
  .of_step (fun _ _ _ => stepR_exit he) t
theorem TW.regionEnd {P : Program} {f n : Nat} {ops : Array Oper} {k : List Item} {st : St} {h : Heap} {Q : Value → Heap → Prop} (t : TW P f n k st h Q) : TW P f n (.inRegion ops [] :: k) st h Q :=
  .of_step (fun _ _ _ => stepR_region_end) t
theorem TW.region {P : Program} {f n id : Nat} {ops : Array Oper} {k : List Item} {st : St} {h : Heap} {Q : Value → Heap → Prop} (t : TW P f n (.inRegion ops (List.range ops.size) :: k) st h Q) : TW P f n (.code (.region id ops false) :: k) st h Q :=
  .of_step (fun _ _ _ => stepR_region) t

/-- The draw of an order changes the count of draws alone. -/
theorem TW.regionDraw {P : Program} {f n id : Nat} {ops : Array Oper} {k : List Item} {st : St} {h : Heap} {Q : Value → Heap → Prop}
    (t : ∀ c, TW P f n (.inRegion ops (Region.schedule (P.follows .mixedOrders) ops c) :: k) st h Q) : TW P f n (.code (.region id ops true) :: k) st h Q := by
  intro β a w r cs
  have r' : Rep n st h β a { w with drawn := w.drawn + 1 } := ⟨r.size, r.env, r.held, r.priv, r.inj, r.sub, r.defers⟩
  obtain ⟨v, h', w', fr, q, p, hs, hl⟩ := t _ β a _ r' cs
  exact ⟨v, h', w', fr, q, ⟨p.sub, p.size, p.frame, p.dom, p.os, p.output, p.tape⟩, .head stepR_region_draw hs, hl⟩

theorem Rep.opd {n : Nat} {st : St} {h : Heap} {β : Nat → Nat} {a : Act} {w : World} (r : Rep n st h β a w) (x : Operand) : st.opd x = .dead ∨ (st.opd x).is β (a.eval x) := by
  cases x with
  | tmp t =>
    rcases r.env t with h | ⟨y, hy, hi⟩
    · exact .inl h
    · right
      show (st.get t).is β (a.tmps.getD t undef)
      have : a.tmps.getD t undef = y := by simp [Array.getD_eq_getD_getElem?, hy]
      rw [this]; exact hi
  | const v => exact .inr rfl
  | global g => exact .inr rfl
  | func f => exact .inr rfl

theorem TW.cond {P : Program} {f n : Nat} {c : Operand} {x y : Code} {t : Bool} {k : List Item} {st : St} {h : Heap} {Q : Value → Heap → Prop}
    (hc : st.opd c = .v (.bool t)) (hx : TW P f n (.code (if t then x else y) :: k) st h Q) : TW P f n (.code (.cond c x y) :: k) st h Q := by
  intro β a w r cs
  obtain ⟨v, h', w', fr, q, p, hs, hl⟩ := hx β a w r cs
  have he : a.eval c = .bool t := by
    rcases r.opd c with hd | hi
    · rw [hc] at hd; cases hd
    · rw [hc] at hi; exact hi
  exact ⟨v, h', w', fr, q, p, .head (stepR_cond he) hs, hl⟩

/-- Forgetting: what holds of a weaker state holds of a stronger one. -/
theorem TW.weaken {P : Program} {f n : Nat} {todo : List Item} {st st' : St} {h : Heap} {Q : Value → Heap → Prop}
    (hmk : st'.md = st.md) (he : ∀ t, st'.get t = .dead ∨ st'.get t = st.get t) (hp : ∀ k, st'.pget k = none ∨ st'.pget k = st.pget k) (hh : ∀ t k off, st'.get t = .p k off → st.pget k ≠ none → st'.pget k ≠ none)
    (t : TW P f n todo st' h Q) : TW P f n todo st h Q := by
  intro β a w r cs
  have hsub : ∀ i, st'.pget i ≠ none → st.pget i ≠ none := by
    intro i hi
    rcases hp i with h1 | h1
    · exact absurd h1 hi
    · rw [← h1]; exact hi
  have r' : Rep n st' h β a w := by
    refine ⟨r.size, ?_, ?_, ?_, ?_, r.sub, by rw [hmk]; exact r.defers⟩
    · intro u
      rcases he u with h1 | h1
      · exact .inl h1
      · rw [h1]; exact r.env u
    · intro u k off hu
      rcases he u with h1 | h1
      · rw [h1] at hu; cases hu
      · exact hh u k off hu (r.held u k off (by rw [← h1]; exact hu))
    · intro k cs hk
      rcases hp k with h1 | h1
      · rw [h1] at hk; cases hk
      · exact r.priv k cs (by rw [← h1]; exact hk)
    · intro i j hi hj; exact r.inj i j (hsub i hi) (hsub j hj)
  obtain ⟨v, h', w', fr, q, p, hs, hl⟩ := t β a w r' cs
  rw [hmk] at hs hl
  exact ⟨v, h', w', fr, q, ⟨p.sub, p.size, fun k hk hn hpk => p.frame k hk hn fun i hi => hpk i (hsub i hi), p.dom, p.os, p.output, p.tape⟩, hs, hl⟩

/-- The function's body, from its arguments. -/
def argEnv : Nat → List Value → List (Nat × XV)
  | _, [] => []
  | i, v :: r => (i, .v v) :: argEnv (i + 1) r

theorem getE_argEnv (l : List Value) : ∀ i t, getE (argEnv i l) t = if i ≤ t then (match l[t - i]? with | some v => .v v | none => .dead) else .dead := by
  induction l with
  | nil => intro i t; simp [argEnv, getE]
  | cons v r ih =>
    intro i t
    simp only [argEnv, getE]
    by_cases h : i = t
    · subst h; rw [Nat.beq_refl]; simp
    · rw [beq_ne h]; dsimp only; rw [ih]
      by_cases h1 : i + 1 ≤ t
      · have h2 : i ≤ t := by omega
        have h3 : t - i = (t - (i + 1)) + 1 := by omega
        rw [if_pos h1, if_pos h2, h3, List.getElem?_cons_succ]
      · have h2 : ¬ i ≤ t := by omega
        rw [if_neg h1, if_neg h2]

theorem C_of_TW {P : Program} {f : FuncId} {fn : Func} {c : Code} {l : List Value} {h : Heap} {Q : Value → Heap → Prop}
    (hf : P.funcs[f]? = some fn) (hb : fn.body = some c) (hn : l.length ≤ fn.ntmps)
    (t : TW P f fn.ntmps [.code c] ⟨argEnv 0 l, [], .plain⟩ h Q) : C P f l.toArray h Q := by
  intro w hs cs
  have henter : Frame.enter P f l.toArray .normal = (baseF .plain f).atR { tmps := l.toArray ++ Array.replicate (fn.ntmps - l.toArray.size) undef, defers := [] } [.code c] := by
    simp [Frame.enter, Frame.atR, hf, hb, baseF, Mk.roundOf]
  have r0 : Rep fn.ntmps ⟨argEnv 0 l, [], .plain⟩ h (fun _ => 0) { tmps := l.toArray ++ Array.replicate (fn.ntmps - l.toArray.size) undef, defers := [] } w := by
    constructor
    · simp; omega
    · intro u
      show getE (argEnv 0 l) u = .dead ∨ _
      rw [getE_argEnv]
      simp only [Nat.zero_le, if_true, Nat.sub_zero]
      cases hu : l[u]? with
      | none => exact .inl rfl
      | some v =>
        right
        refine ⟨v, ?_, ?_⟩
        · have hlt : u < l.length := by
            rcases Nat.lt_or_ge u l.length with h | h
            · exact h
            · rw [List.getElem?_eq_none h] at hu; cases hu
          rw [Array.getElem?_append_left (by simpa using hlt)]
          simpa using hu
        · show XV.is _ (getE (argEnv 0 l) u) v
          rw [getE_argEnv]; simp [hu, XV.is]
    · intro u k off hu
      have h1 : getE (argEnv 0 l) u = .p k off := hu
      rw [getE_argEnv] at h1
      simp only [Nat.zero_le, if_true, Nat.sub_zero] at h1
      cases hu : l[u]? with
      | none => rw [hu] at h1; cases h1
      | some v => rw [hu] at h1; cases h1
    · intro k cs hk; cases hk
    · intro k k' hk; exact absurd rfl hk
    · exact hs
    · rfl
  obtain ⟨v, h', w', fr, q, p, hst, hl⟩ := t _ _ w r0 cs
  have hl : fr.fn = f ∧ fr.leaving P w' (.returned v) := hl
  refine ⟨.returned v, w', fr, ⟨v, h', rfl, q, p.sub, p.size, ?_, p.dom, p.os, p.output, p.tape⟩, ?_, hl.1, hl.2⟩
  · intro k hk hn
    exact p.frame k hk hn fun i hi => absurd rfl hi
  · rw [henter]; exact hst

/-- A round of a loop over a function, from its temporaries on: what it answers, and what it leaves. -/
def RC (P : Program) (l : Nat) (f : FuncId) (tmps : Array Value) (assign body : Code) (h : Heap) (Q : Value → Heap → Prop) : Prop :=
  ∀ w, Sub h w → ∀ c cs, ∃ v h' w', Q v h' ∧ Post h w h' w' ∧ Steps P (lone (Frame.round l f tmps assign body .normal) (c :: cs) w) (lone (c.finish v) cs w')

theorem RC.mono {P : Program} {l : Nat} {f : FuncId} {tmps : Array Value} {assign body : Code} {h : Heap} {Q Q' : Value → Heap → Prop} (c : RC P l f tmps assign body h Q) (hq : ∀ v h', Q v h' → Q' v h') : RC P l f tmps assign body h Q' :=
  fun w hs c' cs => let ⟨v, h', w', q, rest⟩ := c w hs c' cs; ⟨v, h', w', hq _ _ q, rest⟩

/-- What a call of yield comes to, over a heap that holds the loop's record. -/
def Y (P : Program) (l : Nat) (args : List Value) (h : Heap) (Q : Value → Heap → Prop) : Prop :=
  ∃ r : Loop, h l = some (.loop r) ∧ args.length = r.params.size ∧ RC P l r.fn ((r.params.zip args.toArray).foldl (fun tmps (t, a) => tmps.setIfInBounds t a) r.tmps) r.assign r.body h Q

theorem Y.mono {P : Program} {l : Nat} {args : List Value} {h : Heap} {Q Q' : Value → Heap → Prop} (c : Y P l args h Q) (hq : ∀ v h', Q v h' → Q' v h') : Y P l args h Q' :=
  let ⟨r, h1, h2, h3⟩ := c; ⟨r, h1, h2, h3.mono hq⟩

end Go.Gb
namespace Go.Gb

theorem lt_of_heap {w : World} {b : Nat} {o : Obj} (h : w.heap[b]? = some o) : b < w.heap.size := by
  rcases Nat.lt_or_ge b w.heap.size with h1 | h1
  · exact h1
  · rw [Array.getElem?_eq_none h1] at h; cases h

/-- The functions' own blocks, but for one, are as they were. -/
def KeepP (st : St) (β : Nat → Nat) (w : World) (st' : St) (β' : Nat → Nat) (w' : World) (ex : Option Nat) : Prop :=
  ∀ k, st.pget k ≠ none → ex ≠ some k → st'.pget k = st.pget k ∧ β' k = β k ∧ w'.heap[β k]? = w.heap[β k]?

theorem KeepP.refl (st : St) (β : Nat → Nat) (w : World) (ex : Option Nat) : KeepP st β w st β w ex := fun _ _ _ => ⟨rfl, rfl, rfl⟩

def stTo : XV → Option Nat
  | .p k _ => some k
  | _ => none

def storeTo (st : St) (o : Oper) : Option Nat :=
  match o.op with
  | .store _ x _ => stTo (st.opd x)
  | _ => none

def newTo (o : Oper) : Option Nat :=
  match o.op with
  | .alloc _ => o.dst
  | .box _ _ => o.dst
  | _ => none

/-- No block of the function's own is new, but for one. -/
def NewP (st st' : St) (ex : Option Nat) : Prop := ∀ k, st'.pget k ≠ none → st.pget k ≠ none ∨ ex = some k

/-- A call of yield. -/
def isYield (st : St) (o : Oper) : Bool :=
  match o.op with
  | .call c => match c.callee with
    | .value f => match st.opd f with
      | .v (.func (.yield _) _ _) => true
      | _ => false
    | _ => false
  | _ => false

/-- What an operation comes to. -/
inductive OpOut (P : Program) (n : Nat) (o : Oper) (st : St) (h : Heap) (K : XV → St → Heap → Prop) (β : Nat → Nat) (a : Act) (w : World) : Prop
  | val (nx : Next) (v : Value) (x : XV) (st' : St) (h' : Heap) (β' : Nat → Nat) (w' : World)
      (run : (execOp a.eval o).run P w = .ok nx w') (hnx : nx = .value v ∨ (nx = .skip ∧ v = undef)) (hx : x.is β' v)
      (rep : Rep n st' h' β' a w') (mid : Mid st β h w st' β' h' w') (hp : ∀ k off, x = .p k off → st'.pget k ≠ none) (kp : KeepP st β w st' β' w' (storeTo st o)) (nw : NewP st st' (newTo o)) (hk : K x st' h')
  | call (g : FuncId) (args : Array Value) (run : (execOp a.eval o).run P w = .ok (.enter g args) w)
      (hc : C P g args h fun r h' => K (.v r) st h')
  | round (l : Nat) (f : FuncId) (tmps : Array Value) (assign body : Code) (hy : isYield st o = true) (run : (execOp a.eval o).run P w = .ok (.round l f tmps assign body) w)
      (hc : RC P l f tmps assign body h fun r h' => K (.v r) st h')

/-- The value goes into its slot. -/
def xsPut (n : Nat) (dst : Option Tmp) (K : St → Heap → Prop) (x : XV) (st : St) (h : Heap) : Prop :=
  match dst with
  | none => K st h
  | some d => match Nat.blt d n with
    | true => K (st.put d x) h
    | false => False

theorem blt_lt {a b : Nat} (h : Nat.blt a b = true) : a < b := by
  unfold Nat.blt at h
  exact Nat.le_of_ble_eq_true h

theorem Rep.put {n : Nat} {st : St} {h : Heap} {β : Nat → Nat} {a : Act} {w : World} (r : Rep n st h β a w) {d : Nat} (hd : d < n) {x : XV} {v : Value}
    (hx : x.is β v) (hp : ∀ k off, x = .p k off → st.pget k ≠ none) : Rep n (st.put d x) h β (a.put (some d) v) w := by
  have hs := r.size
  constructor
  · simp [Act.put]; exact hs
  · intro t
    rw [get_put]
    by_cases e : d = t
    · subst e
      right
      refine ⟨v, ?_, ?_⟩
      · show (a.tmps.setIfInBounds d v)[d]? = some v
        rw [Array.getElem?_setIfInBounds_self_of_lt (by omega)]
      · rw [if_pos rfl]; exact hx
    · rw [if_neg e]
      rcases r.env t with h1 | ⟨y, hy, hi⟩
      · exact .inl h1
      · right
        refine ⟨y, ?_, hi⟩
        show (a.tmps.setIfInBounds d v)[t]? = some y
        rw [Array.getElem?_setIfInBounds_ne e]; exact hy
  · intro t k off
    rw [get_put, pget_put]
    by_cases e : d = t
    · rw [if_pos e]; exact hp k off
    · rw [if_neg e]; exact r.held t k off
  · exact r.priv
  · exact r.inj
  · exact r.sub
  · exact r.defers

theorem Rep.world {n : Nat} {st : St} {h h' : Heap} {β : Nat → Nat} {a : Act} {w w' : World} (r : Rep n st h β a w) (p : Post h w h' w') : Rep n st h' β a w' := by
  refine ⟨r.size, r.env, r.held, ?_, r.inj, p.sub, r.defers⟩
  intro k cs hk
  obtain ⟨hn, T, hT⟩ := r.priv k cs hk
  have hl := lt_of_heap hT
  refine ⟨?_, T, ?_⟩
  · cases hh : h' (β k) with
    | none => rfl
    | some o =>
      rcases p.dom (β k) (by rw [hh]; simp) with h1 | h1
      · exact absurd hn h1
      · omega
  · rw [p.frame (β k) hl hn]; exact hT

theorem Mid.of_post {st : St} {h h' : Heap} {β : Nat → Nat} {w w' : World} (p : Post h w h' w') : Mid st β h w st β h' w' :=
  ⟨p.size, fun k hk hn _ => p.frame k hk hn, p.dom, fun i hi => .inl ⟨i, hi, rfl⟩, p.os, p.output, p.tape, rfl⟩

theorem TW.mid {P : Program} {f n : Nat} {todo todo' : List Item} {st st' : St} {h h' : Heap} {Q : Value → Heap → Prop} {β β' : Nat → Nat} {a a' : Act} {w w' : World} {cs : List Frame}
    (m : Mid st β h w st' β' h' w') (hs : Steps P (lone ((baseF st.md f).atR a todo) cs w) (lone ((baseF st.md f).atR a' todo') cs w')) (r : Rep n st' h' β' a' w') (t : TW P f n todo' st' h' Q) :
    ∃ v h' w' fr, Q v h' ∧ PostP st β h w h' w' ∧ Steps P (lone ((baseF st.md f).atR a todo) cs w) (lone fr cs w') ∧ Ends P st.md f fr w' v := by
  obtain ⟨v, h'', w'', fr, q, p, hst, hl⟩ := t β' a' w' r cs
  rw [m.md] at hst hl
  exact ⟨v, h'', w'', fr, q, m.post p, hs.trans hst, hl⟩

/-- A deferred call is told as such. -/
theorem defer_run {P : Program} {ρ : Operand → Value} {o : Oper} {c : Call} {w w' : World} {nx : Next} (ho : o.op = .defer c) (run : (execOp ρ o).run P w = .ok nx w') : ∃ d, nx = .defer d := by
  unfold execOp at run
  rw [ho] at run
  dsimp only at run
  rw [Sem.run_bind] at run
  cases hr : (resolve ρ c o.type).run P w with
  | ok d w2 => rw [hr, Result.andThen_ok] at run; simp at run; exact ⟨d, run.1.symm⟩
  | halt x w2 => rw [hr] at run; cases run

theorem semAt_run {P : Program} {ro : Option Nat} {ρ : Operand → Value} {o : Oper} {w w' : World} {nx : Next} (run : (execOp ρ o).run P w = .ok nx w') (hd : ∀ d, nx ≠ .defer d) : o.semAt ro ρ = execOp ρ o :=
  Oper.semAt_eq ro ρ o fun c hc => by obtain ⟨d, e⟩ := defer_run hc run; exact hd d e

theorem TW.op {P : Program} {f n : Nat} {ops : Array Oper} {i : Nat} {rest : List Nat} {k : List Item} {o : Oper} {st : St} {h : Heap} {Q : Value → Heap → Prop} {K : XV → St → Heap → Prop}
    (ho : ops[i]? = some o) (hw : ∀ β a w, Rep n st h β a w → Region.wanted o (yielded ops a.tmps) = true)
    (hout : ∀ β a w, Rep n st h β a w → OpOut P n o st h K β a w)
    (hk : ∀ x st' h', K x st' h' → xsPut n o.dst (fun st'' h'' => TW P f n (.inRegion ops rest :: k) st'' h'' Q) x st' h') :
    TW P f n (.inRegion ops (i :: rest) :: k) st h Q := by
  intro β a w r cs
  have hg := stepGR_op (P := P) (b := baseF st.md f) (k := k) (cs := cs) (w := w) (rest := rest) ho (hw β a w r)
  have hfin : ∀ v, ((baseF st.md f).atR a (.inRegion ops (i :: rest) :: k)).finish v = (baseF st.md f).atR (a.put o.dst v) (.inRegion ops rest :: k) := by
    intro v; rw [Frame.finish_atR, ho]; rfl
  have key : ∀ (x : XV) (v : Value) (st' : St) (h' : Heap) (β' : Nat → Nat) (w' : World), x.is β' v → Rep n st' h' β' a w' → Mid st β h w st' β' h' w' →
      (∀ k off, x = .p k off → st'.pget k ≠ none) → K x st' h' →
      Steps P (lone ((baseF st.md f).atR a (.inRegion ops (i :: rest) :: k)) cs w) (lone ((baseF st.md f).atR (a.put o.dst v) (.inRegion ops rest :: k)) cs w') →
      ∃ v h' w' fr, Q v h' ∧ PostP st β h w h' w' ∧ Steps P (lone ((baseF st.md f).atR a (.inRegion ops (i :: rest) :: k)) cs w) (lone fr cs w') ∧ Ends P st.md f fr w' v := by
    intro x v st' h' β' w' hx rep mid hp hkx hst
    have hkk := hk x st' h' hkx
    unfold xsPut at hkk
    cases hd : o.dst with
    | none =>
      rw [hd] at hkk hst
      exact TW.mid (a' := a.put none v) (β' := β') mid hst rep hkk
    | some d =>
      rw [hd] at hkk hst
      dsimp only at hkk
      cases hb : Nat.blt d n with
      | false => rw [hb] at hkk; exact hkk.elim
      | true =>
        rw [hb] at hkk
        refine TW.mid (β' := β') (st' := st'.put d x) ?_ hst (rep.put (blt_lt hb) hx hp) hkk
        exact ⟨mid.size, mid.frame, mid.dom, mid.pdom, mid.os, mid.output, mid.tape, mid.md⟩
  cases hout β a w r with
  | val nx v x st' h' β' w' run hnx hx rep mid hp _ _ hkx =>
    refine key x v st' h' β' w' hx rep mid hp hkx (.one (step_lone_go ?_))
    have hsem := semAt_run (ro := (baseF st.md f).roundOf) run (fun d e => by rcases hnx with h1 | ⟨h1, _⟩ <;> rw [h1] at e <;> cases e)
    rcases hnx with rfl | ⟨rfl, rfl⟩
    · rw [hg, ← hfin, hsem]; simp [stepG.apply, run]
    · rw [hg, ← hfin, hsem]; simp [stepG.apply, run]
  | call g args run hc =>
    obtain ⟨e, w'', fr, ⟨v, h', rfl, hkx, p⟩, hcomes, _, hleave⟩ := hc w r.sub ((baseF st.md f).atR a (.inRegion ops (i :: rest) :: k) :: cs)
    have henter : step P (lone ((baseF st.md f).atR a (.inRegion ops (i :: rest) :: k)) cs w) =
        .next (lone (Frame.enter P g args .normal) ((baseF st.md f).atR a (.inRegion ops (i :: rest) :: k) :: cs) w) :=
      step_lone_go (by rw [hg, semAt_run (ro := (baseF st.md f).roundOf) run (fun d e => by cases e)]; simp [stepG.apply, run, Frame.atR])
    refine key (.v v) v st h' β w'' rfl (r.world p) (Mid.of_post p) (fun _ _ e => by cases e) hkx ?_
    refine .head henter (Steps.trans hcomes (.one ?_))
    rw [← hfin]; exact step_leave_returned hleave
  | round l g tmps assign body _ run hc =>
    obtain ⟨v, h', w'', hkx, p, hst⟩ := hc w r.sub ((baseF st.md f).atR a (.inRegion ops (i :: rest) :: k)) cs
    have henter : step P (lone ((baseF st.md f).atR a (.inRegion ops (i :: rest) :: k)) cs w) =
        .next (lone (Frame.round l g tmps assign body .normal) ((baseF st.md f).atR a (.inRegion ops (i :: rest) :: k) :: cs) w) :=
      step_lone_go (by rw [hg, semAt_run (ro := (baseF st.md f).roundOf) run (fun d e => by cases e)]; simp [stepG.apply, run, Frame.atR])
    refine key (.v v) v st h' β w'' rfl (r.world p) (Mid.of_post p) (fun _ _ e => by cases e) hkx ?_
    rw [← hfin]
    exact .head henter hst

/-- An operation that its guard leaves out. -/
theorem TW.opSkip {P : Program} {f n : Nat} {ops : Array Oper} {i : Nat} {rest : List Nat} {k : List Item} {o : Oper} {st : St} {h : Heap} {Q : Value → Heap → Prop}
    (ho : ops[i]? = some o) (hw : ∀ β a w, Rep n st h β a w → Region.wanted o (yielded ops a.tmps) = false)
    (hk : xsPut n o.dst (fun st'' h'' => TW P f n (.inRegion ops rest :: k) st'' h'' Q) (.v undef) st h) :
    TW P f n (.inRegion ops (i :: rest) :: k) st h Q := by
  intro β a w r cs
  have hs := stepR_op_skip (P := P) (b := baseF st.md f) (a := a) (k := k) (cs := cs) (w := w) (ops := ops) (i := i) (rest := rest) (by simp [ho]; simpa using hw β a w r)
  simp only [ho, Option.bind_some] at hs
  unfold xsPut at hk
  cases hd : o.dst with
  | none =>
    rw [hd] at hk hs
    exact TW.mid (a' := a.put none undef) (β' := β) (Mid.refl st β h w) (.one hs) r hk
  | some d =>
    rw [hd] at hk hs
    dsimp only at hk
    cases hb : Nat.blt d n with
    | false => rw [hb] at hk; exact hk.elim
    | true =>
      rw [hb] at hk
      refine TW.mid (β' := β) (st' := st.put d (.v undef)) ?_ (.one hs) (r.put (blt_lt hb) rfl (fun _ _ e => by cases e)) hk
      exact ⟨Nat.le_refl _, fun _ _ _ _ => rfl, fun _ hk => .inl hk, fun i hi => .inl ⟨i, hi, rfl⟩, rfl, rfl, rfl, rfl⟩

end Go.Gb
