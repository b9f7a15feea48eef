/- Own text for the seat: GbOp. -/
import Derived.Test.YtbphidfhcijbhaaGbCore
set_option linter.unusedVariables false
set_option linter.unusedSimpArgs false
set_option linter.unnecessarySimpa false
set_option linter.deprecated false
namespace Go.Gb

theorem lt_of_heap {w : World} {b : Nat} {o : Obj} (h : w.heap[b]? = some o) : b < w.heap.size := by
  rcases Nat.lt_or_ge b w.heap.size with h1 | h1
  · exact h1
  · rw [Array.getElem?_eq_none h1] at h; cases h

/-- The functions' own blocks, but for one, are as they were. -/
def KeepP (st : St) (β : Nat → Nat) (w : World) (st' : St) (β' : Nat → Nat) (w' : World) (ex : Option Nat) : Prop :=
  ∀ k, st.pget k ≠ none → ex ≠ some k → st'.pget k = st.pget k ∧ β' k = β k ∧ w'.heap[β k]? = w.heap[β k]?

theorem KeepP.refl (st : St) (β : Nat → Nat) (w : World) (ex : Option Nat) : KeepP st β w st β w ex := fun _ _ _ => ⟨rfl, rfl, rfl⟩

def stTo : XV → Option Nat
  | .p k _ => some k
  | _ => none

def storeTo (st : St) (o : Oper) : Option Nat :=
  match o.op with
  | .store _ x _ => stTo (st.opd x)
  | _ => none

def newTo (o : Oper) : Option Nat :=
  match o.op with
  | .alloc _ => o.dst
  | .box _ _ => o.dst
  | _ => none

/-- No block of the function's own is new, but for one. -/
def NewP (st st' : St) (ex : Option Nat) : Prop := ∀ k, st'.pget k ≠ none → st.pget k ≠ none ∨ ex = some k

/-- What an operation comes to. -/
inductive OpOut (P : Program) (n : Nat) (o : Oper) (st : St) (h : Heap) (K : XV → St → Heap → Prop) (β : Nat → Nat) (a : Act) (w : World) : Prop
  | val (nx : Next) (v : Value) (x : XV) (st' : St) (h' : Heap) (β' : Nat → Nat) (w' : World)
      (run : (execOp a.eval o).run P w = .ok nx w') (hnx : nx = .value v ∨ (nx = .skip ∧ v = undef)) (hx : x.is β' v)
      (rep : Rep n st' h' β' a w') (mid : Mid st β h w st' β' h' w') (hp : ∀ k off, x = .p k off → st'.pget k ≠ none) (kp : KeepP st β w st' β' w' (storeTo st o)) (nw : NewP st st' (newTo o)) (hk : K x st' h')
  | call (g : FuncId) (args : Array Value) (run : (execOp a.eval o).run P w = .ok (.enter g args) w)
      (hc : C P g args h fun r h' => K (.v r) st h')

/-- The value goes into its slot. -/
def xsPut (n : Nat) (dst : Option Tmp) (K : St → Heap → Prop) (x : XV) (st : St) (h : Heap) : Prop :=
  match dst with
  | none => K st h
  | some d => match Nat.blt d n with
    | true => K (st.put d x) h
    | false => False

theorem blt_lt {a b : Nat} (h : Nat.blt a b = true) : a < b := by
  unfold Nat.blt at h
  exact Nat.le_of_ble_eq_true h

theorem Rep.put {n : Nat} {st : St} {h : Heap} {β : Nat → Nat} {a : Act} {w : World} (r : Rep n st h β a w) {d : Nat} (hd : d < n) {x : XV} {v : Value}
    (hx : x.is β v) (hp : ∀ k off, x = .p k off → st.pget k ≠ none) : Rep n (st.put d x) h β (a.put (some d) v) w := by
  have hs := r.size
  constructor
  · simp [Act.put]; exact hs
  · intro t
    rw [get_put]
    by_cases e : d = t
    · subst e
      right
      refine ⟨v, ?_, ?_⟩
      · show (a.tmps.setIfInBounds d v)[d]? = some v
        rw [Array.getElem?_setIfInBounds_self_of_lt (by omega)]
      · rw [if_pos rfl]; exact hx
    · rw [if_neg e]
      rcases r.env t with h1 | ⟨y, hy, hi⟩
      · exact .inl h1
      · right
        refine ⟨y, ?_, hi⟩
        show (a.tmps.setIfInBounds d v)[t]? = some y
        rw [Array.getElem?_setIfInBounds_ne e]; exact hy
  · intro t k off
    rw [get_put, pget_put]
    by_cases e : d = t
    · rw [if_pos e]; exact hp k off
    · rw [if_neg e]; exact r.held t k off
  · exact r.priv
  · exact r.inj
  · exact r.sub
  · exact r.defers

theorem Rep.world {n : Nat} {st : St} {h h' : Heap} {β : Nat → Nat} {a : Act} {w w' : World} (r : Rep n st h β a w) (p : Post h w h' w') : Rep n st h' β a w' := by
  refine ⟨r.size, r.env, r.held, ?_, r.inj, p.sub, r.defers⟩
  intro k cs hk
  obtain ⟨hn, T, hT⟩ := r.priv k cs hk
  have hl := lt_of_heap hT
  refine ⟨?_, T, ?_⟩
  · cases hh : h' (β k) with
    | none => rfl
    | some o =>
      rcases p.dom (β k) (by rw [hh]; simp) with h1 | h1
      · exact absurd hn h1
      · omega
  · rw [p.frame (β k) hl hn]; exact hT

theorem Mid.of_post {st : St} {h h' : Heap} {β : Nat → Nat} {w w' : World} (p : Post h w h' w') : Mid st β h w st β h' w' :=
  ⟨p.size, fun k hk hn _ => p.frame k hk hn, p.dom, fun i hi => .inl ⟨i, hi, rfl⟩, p.os, p.output, p.tape⟩

theorem TW.mid {P : Program} {f n : Nat} {todo todo' : List Item} {st st' : St} {h h' : Heap} {Q : Value → Heap → Prop} {β β' : Nat → Nat} {a a' : Act} {w w' : World} {cs : List Frame}
    (m : Mid st β h w st' β' h' w') (hs : Steps P (lone ((baseF f).at a todo) cs w) (lone ((baseF f).at a' todo') cs w')) (r : Rep n st' h' β' a' w') (t : TW P f n todo' st' h' Q) :
    ∃ v h' w' fr, Q v h' ∧ PostP st β h w h' w' ∧ Steps P (lone ((baseF f).at a todo) cs w) (lone fr cs w') ∧ fr.fn = f ∧ fr.leaving P w' (.returned v) := by
  obtain ⟨v, h'', w'', fr, q, p, hst, hl⟩ := t β' a' w' r cs
  exact ⟨v, h'', w'', fr, q, m.post p, hs.trans hst, hl⟩

theorem TW.op {P : Program} {f n : Nat} {ops : Array Oper} {i : Nat} {rest : List Nat} {k : List Item} {o : Oper} {st : St} {h : Heap} {Q : Value → Heap → Prop} {K : XV → St → Heap → Prop}
    (ho : ops[i]? = some o) (hw : ∀ β a w, Rep n st h β a w → Region.wanted o (yielded ops a.tmps) = true)
    (hout : ∀ β a w, Rep n st h β a w → OpOut P n o st h K β a w)
    (hk : ∀ x st' h', K x st' h' → xsPut n o.dst (fun st'' h'' => TW P f n (.inRegion ops rest :: k) st'' h'' Q) x st' h') :
    TW P f n (.inRegion ops (i :: rest) :: k) st h Q := by
  intro β a w r cs
  have hg := stepG_op (P := P) (b := baseF f) (k := k) (cs := cs) (w := w) (rest := rest) ho (hw β a w r)
  have hfin : ∀ v, ((baseF f).at a (.inRegion ops (i :: rest) :: k)).finish v = (baseF f).at (a.put o.dst v) (.inRegion ops rest :: k) := by
    intro v; rw [Frame.finish_at, ho]; rfl
  have key : ∀ (x : XV) (v : Value) (st' : St) (h' : Heap) (β' : Nat → Nat) (w' : World), x.is β' v → Rep n st' h' β' a w' → Mid st β h w st' β' h' w' →
      (∀ k off, x = .p k off → st'.pget k ≠ none) → K x st' h' →
      Steps P (lone ((baseF f).at a (.inRegion ops (i :: rest) :: k)) cs w) (lone ((baseF f).at (a.put o.dst v) (.inRegion ops rest :: k)) cs w') →
      ∃ v h' w' fr, Q v h' ∧ PostP st β h w h' w' ∧ Steps P (lone ((baseF f).at a (.inRegion ops (i :: rest) :: k)) cs w) (lone fr cs w') ∧ fr.fn = f ∧ fr.leaving P w' (.returned v) := by
    intro x v st' h' β' w' hx rep mid hp hkx hst
    have hkk := hk x st' h' hkx
    unfold xsPut at hkk
    cases hd : o.dst with
    | none =>
      rw [hd] at hkk hst
      exact TW.mid (a' := a.put none v) (β' := β') mid hst rep hkk
    | some d =>
      rw [hd] at hkk hst
      dsimp only at hkk
      cases hb : Nat.blt d n with
      | false => rw [hb] at hkk; exact hkk.elim
      | true =>
        rw [hb] at hkk
        refine TW.mid (β' := β') (st' := st'.put d x) ?_ hst (rep.put (blt_lt hb) hx hp) hkk
        exact ⟨mid.size, mid.frame, mid.dom, mid.pdom, mid.os, mid.output, mid.tape⟩
  cases hout β a w r with
  | val nx v x st' h' β' w' run hnx hx rep mid hp _ _ hkx =>
    refine key x v st' h' β' w' hx rep mid hp hkx (.one (step_lone_go ?_))
    rcases hnx with rfl | ⟨rfl, rfl⟩
    · rw [hg, ← hfin]; simp [stepG.apply, run]
    · rw [hg, ← hfin]; simp [stepG.apply, run]
  | call g args run hc =>
    obtain ⟨e, w'', fr, ⟨v, h', rfl, hkx, p⟩, hcomes, _, hleave⟩ := hc w r.sub ((baseF f).at a (.inRegion ops (i :: rest) :: k) :: cs)
    have henter : step P (lone ((baseF f).at a (.inRegion ops (i :: rest) :: k)) cs w) =
        .next (lone (Frame.enter P g args .normal) ((baseF f).at a (.inRegion ops (i :: rest) :: k) :: cs) w) :=
      step_lone_go (by rw [hg]; simp [stepG.apply, run, Frame.at])
    refine key (.v v) v st h' β w'' rfl (r.world p) (Mid.of_post p) (fun _ _ e => by cases e) hkx ?_
    refine .head henter (Steps.trans hcomes (.one ?_))
    rw [← hfin]; exact step_leave_returned hleave

/-- An operation that its guard leaves out. -/
theorem TW.opSkip {P : Program} {f n : Nat} {ops : Array Oper} {i : Nat} {rest : List Nat} {k : List Item} {o : Oper} {st : St} {h : Heap} {Q : Value → Heap → Prop}
    (ho : ops[i]? = some o) (hw : ∀ β a w, Rep n st h β a w → Region.wanted o (yielded ops a.tmps) = false)
    (hk : xsPut n o.dst (fun st'' h'' => TW P f n (.inRegion ops rest :: k) st'' h'' Q) (.v undef) st h) :
    TW P f n (.inRegion ops (i :: rest) :: k) st h Q := by
  intro β a w r cs
  have hs := step_op_skip (P := P) (b := baseF f) (a := a) (k := k) (cs := cs) (w := w) (ops := ops) (i := i) (rest := rest) (by simp [ho]; simpa using hw β a w r)
  simp only [ho, Option.bind_some] at hs
  unfold xsPut at hk
  cases hd : o.dst with
  | none =>
    rw [hd] at hk hs
    exact TW.mid (a' := a.put none undef) (β' := β) (Mid.refl st β h w) (.one hs) r hk
  | some d =>
    rw [hd] at hk hs
    dsimp only at hk
    cases hb : Nat.blt d n with
    | false => rw [hb] at hk; exact hk.elim
    | true =>
      rw [hb] at hk
      refine TW.mid (β' := β) (st' := st.put d (.v undef)) ?_ (.one hs) (r.put (blt_lt hb) rfl (fun _ _ e => by cases e)) hk
      exact ⟨Nat.le_refl _, fun _ _ _ _ => rfl, fun _ hk => .inl hk, fun i hi => .inl ⟨i, hi, rfl⟩, rfl, rfl, rfl⟩

end Go.Gb
