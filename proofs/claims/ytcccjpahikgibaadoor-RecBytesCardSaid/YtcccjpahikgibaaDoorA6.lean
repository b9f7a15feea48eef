/- Own texts for the seat: GbStep. -/
import Derived.Test.YtcccjpahikgibaaDoorA5
import Derived.RangeFuncRecord
set_option linter.unusedVariables false
set_option linter.unusedSimpArgs false
set_option linter.unnecessarySimpa false
set_option linter.deprecated false
namespace Go.Gb

/-! The step: every operation. -/

def goOk (P : Program) (g : FuncId) : Bool :=
  match P.funcs[g]? with
  | some fn => match fn.body with
    | some _ => !(fn.name == "runtime.NumGoroutine")
    | none => false
  | none => false

theorem goOk_ok {P : Program} {g : FuncId} (h : goOk P g = true) {args : Array Value} {w : World} : (callFunc g args).run P w = .ok (.enter g args) w := by
  unfold goOk at h
  split at h
  · rename_i fn hfn
    split at h
    · rename_i c hc
      have h' : (fn.name == "runtime.NumGoroutine") = false := by simpa using h
      unfold callFunc
      rw [Sem.run_bind, run_program, Result.andThen_ok, hfn]
      dsimp only
      rw [if_neg (by rw [h']; simp)]
      simp [hc]
    · cases h
  · cases h

def isC : Operand → Bool
  | .const _ => true
  | _ => false

def imax (x y : Int) : Int := if y > x then y else x
def imin (x y : Int) : Int := if y < x then y else x

def xsMm (mx : Bool) (k : IntKind) (x : Int) : List Value → (Value → Prop) → Prop
  | [], K => K (.int k x)
  | .int _ y :: r, K => match mx with
    | true => xsMm true k (imax x y) r K
    | false => xsMm false k (imin x y) r K
  | _ :: _, _ => False

def xsLen (P : Program) (ts : List TypeId) (x : Value) (K : Value → Prop) : Prop :=
  match ts with
  | [t] => match P.underlying t, x with
    | some .string, .string s => K (.int .i64 s.size)
    | some (.slice _), .slice _ n _ => K (.int .i64 n)
    | some (.array n _), _ => K (.int .i64 n)
    | _, _ => False
  | _ => False

theorem xsLen_ok {P : Program} {ts : Array TypeId} {t : TypeId} {x : Value} {K : Value → Prop} (h : xsLen P ts.toList x K) : ∃ v, (∀ w, (Builtin.len_ ts t #[x]).run P w = .ok v w) ∧ K v := by
  unfold xsLen at h
  split at h
  · rename_i u hu
    have h0 : ts[0]? = some u := by rw [← Array.getElem?_toList, hu]; rfl
    split at h
    · rename_i s hs
      exact ⟨_, (by intro w; simp [Builtin.len_, h0, run_underlying hs, goInt]), h⟩
    · rename_i e a n m hs
      exact ⟨_, (by intro w; simp [Builtin.len_, h0, run_underlying hs, goInt]), h⟩
    · rename_i n e hs
      refine ⟨_, ?_, h⟩
      intro w
      simp [Builtin.len_, h0, run_underlying hs, goInt]
    · exact h.elim
  · exact h.elim

theorem xsMm_ok {P : Program} {mx : Bool} {k : IntKind} (l : List Value) : ∀ (x : Int) (K : Value → Prop), xsMm mx k x l K →
    ∃ v : Value, (∀ w : World, Sem.run P (l.foldlM (m := Sem) (match mx with | true => Builtin.max2 | false => Builtin.min2) (Value.int k x)) w = .ok v w) ∧ K v := by
  induction l with
  | nil =>
    intro x K h
    refine ⟨.int k x, ?_, h⟩
    intro w
    simp
  | cons y r ih =>
    intro x K h
    cases y with
    | int k' y =>
      cases mx with
      | true =>
        obtain ⟨v, hv, hk⟩ := ih _ _ h
        refine ⟨v, ?_, hk⟩
        intro w
        rw [List.foldlM_cons, Sem.run_bind]
        simp only [Builtin.max2, Sem.run_pure, Result.andThen_ok]; exact hv w
      | false =>
        obtain ⟨v, hv, hk⟩ := ih _ _ h
        refine ⟨v, ?_, hk⟩
        intro w
        rw [List.foldlM_cons, Sem.run_bind]
        simp only [Builtin.min2, Sem.run_pure, Result.andThen_ok]; exact hv w
    | _ => exact h.elim

/-- The function behind a method that needs no way to its receiver. -/
def mlook (P : Program) (t : TypeId) (name : String) : Option FuncId :=
  match P.info? t with
  | some i => match i.methods.find? (·.name == name) with
    | some m => match m.path.toList, m.func, P.underlying t with
      | [], some (f, true), some (.pointer _) => match goOk P f with
        | true => some f
        | false => none
      | _, _, _ => none
    | none => none
  | none => none

theorem mlook_ok {P : Program} {t : TypeId} {name : String} {f : FuncId} (h : mlook P t name = some f) {v : Value} {args : Array Value} {w : World} :
    (callMethod (.iface t v) name args).run P w = .ok (.enter f (#[v] ++ args)) w := by
  unfold mlook at h
  split at h
  · rename_i i hi
    split at h
    · rename_i m hm
      split at h
      · rename_i g e hp hf hu
        split at h
        · rename_i hg
          cases h
          unfold callMethod
          dsimp only
          have hd : ∀ n, (method (n + 1) t v name).run P w = .ok (f, v) w := fun n => by
            unfold method
            rw [Sem.run_bind]
            have h1 : (typeInfo t).run P w = .ok i w := by simp [typeInfo, hi]
            rw [h1, Result.andThen_ok, hm]
            dsimp only
            rw [hp]
            unfold follow
            rw [Sem.run_bind, Sem.run_pure, Result.andThen_ok, hf]
            dsimp only
            rw [Sem.run_bind]
            have h2 : ∀ s : Option String, (receiverAt t (.val v) true s).run P w = .ok v w := fun s => by
              unfold receiverAt
              rw [Sem.run_bind, run_underlying hu, Result.andThen_ok]
              rfl
            rw [h2, Result.andThen_ok]; rfl
          rw [Sem.run_bind, run_program, Result.andThen_ok, Sem.run_bind]
          have h3 := hd (P.types.size + 99)
          rw [show P.types.size + 99 + 1 = P.types.size + Made.depth from rfl] at h3
          rw [h3, Result.andThen_ok]
          exact goOk_ok hg
        · cases h
      · cases h
    · cases h
  · cases h

/-- What an operation asks and gives. -/
def xsOper0 (P : Program) (H : Hn) (o : Oper) (st : St) (h : Heap) (K : XV → St → Heap → Prop) : Prop :=
  match o.op with
  | .move x => K (st.opd x) st h
  | .assign x => K (st.opd x) st h
  | .pick c a b => match st.opd c with
    | .v (.bool t) => xsIf t (K (st.opd a) st h) (K (st.opd b) st h)
    | _ => False
  | .alloc T => match P.info? T with
    | some i => match i.zero with
      | some z => xsNew H o.dst T z st h K
      | none => False
    | none => False
  | .box T x => match st.opd x with
    | .v v => xsNew H o.dst T v st h K
    | _ => False
  | .build t parts => xsBuild P t parts.toList st fun v => K (.v v) st h
  | .load t x => xsLoad P H t (st.opd x) st h fun v => K (.v v) st h
  | .store t x v => xsStore P H t (st.opd x) (st.opd v) st h fun st' h' => K (.v undef) st' h'
  | .nilCheck x => match st.opd x with
    | .p k off => K (.p k off) st h
    | .v (.pointer p) => atBase p fun b o => K (.v (.pointer (some ⟨b, o, none⟩))) st h
    | .v (.func (.func f) a c) => K (.v (.func (.func f) a c)) st h
    | _ => False
  | .binOp op t x y _ => match st.opd x, st.opd y with
    | .v (.int k a), .v (.int k' b) => xsBinInt op k a k' b (constNz y) (constNn y) fun v => K (.v v) st h
    | .v (.string a), .v (.string b) => match op with
      | .add => ((a.size + b.size : Nat) : Int) ≤ 9223372036854775807 ∧ K (.v (.string (a ++ b))) st h
      | .eql => K (.v (.bool (decide (a = b)))) st h
      | .neq => K (.v (.bool (decide (a ≠ b)))) st h
      | _ => False
    | .v a, .v b => xsEql P op t a b fun v => K (.v v) st h
    | _, _ => False
  | .unOp op _ x => match op, st.opd x with
    | .not, .v (.bool b) => K (.v (.bool (!b))) st h
    | .neg, .v (.int k n) => K (.v (.int k (k.wrap (0 - n)))) st h
    | .xor, .v (.int k n) => K (.v (.int k (inot k n))) st h
    | _, _ => False
  | .convert s t x => match P.underlying s, P.underlying t, st.opd x with
    | some (.slice T), some .string, .v (.slice a m _) => match isU8 P T with
      | true => xsStr h a m fun s => K (.v (.string s)) st h
      | false => False
    | some .string, some (.slice T), .v (.string b) => match isU8 P T with
      | true => xsBytes T h b fun a m c h' => K (.v (.slice a m c)) st h'
      | false => False
    | some _, some (.int k), .v (.int _ n) => K (.v (.int k (k.wrap n))) st h
    | some _, some .string, .v (.string b) => K (.v (.string b)) st h
    | some _, some .string, .v (.int _ n) => K (.v (.string (Utf8.encode n))) st h
    | _, _, _ => False
  | .fieldAddr s x f => xsFieldAddr P s (st.opd x) f fun v => K v st h
  | .field s x f => xsField P s (st.opd x) f fun v => K (.v v) st h
  | .index t x i => xsIndex P t (st.opd x) (st.opd i) (isC i) fun v => K (.v v) st h
  | .indexAddr t x i => xsIndexAddr P t (st.opd x) (st.opd i) (isC i) fun v => K v st h
  | .extract x ix => match st.opd x with
    | .v (.tuple vs) => match vs.toList[ix]? with
      | some v => K (.v v) st h
      | none => False
    | _ => False
  | .slice t x lo hi mx => xsSlice P t (st.opd x) st lo hi mx fun v => K (.v v) st h
  | .makeSlice t l c => match P.underlying t, st.opd l, st.opd c with
    | some (.slice T), .v (.int _ n), .v (.int _ m) => match rowOk P T with
      | true => xsMk P T h n m fun a n' c' h' => K (.v (.slice a n' c')) st h'
      | false => False
    | _, _, _ => False
  | .buildSlice t n parts => xsBuildSlice P t n parts.toList st h fun v h' => K (.v v) st h'
  | .makeFunc fn first captured => match opdList st first.toList, opdList st captured.toList with
    | some l, some m => K (.v (.func fn l.toArray m.toArray)) st h
    | _, _ => False
  | .call c => match c.callee with
    | .value f => match st.opd f with
      | .v (.func (.func g) first captured) => match opdList st c.args.toList with
        | some l => xsIf (goOk P g) (C P g (first.toList ++ l ++ captured.toList).toArray h fun r h' => resK (shape P o.type) r fun r' => K (.v r') st h') False
        | none => False
      | .v (.func (.yield y) first captured) => match opdList st c.args.toList with
        | some l => Y P y (first.toList ++ l) h fun r h' => resK (shape P o.type) r fun r' => K (.v r') st h'
        | none => False
      | _ => False
    | .builtin b => match opdList st c.args.toList with
      | some l => match b, l with
        | .max, .int k x :: r => xsMm true k x r fun v => K (.v v) st h
        | .min, .int k x :: r => xsMm false k x r fun v => K (.v v) st h
        | .len, [x] => xsLen P c.argTypes.toList x fun v => K (.v v) st h
        | .append, [.slice a n m, .slice x l _] => xsAppT P c.argTypes.toList h a n m x l fun a' n' c' h' => K (.v (.slice a' n' c')) st h'
        | .append, [.slice a n m, .string s] => xsAppST P c.argTypes.toList h a n m s fun a' n' c' h' => K (.v (.slice a' n' c')) st h'
        | _, _ => False
      | none => False
    | .invoke recv name => match st.opd recv with
      | .v (.iface t v) => match opdList st c.args.toList with
        | some l => ∃ f, mlook P t name = some f ∧ C P f (v :: l).toArray h fun r h' => resK (shape P o.type) r fun r' => K (.v r') st h'
        | none => False
      | _ => False
  | .makeInterface T x => match P.underlying T, st.opd x with
    | some (.interface _), _ => False
    | some _, .v v => K (.v (.iface T v)) st h
    | _, _ => False
  | .typeAssert x _ T false => match P.underlying T, st.opd x with
    | some (.interface _), _ => False
    | some _, .v y => genV (shape P T) fun v => y = .iface T v ∧ K (.v v) st h
    | _, _ => False
  | _ => False


theorem run_v {P : Program} {w w' : World} {s : Sem Value} {v : Value} (h : s.run P w = .ok v w') : (do pure (Next.value (← s)) : Sem Next).run P w = .ok (.value v) w' := by
  rw [Sem.run_bind, h]; rfl

theorem run_u {P : Program} {w w' : World} {s : Sem Unit} (h : s.run P w = .ok () w') : (do s; pure Next.skip : Sem Next).run P w = .ok .skip w' := by
  rw [Sem.run_bind, h]; rfl

theorem OpOut.quiet {P : Program} {n : Nat} {o : Oper} {st : St} {h : Heap} {K : XV → St → Heap → Prop} {β : Nat → Nat} {a : Act} {w : World} (r : Rep n st h β a w) {x : XV} {v : Value}
    (run : (execOp a.eval o).run P w = .ok (.value v) w) (hx : x.is β v) (hp : ∀ k off, x = .p k off → st.pget k ≠ none) (hk : K x st h) : OpOut P n o st h K β a w :=
  .val _ v x st h β w run (.inl rfl) hx r (Mid.refl st β h w) hp (KeepP.refl _ _ _ _) (fun _ hj => .inl hj) hk

theorem OpOut.quietV {P : Program} {n : Nat} {o : Oper} {st : St} {h : Heap} {K : XV → St → Heap → Prop} {β : Nat → Nat} {a : Act} {w : World} (r : Rep n st h β a w) {v : Value}
    (run : (execOp a.eval o).run P w = .ok (.value v) w) (hk : K (.v v) st h) : OpOut P n o st h K β a w :=
  .quiet r (x := .v v) run rfl (fun _ _ e => by cases e) hk

theorem constNz_ok {x : Operand} {a : Act} {k : IntKind} {b : Int} (hx : a.eval x = .int k b) : constNz x = true → b ≠ 0 := by
  intro h
  cases x with
  | const v =>
    have hv : v = .int k b := hx
    subst hv
    exact of_decide_eq_true h
  | _ => cases h

theorem constNn_ok {x : Operand} {a : Act} {k : IntKind} {b : Int} (hx : a.eval x = .int k b) : constNn x = true → 0 ≤ b := by
  intro h
  cases x with
  | const v =>
    have hv : v = .int k b := hx
    subst hv
    exact of_decide_eq_true h
  | _ => cases h

/-- What hangs on no memory at all. -/
structure PureOut (P : Program) (o : Oper) (st : St) (h : Heap) (K : XV → St → Heap → Prop) (β : Nat → Nat) (a : Act) : Prop where
  out : ∃ x v, (∀ w, (execOp a.eval o).run P w = .ok (.value v) w) ∧ XV.is β x v ∧ (∀ k off, x = .p k off → st.pget k ≠ none) ∧ K x st h

theorem PureOut.mkQ {P : Program} {o : Oper} {st : St} {h : Heap} {K : XV → St → Heap → Prop} {β : Nat → Nat} {a : Act} {x : XV} {v : Value}
    (run : ∀ w, (execOp a.eval o).run P w = .ok (.value v) w) (hx : x.is β v) (hp : ∀ k off, x = .p k off → st.pget k ≠ none) (hk : K x st h) : PureOut P o st h K β a := ⟨x, v, run, hx, hp, hk⟩
theorem PureOut.mkV {P : Program} {o : Oper} {st : St} {h : Heap} {K : XV → St → Heap → Prop} {β : Nat → Nat} {a : Act} {v : Value}
    (run : ∀ w, (execOp a.eval o).run P w = .ok (.value v) w) (hk : K (.v v) st h) : PureOut P o st h K β a := ⟨.v v, v, run, rfl, (fun _ _ e => by cases e), hk⟩

def isPure (P : Program) (o : Op) : Bool :=
  match o with
  | .convert s t _ => match P.underlying s, P.underlying t with
    | some (.slice _), _ => false
    | _, some (.slice _) => false
    | _, _ => true
  | .move _ | .assign _ | .pick _ _ _ | .build _ _ | .nilCheck _ | .binOp _ _ _ _ _ | .unOp _ _ _ | .slice _ _ _ _ _ | .makeFunc _ _ _ | .fieldAddr _ _ _ | .field _ _ _ | .index _ _ _ | .indexAddr _ _ _ | .extract _ _ => true
  | .call c => match c.callee with
    | .builtin .max | .builtin .min | .builtin .len => true
    | _ => false
  | _ => false

set_option maxHeartbeats 1000000 in
theorem xsPure_ok {P : Program} {H : Hn} {n : Nat} {o : Oper} {st : St} {h : Heap} {K : XV → St → Heap → Prop} {β : Nat → Nat} {a : Act} {w : World}
    (hpure : isPure P o.op = true) (r : Rep n st h β a w) (hk : xsOper0 P H o st h K) : PureOut P o st h K β a := by
  unfold xsOper0 at hk
  split at hk
  · -- move
    rename_i x ho
    exact .mkQ (v := a.eval x) (fun w => by unfold execOp; rw [ho]; rfl) (r.is x) (fun k off e => r.heldOp e) hk
  · -- assign
    rename_i x ho
    exact .mkQ (v := a.eval x) (fun w => by unfold execOp; rw [ho]; rfl) (r.is x) (fun k off e => r.heldOp e) hk
  · -- pick
    rename_i c x y ho
    split at hk
    · rename_i t hc
      have hc' := r.val hc
      obtain ⟨h1, h2⟩ := xsIf_iff.1 hk
      cases t with
      | true => exact .mkQ (v := a.eval x) (fun w => by unfold execOp; rw [ho]; simp [hc', asBool]) (r.is x) (fun k off e => r.heldOp e) (h1 rfl)
      | false => exact .mkQ (v := a.eval y) (fun w => by unfold execOp; rw [ho]; simp [hc', asBool]) (r.is y) (fun k off e => r.heldOp e) (h2 rfl)
    · exact hk.elim
  · rename_i ho; rw [ho] at hpure; cases hpure
  · rename_i ho; rw [ho] at hpure; cases hpure
  · -- build
    rename_i t parts ho
    obtain ⟨v, hv, hkv⟩ := xsBuild_ok r hk
    refine .mkV (v := v) (fun w => ?_) hkv
    unfold execOp; rw [ho]
    exact run_v (by simpa using hv w)
  · rename_i ho; rw [ho] at hpure; cases hpure
  · rename_i ho; rw [ho] at hpure; cases hpure
  · -- nilCheck
    rename_i x ho
    split at hk
    · rename_i k off hx
      have hx' : a.eval x = .pointer (some ⟨β k, off, none⟩) := by have := r.is x; rw [hx] at this; exact this
      refine .mkQ (x := .p k off) (v := .pointer (some ⟨β k, off, none⟩)) (fun w => ?_) rfl (fun k' off' e => by cases e; exact r.heldOp hx) hk
      unfold execOp; rw [ho]; simp [hx']
    · rename_i p hx
      obtain ⟨b, off, rfl, hk⟩ := hk
      have hx' := r.val hx
      refine .mkV (v := .pointer (some ⟨b, off, none⟩)) (fun w => ?_) hk
      unfold execOp; rw [ho]; simp [hx']
    · rename_i f fs cs hx
      have hx' := r.val hx
      refine .mkV (v := .func (.func f) fs cs) (fun w => ?_) hk
      unfold execOp; rw [ho]; simp [hx']
    · exact hk.elim
  · -- binOp
    rename_i op t x y yt ho
    split at hk
    · rename_i k p k' q hx hy
      have hx' := r.val hx
      have hy' := r.val hy
      obtain ⟨v, hv, hkv⟩ := xsBinInt_ok (P := P) (t := t) (constNz_ok hy') (constNn_ok hy') hk
      refine .mkV (v := v) (fun w => ?_) hkv
      unfold execOp; rw [ho]
      refine run_v ?_
      rw [Sem.run_bind, hx', hy']
      have : (eqGuard op t x y (.int k p) (.int k' q)).run P w = .ok () w := by
        unfold eqGuard; simp
      rw [this]; exact hv w
    · rename_i p q hx hy
      have hx' := r.val hx
      have hy' := r.val hy
      have fin : ∀ v, (∀ w, (binOp op t (.string p) (.string q)).run P w = .ok v w) → ∀ w, (execOp a.eval o).run P w = .ok (.value v) w := by
        intro v hv w
        have hg : (eqGuard op t x y (.string p) (.string q)).run P w = .ok () w := by
          unfold eqGuard; simp
        unfold execOp; rw [ho]
        refine run_v ?_
        rw [Sem.run_bind, hx', hy', hg]; exact hv w
      split at hk
      · refine .mkV (fin _ (fun w => ?_)) hk.2
        have h1 := hk.1
        have h2 : ¬ ((p.size + q.size : Nat) : Int) > IntKind.i64.max := by
          have : IntKind.i64.max = 9223372036854775807 := by decide
          rw [this]; omega
        simp only [binOp, Op.stringOp]
        rw [if_neg h2]; rfl
      · refine .mkV (fin _ (fun w => ?_)) hk
        simp only [binOp, Op.stringOp, toList_beq]; rfl
      · refine .mkV (fin _ (fun w => ?_)) hk
        simp only [binOp, Op.stringOp, toList_beq, Sem.run_pure]
        simp
      · exact hk.elim
    · rename_i p q hni hns hx hy
      have hx' := r.val hx
      have hy' := r.val hy
      obtain ⟨v, hv, hkv⟩ := xsEql_ok (P := P) (x := x) (y := y) (fun k a k' b e => hni k a k' b e.1 e.2) (fun a b e => hns a b e.1 e.2) hk
      refine .mkV (v := v) (fun w => ?_) hkv
      unfold execOp; rw [ho]
      refine run_v ?_
      rw [hx', hy']; exact hv w
    · exact hk.elim
  · -- unOp
    rename_i op t x ho
    split at hk
    · rename_i b hx
      have hx' := r.val hx
      refine .mkV (v := .bool (!b)) (fun w => ?_) hk
      unfold execOp; rw [ho]; exact run_v (by rw [hx']; rfl)
    · rename_i k m hx
      have hx' := r.val hx
      refine .mkV (v := .int k (k.wrap (0 - m))) (fun w => ?_) hk
      unfold execOp; rw [ho]; exact run_v (by rw [hx']; rfl)
    · rename_i k m hx
      have hx' := r.val hx
      refine .mkV (v := .int k (inot k m)) (fun w => ?_) hk
      unfold execOp; rw [ho]; exact run_v (by rw [hx']; rfl)
    · exact hk.elim
  · -- convert
    rename_i s t x ho
    split at hk
    · rename_i T a m c hs ht hx
      rw [ho] at hpure; simp [isPure, hs, ht] at hpure
    · rename_i T b hs ht hx
      rw [ho] at hpure; simp [isPure, hs, ht] at hpure
    · rename_i ds k k' m hs ht hx
      have hx' := r.val hx
      refine .mkV (v := .int k (k.wrap m)) (fun w => ?_) hk
      unfold execOp; rw [ho]
      refine run_v ?_
      unfold convert
      rw [hx', Sem.run_bind, run_underlying hs, Result.andThen_ok, Sem.run_bind, run_underlying ht, Result.andThen_ok]
      rfl
    · rename_i ds b hs ht hx
      have hx' := r.val hx
      refine .mkV (v := .string b) (fun w => ?_) hk
      unfold execOp; rw [ho]
      refine run_v ?_
      unfold convert
      rw [hx', Sem.run_bind, run_underlying hs, Result.andThen_ok, Sem.run_bind, run_underlying ht, Result.andThen_ok]
      cases ds <;> rfl
    · rename_i ds k' m hs ht hx
      have hx' := r.val hx
      refine .mkV (v := .string (Utf8.encode m)) (fun w => ?_) hk
      unfold execOp; rw [ho]
      refine run_v ?_
      unfold convert
      rw [hx', Sem.run_bind, run_underlying hs, Result.andThen_ok, Sem.run_bind, run_underlying ht, Result.andThen_ok]
      cases ds <;> rfl
    · exact hk.elim
  · -- fieldAddr
    rename_i s x f ho
    obtain ⟨v, z, hv, hz, hp, hkv⟩ := xsFieldAddr_ok (r.is x) hk
    refine .mkQ (v := v) (fun w => ?_) hz (fun k off e => by obtain ⟨o', ho'⟩ := hp k off e; exact r.heldOp ho') hkv
    unfold execOp; rw [ho]; exact run_v (hv w)
  · -- field
    rename_i s x f ho
    obtain ⟨v, hv, hkv⟩ := xsField_ok (r.is x) hk
    refine .mkV (v := v) (fun w => ?_) hkv
    unfold execOp; rw [ho]; exact run_v (hv w)
  · -- index
    rename_i t x i ho
    obtain ⟨v, hv, hkv⟩ := xsIndex_ok (r.is x) (r.is i) hk
    refine .mkV (v := v) (fun w => ?_) hkv
    unfold execOp; rw [ho]; exact run_v (hv w)
  · -- indexAddr
    rename_i t x i ho
    obtain ⟨v, z, hv, hz, hp, hkv⟩ := xsIndexAddr_ok (r.is x) (r.is i) hk
    refine .mkQ (v := v) (fun w => ?_) hz (fun k off e => by obtain ⟨o', ho'⟩ := hp k off e; exact r.heldOp ho') hkv
    unfold execOp; rw [ho]; exact run_v (hv w)
  · -- extract
    rename_i x ix ho
    split at hk
    · rename_i vs hx
      have hx' := r.val hx
      split at hk
      · rename_i v hv
        refine .mkV (v := v) (fun w => ?_) hk
        unfold execOp; rw [ho]
        refine run_v ?_
        simp only [Array.getElem?_toList] at hv
        simp [hx', Instr.extract, hv]
      · exact hk.elim
    · exact hk.elim
  · -- slice
    rename_i t x lo hi mx ho
    obtain ⟨v, hv, hkv⟩ := xsSlice_ok r (r.is x) hk
    refine .mkV (v := v) (fun w => ?_) hkv
    unfold execOp; rw [ho]; exact run_v (hv w)
  · rename_i ho; rw [ho] at hpure; cases hpure
  · rename_i ho; rw [ho] at hpure; cases hpure
  · -- makeFunc
    rename_i fn first captured ho
    split at hk
    · rename_i l m hl hm
      have hl' := opdList_ok r _ _ hl
      have hm' := opdList_ok r _ _ hm
      have e1 : first.map a.eval = l.toArray := by apply Array.ext'; simpa using hl'
      have e2 : captured.map a.eval = m.toArray := by apply Array.ext'; simpa using hm'
      refine .mkV (v := .func fn l.toArray m.toArray) (fun w => ?_) hk
      unfold execOp; rw [ho]
      refine run_v ?_
      simp [Instr.makeFunc, e1, e2]
    · exact hk.elim
  · -- call
    rename_i c ho
    split at hk
    · rename_i f hf
      rw [ho] at hpure
      simp [isPure, hf] at hpure
    · rename_i b hb
      split at hk
      · rename_i l hl
        have hl' := opdList_ok r _ _ hl
        have harr : c.args.map a.eval = l.toArray := by
          apply Array.ext'
          simpa using hl'
        have fin : ∀ v, (∀ w, (builtin b c.argTypes o.type (c.args.map fun | .const _ => true | _ => false) l.toArray).run P w = .ok (.value v) w) → ∀ w, (execOp a.eval o).run P w = .ok (.value v) w := by
          intro v hv w
          unfold execOp; rw [ho]
          dsimp only
          rw [Sem.run_bind]
          have hres : (resolve a.eval c o.type).run P w = .ok { target := .builtin b c.argTypes o.type (c.args.map fun | .const _ => true | _ => false), args := l.toArray } w := by
            unfold resolve
            rw [hb]
            dsimp only
            rw [harr]; rfl
          rw [hres, Result.andThen_ok]
          exact hv w
        split at hk
        · rename_i k x rest
          obtain ⟨v, hv, hkv⟩ := xsMm_ok (P := P) rest x _ hk
          refine .mkV (fin v (fun w => ?_)) hkv
          exact run_v (by simpa [Builtin.max_] using hv w)
        · rename_i k x rest
          obtain ⟨v, hv, hkv⟩ := xsMm_ok (P := P) rest x _ hk
          refine .mkV (fin v (fun w => ?_)) hkv
          exact run_v (by simpa [Builtin.min_] using hv w)
        · rename_i x
          obtain ⟨v, hv, hkv⟩ := xsLen_ok (P := P) (t := o.type) hk
          exact .mkV (fin v (fun w => run_v (hv w))) hkv
        · rw [ho] at hpure; simp [isPure, hb] at hpure
        · rw [ho] at hpure; simp [isPure, hb] at hpure
        · exact hk.elim
      · exact hk.elim
    · rename_i rv nm hb
      rw [ho] at hpure
      simp [isPure, hb] at hpure
  · rename_i ho; rw [ho] at hpure; cases hpure
  · rename_i ho; rw [ho] at hpure; cases hpure
  · exact hk.elim

set_option maxHeartbeats 1000000 in
theorem xsOper0_ok {P : Program} {H : Hn} {n : Nat} {o : Oper} {st : St} {h : Heap} {K : XV → St → Heap → Prop} {β : Nat → Nat} {a : Act} {w : World}
    (r : Rep n st h β a w) (hk : xsOper0 P H o st h K) : OpOut P n o st h K β a w := by
  cases hpure : isPure P o.op with
  | true =>
    obtain ⟨x, v, hv, hx, hp, hkx⟩ := xsPure_ok hpure r hk
    exact .quiet r (hv w) hx hp hkx
  | false =>
  unfold xsOper0 at hk
  split at hk
  · rename_i ho; rw [ho] at hpure; cases hpure
  · rename_i ho; rw [ho] at hpure; cases hpure
  · rename_i ho; rw [ho] at hpure; cases hpure
  · -- alloc
    rename_i T ho
    split at hk
    · rename_i i hi
      split at hk
      · rename_i z hz
        obtain ⟨y, x, st', h', β', w', hrun, hx, rep, mid, hp, kp, nw, hkx⟩ := xsNew_ok (P := P) r hk
        refine .val (.value (.pointer (some y))) _ x st' h' β' w' ?_ (.inl rfl) hx rep mid hp (by unfold storeTo; rw [ho]; exact kp) (by unfold newTo; rw [ho]; exact nw) hkx
        unfold execOp; rw [ho]
        refine run_v ?_
        simp [Instr.alloc, zeroValue, typeInfo, hi, hz, hrun]
      · exact hk.elim
    · exact hk.elim
  · -- box
    rename_i T x ho
    split at hk
    · rename_i v hv
      have hv' := r.val hv
      obtain ⟨y, x, st', h', β', w', hrun, hx, rep, mid, hp, kp, nw, hkx⟩ := xsNew_ok (P := P) r hk
      refine .val (.value (.pointer (some y))) _ x st' h' β' w' ?_ (.inl rfl) hx rep mid hp (by unfold storeTo; rw [ho]; exact kp) (by unfold newTo; rw [ho]; exact nw) hkx
      unfold execOp; rw [ho]
      refine run_v ?_
      simp [Instr.box, hv', hrun]
    · exact hk.elim
  · rename_i ho; rw [ho] at hpure; cases hpure
  · -- load
    rename_i t x ho
    obtain ⟨v, hv, hkv⟩ := xsLoad_ok r (r.is x) hk
    refine .quietV r (v := v) ?_ hkv
    unfold execOp; rw [ho]
    exact run_v hv
  · -- store
    rename_i t x v ho
    obtain ⟨st', h', w', hrun, rep, mid, kp, nw, hkv⟩ := xsStore_ok r (r.is x) (r.is v) hk
    refine .val .skip undef (.v undef) st' h' β w' ?_ (.inr ⟨rfl, rfl⟩) rfl rep mid (fun _ _ e => by cases e) (by unfold storeTo; rw [ho]; exact kp) (by unfold newTo; rw [ho]; exact nw) hkv
    unfold execOp; rw [ho]
    exact run_u hrun
  · rename_i ho; rw [ho] at hpure; cases hpure
  · rename_i ho; rw [ho] at hpure; cases hpure
  · rename_i ho; rw [ho] at hpure; cases hpure
  · -- convert
    rename_i s t x ho
    split at hk
    · rename_i T p m c hs ht hx
      have hx' := r.val hx
      split at hk
      · rename_i hu
        obtain ⟨s', hrun, hks⟩ := xsStr_ok (c := c) (isU8_ok hu) r.sub hs ht hk
        refine .quietV r (v := .string s') ?_ hks
        unfold execOp; rw [ho]
        exact run_v (by rw [hx']; exact hrun)
      · exact hk.elim
    · rename_i T b hs ht hx
      have hx' := r.val hx
      split at hk
      · rename_i hu
        obtain ⟨a', n', c', h', w', hrun, rep, mid, kp, hkv⟩ := xsBytes_ok r hs ht (isU8_ok hu) hk
        refine .val (.value (.slice a' n' c')) _ (.v (.slice a' n' c')) st h' β w' ?_ (.inl rfl) rfl rep mid (fun _ _ e => by cases e) (by unfold storeTo; rw [ho]; exact kp) (fun _ hj => .inl hj) hkv
        unfold execOp; rw [ho]
        exact run_v (by rw [hx']; exact hrun)
      · exact hk.elim
    · rename_i ds k k' m hs ht hx
      have hx' := r.val hx
      refine .quietV r (v := .int k (k.wrap m)) ?_ hk
      unfold execOp; rw [ho]
      refine run_v ?_
      unfold convert
      rw [hx', Sem.run_bind, run_underlying hs, Result.andThen_ok, Sem.run_bind, run_underlying ht, Result.andThen_ok]
      rfl
    · rename_i ds b hs ht hx
      have hx' := r.val hx
      refine .quietV r (v := .string b) ?_ hk
      unfold execOp; rw [ho]
      refine run_v ?_
      unfold convert
      rw [hx', Sem.run_bind, run_underlying hs, Result.andThen_ok, Sem.run_bind, run_underlying ht, Result.andThen_ok]
      cases ds <;> rfl
    · rename_i ds k' m hs ht hx
      have hx' := r.val hx
      refine .quietV r (v := .string (Utf8.encode m)) ?_ hk
      unfold execOp; rw [ho]
      refine run_v ?_
      unfold convert
      rw [hx', Sem.run_bind, run_underlying hs, Result.andThen_ok, Sem.run_bind, run_underlying ht, Result.andThen_ok]
      cases ds <;> rfl
    · exact hk.elim
  · rename_i ho; rw [ho] at hpure; cases hpure
  · rename_i ho; rw [ho] at hpure; cases hpure
  · rename_i ho; rw [ho] at hpure; cases hpure
  · rename_i ho; rw [ho] at hpure; cases hpure
  · rename_i ho; rw [ho] at hpure; cases hpure
  · rename_i ho; rw [ho] at hpure; cases hpure
  · -- makeSlice
    rename_i t x y ho
    split at hk
    · rename_i T k1 p k2 q ht hx hy
      have hx' := r.val hx
      have hy' := r.val hy
      split at hk
      · rename_i hrow
        obtain ⟨a', n', c', h', w', hrun, rep, mid, kp, hkv⟩ := xsMk_ok (k1 := k1) (k2 := k2) r ht hrow hk
        refine .val (.value (.slice a' n' c')) _ (.v (.slice a' n' c')) st h' β w' ?_ (.inl rfl) rfl rep mid (fun _ _ e => by cases e) (by unfold storeTo; rw [ho]; exact kp) (fun _ hj => .inl hj) hkv
        unfold execOp; rw [ho]
        exact run_v (by rw [hx', hy']; exact hrun)
      · exact hk.elim
    · exact hk.elim
  · -- buildSlice
    rename_i t m parts ho
    obtain ⟨v, h', w', hrun, rep, mid, kp, hkv⟩ := xsBuildSlice_ok r hk
    refine .val (.value v) _ (.v v) st h' β w' ?_ (.inl rfl) rfl rep mid (fun _ _ e => by cases e) (by unfold storeTo; rw [ho]; exact kp) (fun _ hj => .inl hj) hkv
    unfold execOp; rw [ho]
    exact run_v (by simpa using hrun)
  · rename_i ho; rw [ho] at hpure; cases hpure
  · -- call
    rename_i c ho
    split at hk
    · rename_i f hf
      split at hk
      · rename_i g first captured hx
        have hx' := r.val hx
        split at hk
        · rename_i l hl
          have hl' := opdList_ok r _ _ hl
          obtain ⟨hk1, hk2⟩ := xsIf_iff.1 hk
          have hg : goOk P g = true := by
            cases hg : goOk P g with
            | true => rfl
            | false => exact (hk2 hg).elim
          have hk := hk1 hg
          · refine .call g (first.toList ++ l ++ captured.toList).toArray ?_ (hk.mono fun v h' hv => resK_ok hv)
            have harr : c.args.map a.eval = l.toArray := by
              apply Array.ext'
              simpa using hl'
            unfold execOp; rw [ho]
            dsimp only
            rw [Sem.run_bind]
            have hres : (resolve a.eval c o.type).run P w = .ok { target := .fn (.func g) captured, args := first ++ l.toArray } w := by
              unfold resolve
              rw [hf]
              dsimp only
              rw [hx', harr]; rfl
            rw [hres, Result.andThen_ok]
            unfold invoke
            dsimp only
            rw [goOk_ok hg]
            congr 2
            apply Array.ext'
            simp
        · exact hk.elim
      · rename_i y first captured hx
        have hx' := r.val hx
        split at hk
        · rename_i l hl
          have hl' := opdList_ok r _ _ hl
          obtain ⟨rc, hl0, hsz, hrc⟩ := hk
          have harr : c.args.map a.eval = l.toArray := by
            apply Array.ext'
            simpa using hl'
          have he : first ++ l.toArray = (first.toList ++ l).toArray := by
            apply Array.ext'; simp
          refine .round y _ _ _ _ (by unfold isYield; rw [ho]; dsimp only; rw [hf]; dsimp only; rw [hx]) ?_ (hrc.mono fun v h' hv => resK_ok hv)
          unfold execOp; rw [ho]
          dsimp only
          rw [Sem.run_bind]
          have hres : (resolve a.eval c o.type).run P w = .ok { target := .fn (.yield y) captured, args := first ++ l.toArray } w := by
            unfold resolve
            rw [hf]
            dsimp only
            rw [hx', harr]; rfl
          rw [hres, Result.andThen_ok]
          unfold invoke
          dsimp only
          rw [he]
          exact run_yield (r.sub _ _ hl0) (by simpa using hsz)
        · exact hk.elim
      · exact hk.elim
    · rename_i b hb
      split at hk
      · split at hk
        · rw [ho] at hpure; simp [isPure, hb] at hpure
        · rw [ho] at hpure; simp [isPure, hb] at hpure
        · rw [ho] at hpure; simp [isPure, hb] at hpure
        · rename_i p q m x l mc hl
          obtain ⟨a', n', c', h', w', hrun, rep, mid, kp, hkv⟩ := xsAppT_ok (rt := o.type) (mc := mc) r hk
          refine .val (.value (.slice a' n' c')) _ (.v (.slice a' n' c')) st h' β w' ?_ (.inl rfl) rfl rep mid (fun _ _ e => by cases e) (by unfold storeTo; rw [ho]; exact kp) (fun _ hj => .inl hj) hkv
          have hl' := opdList_ok r _ _ hl
          have harr : c.args.map a.eval = #[.slice p q m, .slice x l mc] := by
            apply Array.ext'
            simpa using hl'
          unfold execOp; rw [ho]
          dsimp only
          rw [Sem.run_bind]
          have hres : (resolve a.eval c o.type).run P w = .ok { target := .builtin .append c.argTypes o.type (c.args.map fun | .const _ => true | _ => false), args := #[.slice p q m, .slice x l mc] } w := by
            unfold resolve
            rw [hb]
            dsimp only
            rw [harr]; rfl
          rw [hres, Result.andThen_ok]
          exact run_v hrun
        · rename_i p q m s hl
          obtain ⟨a', n', c', h', w', hrun, rep, mid, kp, hkv⟩ := xsAppST_ok (rt := o.type) r hk
          refine .val (.value (.slice a' n' c')) _ (.v (.slice a' n' c')) st h' β w' ?_ (.inl rfl) rfl rep mid (fun _ _ e => by cases e) (by unfold storeTo; rw [ho]; exact kp) (fun _ hj => .inl hj) hkv
          have hl' := opdList_ok r _ _ hl
          have harr : c.args.map a.eval = #[.slice p q m, .string s] := by
            apply Array.ext'
            simpa using hl'
          unfold execOp; rw [ho]
          dsimp only
          rw [Sem.run_bind]
          have hres : (resolve a.eval c o.type).run P w = .ok { target := .builtin .append c.argTypes o.type (c.args.map fun | .const _ => true | _ => false), args := #[.slice p q m, .string s] } w := by
            unfold resolve
            rw [hb]
            dsimp only
            rw [harr]; rfl
          rw [hres, Result.andThen_ok]
          exact run_v hrun
        · exact hk.elim
      · exact hk.elim
    · rename_i rv nm hb
      split at hk
      · rename_i t v hx
        have hx' := r.val hx
        split at hk
        · rename_i l hl
          have hl' := opdList_ok r _ _ hl
          obtain ⟨f, hf, hk⟩ := hk
          refine .call f (v :: l).toArray ?_ (hk.mono fun v h' hv => resK_ok hv)
          have harr : c.args.map a.eval = l.toArray := by
            apply Array.ext'
            simpa using hl'
          unfold execOp; rw [ho]
          dsimp only
          rw [Sem.run_bind]
          have hres : (resolve a.eval c o.type).run P w = .ok { target := .fn (.method nm) #[], args := #[Value.iface t v] ++ l.toArray } w := by
            unfold resolve
            rw [hb]
            dsimp only
            rw [hx', harr]; rfl
          rw [hres, Result.andThen_ok]
          unfold invoke
          dsimp only
          have e0 : (#[Value.iface t v] ++ l.toArray)[0]? = some (Value.iface t v) := by simp
          rw [e0]
          dsimp only
          have e1 : (#[Value.iface t v] ++ l.toArray).extract 1 (#[Value.iface t v] ++ l.toArray).size = l.toArray := by
            apply Array.ext'; simp
          rw [e1, mlook_ok hf]
          congr 2
          apply Array.ext'; simp
        · exact hk.elim
      · exact hk.elim
  · -- makeInterface
    rename_i T x ho
    split at hk
    · exact hk.elim
    · rename_i ds v hni hu hx
      have hx' := r.val hx
      refine .quietV r (v := .iface T v) ?_ hk
      unfold execOp; rw [ho]
      refine run_v ?_
      unfold Instr.makeInterface
      rw [hx', Sem.run_bind, run_underlying hu, Result.andThen_ok]
      cases ds <;> first | exact absurd rfl (hni _) | rfl
    · exact hk.elim
  · -- typeAssert
    rename_i x xt T ho
    split at hk
    · exact hk.elim
    · rename_i ds y hni hu hx
      have hx' := r.val hx
      obtain ⟨v, e, hk⟩ := genV_ok hk
      refine .quietV r (v := v) ?_ hk
      unfold execOp; rw [ho]
      refine run_v ?_
      unfold Instr.typeAssert
      rw [hx', e, Sem.run_bind, run_underlying hu, Result.andThen_ok]
      cases ds <;> first | exact absurd rfl (hni _) | simp
    · exact hk.elim
  · exact hk.elim

end Go.Gb
