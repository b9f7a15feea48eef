/- Own text for the seat: GbDraw. -/
import Derived.Test.YtbphidfhcijbhaaGbStill
set_option linter.unusedVariables false
set_option linter.unusedSimpArgs false
set_option linter.unnecessarySimpa false
set_option linter.deprecated false
namespace Go.Gb

/-! Regions whose order is open: what hangs on nobody else comes first, what doesn't must be the only one that may come. -/

def predsIn : List Edge → Nat → Bool
  | [], _ => true
  | e :: r, done => match Region.binds .any e with
    | false => predsIn r done
    | true => match Nat.testBit done e.on with
      | true => predsIn r done
      | false => false

def waitsFor : List Edge → Nat → Bool
  | [], _ => false
  | e :: r, i => match Region.binds .any e with
    | false => waitsFor r i
    | true => match Nat.beq e.on i with
      | true => true
      | false => waitsFor r i

/-- No operation that is left, but i, may come now. -/
def alone (done i : Nat) : List Oper → Nat → Bool
  | [], _ => true
  | o :: r, j => match Nat.beq j i with
    | true => alone done i r (j + 1)
    | false => match Nat.testBit done j with
      | true => alone done i r (j + 1)
      | false => match predsIn o.after.toList done with
        | true => false
        | false => alone done i r (j + 1)

/-- Every operation that is left, but i, waits for i, or has nothing to do with it. -/
def freeOf (ops : Array Oper) (oi : Oper) (done i : Nat) : List Oper → Nat → Bool
  | [], _ => true
  | o :: r, j => match Nat.beq j i with
    | true => freeOf ops oi done i r (j + 1)
    | false => match Nat.testBit done j with
      | true => freeOf ops oi done i r (j + 1)
      | false => match waitsFor o.after.toList i with
        | true => freeOf ops oi done i r (j + 1)
        | false => match Oper.apart ops oi o with
          | true => freeOf ops oi done i r (j + 1)
          | false => false

def noSel : List Oper → Bool
  | [] => true
  | o :: r => match o.op with
    | .select _ _ => false
    | _ => noSel r

def allIn (done : Nat) : List Oper → Nat → Bool
  | [], _ => true
  | _ :: r, j => match Nat.testBit done j with
    | true => allIn done r (j + 1)
    | false => false

/-- May it be done first, without harm? -/
def quiet (P : Program) (wr : List Nat) (o : Oper) (st : St) : Bool :=
  match isQuiet P o.op with
  | true => true
  | false => match o.op with
    | .load _ x => match st.opd x with
      | .p k _ => match memN wr k with
        | true => false
        | false => true
      | _ => false
    | _ => false

def storeOk (wr : List Nat) (st : St) (o : Oper) : Bool :=
  match storeTo st o with
  | some k => memN wr k
  | none => match newTo o with
    | some k => memN wr k
    | none => true

/-- Does an operation wait for i, or for one of the mask? -/
def waitsM : List Edge → Nat → Nat → Bool
  | [], _, _ => false
  | e :: r, i, m => match Region.binds .any e with
    | false => waitsM r i m
    | true => match Nat.beq e.on i with
      | true => true
      | false => match Nat.testBit m e.on with
        | true => true
        | false => waitsM r i m

/-- What a look asks of those that are left. -/
def lookOf (ops : Array Oper) (oi : Oper) (done i m : Nat) : List Oper → Nat → Bool
  | [], _ => true
  | o :: r, j => match Nat.testBit m j with
    | true => match Nat.testBit done j with
      | true => false
      | false => match waitsM o.after.toList i m with
        | true => lookOf ops oi done i m r (j + 1)
        | false => false
    | false => match Nat.beq j i with
      | true => lookOf ops oi done i m r (j + 1)
      | false => match Nat.testBit done j with
        | true => lookOf ops oi done i m r (j + 1)
        | false => match isMild o with
          | true => match Oper.apart ops oi o with
            | true => lookOf ops oi done i m r (j + 1)
            | false => false
          | false => false

/-- No operation that is left, but i and those of the mask, may come now. -/
def aloneX (done ex i : Nat) : List Oper → Nat → Bool
  | [], _ => true
  | o :: r, j => match Nat.beq j i with
    | true => aloneX done ex i r (j + 1)
    | false => match Nat.testBit done j with
      | true => aloneX done ex i r (j + 1)
      | false => match Nat.testBit ex j with
        | true => aloneX done ex i r (j + 1)
        | false => match predsIn o.after.toList done with
          | true => false
          | false => aloneX done ex i r (j + 1)

/-- By the guard: it is done, or left out. -/
def xsG (n : Nat) (ops : Array Oper) (o : Oper) (st : St) (go skip : St → Prop) : Prop :=
  match o.guard with
  | none => go st
  | some (j, want) => match ops.toList[j]? with
    | none => False
    | some oj => match oj.dst with
      | none => False
      | some d => match Nat.blt d n with
        | false => False
        | true => match st.get d with
          | .v (.bool b) => xsIf b
              (match want with
                | true => go (st.put d (.v (.bool true)))
                | false => skip (st.put d (.v (.bool true))))
              (match want with
                | true => skip (st.put d (.v (.bool false)))
                | false => go (st.put d (.v (.bool false))))
          | .v (.tuple _) => skip st
          | _ => False

def isLoad (o : Oper) : Bool :=
  match o.op with
  | .load _ _ => true
  | _ => false

def xsD (P : Program) (H : Hn) (n : Nat) (ops : Array Oper) (wr : List Nat) : Sq → Nat → Nat → St → Heap → (St → Heap → Prop) → Prop
  | .nil, done, ex, st, h, K => match Nat.beq ex 0 with
    | false => False
    | true => match allIn done ops.toList 0 with
      | true => K st h
      | false => False
  | .q i r, done, ex, st, h, K => match Nat.beq ex 0 with
    | false => False
    | true => match ops.toList[i]? with
      | none => False
      | some o => match Nat.testBit done i with
        | true => False
        | false => match predsIn o.after.toList done with
          | false => False
          | true => xsG n ops o st
            (fun st' => match quiet P wr o st' with
              | true => match freeOf ops o done i ops.toList 0 with
                | true => xsOper P H o st' h (xsPut n o.dst fun st' h' => xsD P H n ops wr r (done ||| 2 ^ i) 0 st' h' K)
                | false => False
              | false => match alone done i ops.toList 0 with
                | true => match storeOk wr st' o with
                  | true => xsOper P H o st' h (xsPut n o.dst fun st' h' => xsD P H n ops wr r (done ||| 2 ^ i) 0 st' h' K)
                  | false => False
                | false => False)
            (fun st' => match freeOf ops o done i ops.toList 0 with
              | true => xsPut n o.dst (fun st' h' => xsD P H n ops wr r (done ||| 2 ^ i) 0 st' h' K) (.v undef) st' h
              | false => False)
  | .ld i m r, done, ex, st, h, K => match Nat.beq ex 0 with
    | false => False
    | true => match ops.toList[i]? with
      | none => False
      | some o => match Nat.testBit done i with
        | true => False
        | false => match predsIn o.after.toList done with
          | false => False
          | true => match isLoad o with
            | false => False
            | true => match lookOf ops o done i m ops.toList 0 with
              | false => False
              | true => xsG n ops o st (fun st' => xsOper P H o st' h (xsPut n o.dst fun st' h' => xsD P H n ops wr r (done ||| 2 ^ i) 0 st' h' K))
                  (fun st' => xsPut n o.dst (fun st' h' => xsD P H n ops wr r (done ||| 2 ^ i) 0 st' h' K) (.v undef) st' h)
  | .br i a b, done, ex, st, h, K => match Nat.beq b.len (a.len + 1) with
    | false => False
    | true => match ops.toList[i]? with
      | none => False
      | some o => match Nat.testBit done i with
        | true => False
        | false => match predsIn o.after.toList done with
          | false => False
          | true => xsG n ops o st
              (fun st' => match storeOk wr st' o with
                | true => xsOper P H o st' h (xsPut n o.dst fun st' h' => xsD P H n ops wr a (done ||| 2 ^ i) 0 st' h' K)
                | false => False)
              (fun st' => xsPut n o.dst (fun st' h' => xsD P H n ops wr a (done ||| 2 ^ i) 0 st' h' K) (.v undef) st' h) ∧
            xsD P H n ops wr b done (ex ||| 2 ^ i) st h K
  | .one i a, done, ex, st, h, K => match ops.toList[i]? with
    | none => False
    | some o => match Nat.testBit done i with
      | true => False
      | false => match predsIn o.after.toList done with
        | false => False
        | true => match aloneX done ex i ops.toList 0 with
          | false => False
          | true => xsG n ops o st
              (fun st' => match storeOk wr st' o with
                | true => xsOper P H o st' h (xsPut n o.dst fun st' h' => xsD P H n ops wr a (done ||| 2 ^ i) 0 st' h' K)
                | false => False)
              (fun st' => xsPut n o.dst (fun st' h' => xsD P H n ops wr a (done ||| 2 ^ i) 0 st' h' K) (.v undef) st' h)

/-! That it is so. -/

structure Listed (ops : Array Oper) (done : Nat) (l : Array Bool) : Prop where
  size : l.size = ops.size
  bit : ∀ j, j < ops.size → ∀ d, l.getD j d = Nat.testBit done j

theorem predsIn_ok {ops : Array Oper} {done : Nat} {l : Array Bool} (hl : Listed ops done l) (es : List Edge) (h : predsIn es done = true) : ∀ e, e ∈ es → Region.binds .any e = true → e.on < ops.size → l.getD e.on false = true := by
  induction es with
  | nil => intro e he; cases he
  | cons x r ih =>
    unfold predsIn at h
    intro e he hb hlt
    split at h
    · rename_i hx
      rcases List.mem_cons.1 he with rfl | he
      · rw [hb] at hx; cases hx
      · exact ih h e he hb hlt
    · split at h
      · rename_i ht
        rcases List.mem_cons.1 he with rfl | he
        · rw [hl.bit _ hlt]; exact ht
        · exact ih h e he hb hlt
      · cases h

/-- Edges lead to operations of the region. -/
def edgesIn (n : Nat) : List Edge → Bool
  | [] => true
  | e :: r => match Nat.blt e.on n with
    | true => edgesIn n r
    | false => false

def edgesOk (n : Nat) : List Oper → Bool
  | [] => true
  | o :: r => match edgesIn n o.after.toList with
    | true => edgesOk n r
    | false => false

theorem edgesIn_ok {n : Nat} (es : List Edge) (h : edgesIn n es = true) : ∀ e, e ∈ es → e.on < n := by
  induction es with
  | nil => intro e he; cases he
  | cons x r ih =>
    unfold edgesIn at h
    split at h
    · rename_i hb
      intro e he
      rcases List.mem_cons.1 he with rfl | he
      · exact blt_lt hb
      · exact ih h e he
    · cases h

theorem edgesOk_ok {n : Nat} (l : List Oper) (h : edgesOk n l = true) : ∀ o, o ∈ l → ∀ e, e ∈ o.after.toList → e.on < n := by
  induction l with
  | nil => intro o ho; cases ho
  | cons x r ih =>
    unfold edgesOk at h
    split at h
    · rename_i hb
      intro o ho
      rcases List.mem_cons.1 ho with rfl | ho
      · exact edgesIn_ok _ hb
      · exact ih h o ho
    · cases h

theorem predsIn_of {ops : Array Oper} {done : Nat} {l : Array Bool} (hl : Listed ops done l) (es : List Edge) (hlt : ∀ e, e ∈ es → e.on < ops.size) (h : ∀ e, e ∈ es → Region.binds .any e = true → l.getD e.on false = true) : predsIn es done = true := by
  induction es with
  | nil => rfl
  | cons x r ih =>
    unfold predsIn
    have ih' := ih (fun e he => hlt e (by simp [he])) (fun e he => h e (by simp [he]))
    cases hb : Region.binds .any x with
    | false => exact ih'
    | true =>
      have := h x (by simp) hb
      rw [hl.bit _ (hlt x (by simp))] at this
      dsimp only
      rw [this]; exact ih'

theorem ready_of {ops : Array Oper} {done i : Nat} {o : Oper} {l : Array Bool} (hl : Listed ops done l) (he : edgesOk ops.size ops.toList = true) (ho : ops[i]? = some o) (hd : Nat.testBit done i = false) (hp : predsIn o.after.toList done = true) :
    i ∈ Region.ready .any ops l := by
  rw [mem_ready]
  have hlt : i < ops.size := (Array.getElem?_eq_some_iff.1 ho).1
  refine ⟨by rw [hl.bit i hlt]; exact hd, o, ho, ?_⟩
  intro e hm hb
  have hm' : e ∈ o.after.toList := by simpa using hm
  exact predsIn_ok hl _ hp e hm' hb (edgesOk_ok _ he o (by simpa using Array.mem_of_getElem? ho) e hm')

theorem not_ready {ops : Array Oper} {done j : Nat} {o : Oper} {l : Array Bool} (hl : Listed ops done l) (he : edgesOk ops.size ops.toList = true) (ho : ops[j]? = some o) (hr : j ∈ Region.ready .any ops l) :
    Nat.testBit done j = false ∧ predsIn o.after.toList done = true := by
  rw [mem_ready] at hr
  obtain ⟨h0, o', ho', hall⟩ := hr
  rw [ho] at ho'
  cases ho'
  have hlt : j < ops.size := (Array.getElem?_eq_some_iff.1 ho).1
  rw [hl.bit j hlt] at h0
  refine ⟨h0, predsIn_of hl _ ?_ ?_⟩
  · exact edgesOk_ok _ he o (by simpa using Array.mem_of_getElem? ho)
  · intro e hm; exact hall e (by simpa using hm)

theorem alone_ok {done i : Nat} (l : List Oper) : ∀ (k : Nat), alone done i l k = true → ∀ j o, l[j]? = some o → k + j ≠ i → Nat.testBit done (k + j) = true ∨ predsIn o.after.toList done = false := by
  induction l with
  | nil => intro k _ j o h; cases h
  | cons x r ih =>
    intro k h j o hj hne
    unfold alone at h
    cases j with
    | zero =>
      simp only [List.getElem?_cons_zero, Option.some.injEq] at hj
      subst hj
      simp only [Nat.add_zero] at hne ⊢
      rw [beq_ne hne] at h
      dsimp only at h
      cases ht : Nat.testBit done k with
      | true => exact .inl rfl
      | false =>
        rw [ht] at h
        dsimp only at h
        cases hp : predsIn x.after.toList done with
        | true => rw [hp] at h; cases h
        | false => exact .inr rfl
    | succ j =>
      simp only [List.getElem?_cons_succ] at hj
      have e : k + (j + 1) = (k + 1) + j := by omega
      rw [e] at hne ⊢
      refine ih (k + 1) ?_ j o hj hne
      split at h
      · exact h
      · split at h
        · exact h
        · split at h
          · cases h
          · exact h

theorem freeOf_ok {ops : Array Oper} {oi : Oper} {done i : Nat} (l : List Oper) : ∀ (k : Nat), freeOf ops oi done i l k = true → ∀ j o, l[j]? = some o → k + j ≠ i →
    Nat.testBit done (k + j) = true ∨ waitsFor o.after.toList i = true ∨ Oper.apart ops oi o = true := by
  induction l with
  | nil => intro k _ j o h; cases h
  | cons x r ih =>
    intro k h j o hj hne
    unfold freeOf at h
    cases j with
    | zero =>
      simp only [List.getElem?_cons_zero, Option.some.injEq] at hj
      subst hj
      simp only [Nat.add_zero] at hne ⊢
      rw [beq_ne hne] at h
      dsimp only at h
      cases ht : Nat.testBit done k with
      | true => exact .inl rfl
      | false =>
        rw [ht] at h
        dsimp only at h
        cases hp : waitsFor x.after.toList i with
        | true => exact .inr (.inl rfl)
        | false =>
          rw [hp] at h
          dsimp only at h
          cases ha : Oper.apart ops oi x with
          | true => exact .inr (.inr rfl)
          | false => rw [ha] at h; cases h
    | succ j =>
      simp only [List.getElem?_cons_succ] at hj
      have e : k + (j + 1) = (k + 1) + j := by omega
      rw [e] at hne ⊢
      refine ih (k + 1) ?_ j o hj hne
      split at h
      · exact h
      · split at h
        · exact h
        · split at h
          · exact h
          · split at h
            · exact h
            · cases h

theorem waitsM_ok (es : List Edge) (i m : Nat) (h : waitsM es i m = true) : ∃ e, e ∈ es ∧ Region.binds .any e = true ∧ (e.on = i ∨ Nat.testBit m e.on = true) := by
  induction es with
  | nil => cases h
  | cons x r ih =>
    unfold waitsM at h
    split at h
    · obtain ⟨e, he, hb⟩ := ih h; exact ⟨e, by simp [he], hb⟩
    · rename_i hx
      split at h
      · rename_i hb; exact ⟨x, by simp, hx, .inl (beq_eq.1 hb)⟩
      · split at h
        · rename_i hm; exact ⟨x, by simp, hx, .inr hm⟩
        · obtain ⟨e, he, hb⟩ := ih h; exact ⟨e, by simp [he], hb⟩

theorem lookOf_ok {ops : Array Oper} {oi : Oper} {done i m : Nat} (l : List Oper) : ∀ (k : Nat), lookOf ops oi done i m l k = true → ∀ j o, l[j]? = some o →
    (Nat.testBit m (k + j) = true → Nat.testBit done (k + j) = false ∧ waitsM o.after.toList i m = true) ∧
    (Nat.testBit m (k + j) = false → k + j ≠ i → Nat.testBit done (k + j) = false → Oper.apart ops oi o = true ∧ isMild o = true) := by
  induction l with
  | nil => intro k _ j o h; cases h
  | cons x r ih =>
    intro k h j o hj
    unfold lookOf at h
    cases j with
    | succ j =>
      simp only [List.getElem?_cons_succ] at hj
      have e : k + (j + 1) = (k + 1) + j := by omega
      rw [e]
      refine ih (k + 1) ?_ j o hj
      split at h
      · split at h
        · cases h
        · split at h
          · exact h
          · cases h
      · split at h
        · exact h
        · split at h
          · exact h
          · split at h
            · split at h
              · exact h
              · cases h
            · cases h
    | zero =>
      simp only [List.getElem?_cons_zero, Option.some.injEq] at hj
      subst hj
      simp only [Nat.add_zero]
      split at h
      · rename_i hm
        rw [hm]
        refine ⟨fun _ => ?_, fun e => by cases e⟩
        split at h
        · cases h
        · rename_i hd
          split at h
          · rename_i hw; exact ⟨hd, hw⟩
          · cases h
      · rename_i hm
        rw [hm]
        refine ⟨fun e => (by cases e), fun _ hne hd => ?_⟩
        rw [beq_ne hne] at h
        dsimp only at h
        rw [hd] at h
        dsimp only at h
        split at h
        · rename_i hs
          split at h
          · rename_i ha; exact ⟨ha, hs⟩
          · cases h
        · cases h

/-- Beyond the region's operations the mask has nothing. -/
theorem aloneX_ok {done ex i : Nat} (l : List Oper) : ∀ (k : Nat), aloneX done ex i l k = true → ∀ j o, l[j]? = some o → k + j ≠ i → Nat.testBit done (k + j) = true ∨ Nat.testBit ex (k + j) = true ∨ predsIn o.after.toList done = false := by
  induction l with
  | nil => intro k _ j o h; cases h
  | cons x r ih =>
    intro k h j o hj hne
    unfold aloneX at h
    cases j with
    | zero =>
      simp only [List.getElem?_cons_zero, Option.some.injEq] at hj
      subst hj
      simp only [Nat.add_zero] at hne ⊢
      rw [beq_ne hne] at h
      dsimp only at h
      cases ht : Nat.testBit done k with
      | true => exact .inl rfl
      | false =>
        rw [ht] at h
        dsimp only at h
        cases hx : Nat.testBit ex k with
        | true => exact .inr (.inl rfl)
        | false =>
          rw [hx] at h
          dsimp only at h
          cases hp : predsIn x.after.toList done with
          | true => rw [hp] at h; cases h
          | false => exact .inr (.inr rfl)
    | succ j =>
      simp only [List.getElem?_cons_succ] at hj
      have e : k + (j + 1) = (k + 1) + j := by omega
      rw [e] at hne ⊢
      refine ih (k + 1) ?_ j o hj hne
      split at h
      · exact h
      · split at h
        · exact h
        · split at h
          · exact h
          · split at h
            · cases h
            · exact h

theorem waitsFor_ok (es : List Edge) (i : Nat) (h : waitsFor es i = true) : ∃ e, e ∈ es ∧ Region.binds .any e = true ∧ e.on = i := by
  induction es with
  | nil => cases h
  | cons x r ih =>
    unfold waitsFor at h
    split at h
    · obtain ⟨e, he, hb⟩ := ih h; exact ⟨e, by simp [he], hb⟩
    · rename_i hx
      split at h
      · rename_i hb; exact ⟨x, by simp, hx, beq_eq.1 hb⟩
      · obtain ⟨e, he, hb⟩ := ih h; exact ⟨e, by simp [he], hb⟩

theorem noSel_ok (l : List Oper) (h : noSel l = true) : ∀ o, o ∈ l → ∀ cs b, o.op ≠ .select cs b := by
  induction l with
  | nil => intro o ho; cases ho
  | cons x r ih =>
    unfold noSel at h
    split at h
    · cases h
    · rename_i hx
      intro o ho cs b e
      rcases List.mem_cons.1 ho with rfl | ho
      · exact hx cs b e
      · exact ih h o ho cs b e

theorem allIn_ok {done : Nat} (l : List Oper) : ∀ k, allIn done l k = true → ∀ j, j < l.length → Nat.testBit done (k + j) = true := by
  induction l with
  | nil => intro k _ j h; cases h
  | cons x r ih =>
    intro k h j hj
    unfold allIn at h
    split at h
    · rename_i ht
      cases j with
      | zero => exact ht
      | succ j =>
        have := ih (k + 1) h j (by simpa using hj)
        rw [show k + (j + 1) = (k + 1) + j by omega]; exact this
    · cases h

theorem Listed.set {ops : Array Oper} {done i : Nat} {l : Array Bool} (hl : Listed ops done l) (hi : i < ops.size) : Listed ops (done ||| 2 ^ i) (l.setIfInBounds i true) := by
  refine ⟨by simp [hl.size], ?_⟩
  intro j hj d
  rw [Nat.testBit_or, Nat.testBit_two_pow]
  by_cases e : i = j
  · subst e
    have : i < l.size := by rw [hl.size]; exact hi
    simp [this]
  · rw [getD_set_ne d e, hl.bit j hj]
    simp [e]

/-- What is true of every world in the region. -/
def Held (wr : List Nat) (st0 : St) (β0 : Nat → Nat) (w0 : World) (w : World) : Prop :=
  ∀ k, st0.pget k ≠ none → memN wr k = false → w.heap[β0 k]? = w0.heap[β0 k]?

structure InvD (n : Nat) (wr : List Nat) (st0 : St) (β0 : Nat → Nat) (h0 : Heap) (w0 : World) (st : St) (β : Nat → Nat) (h : Heap) (a : Act) (w : World) : Prop where
  rep : Rep n st h β a w
  mid : Mid st0 β0 h0 w0 st β h w
  held : Held wr st0 β0 w0 w
  kept : ∀ k, st0.pget k ≠ none → memN wr k = false → st.pget k = st0.pget k ∧ β k = β0 k

theorem Mid.trans {st st' st'' : St} {β β' β'' : Nat → Nat} {h h' h'' : Heap} {w w' w'' : World} (m : Mid st β h w st' β' h' w') (p : Mid st' β' h' w' st'' β'' h'' w'') : Mid st β h w st'' β'' h'' w'' := by
  refine ⟨Nat.le_trans m.size p.size, ?_, ?_, ?_, p.os.trans m.os, p.output.trans m.output, p.tape.trans m.tape⟩
  · intro k hk hn hp
    rw [← m.frame k hk hn hp]
    refine p.frame k (Nat.lt_of_lt_of_le hk m.size) ?_ ?_
    · cases hh : h' k with
      | none => rfl
      | some o =>
        rcases m.dom k (by rw [hh]; simp) with h1 | h1
        · exact absurd hn h1
        · omega
    · intro i hi e
      rcases m.pdom i hi with ⟨j, hj, hb⟩ | hb
      · exact hp j hj (by rw [← hb, e])
      · omega
  · intro k hk
    rcases p.dom k hk with h1 | h1
    · exact m.dom k h1
    · have := m.size; exact .inr (by omega)
  · intro i hi
    rcases p.pdom i hi with ⟨j, hj, hb⟩ | hb
    · rcases m.pdom j hj with ⟨j', hj', hb'⟩ | hb'
      · exact .inl ⟨j', hj', by rw [hb, hb']⟩
      · exact .inr (by rw [hb]; exact hb')
    · have := m.size; exact .inr (by omega)

theorem InvD.step {n : Nat} {wr : List Nat} {st0 : St} {β0 : Nat → Nat} {h0 : Heap} {w0 : World} {st st' : St} {β β' : Nat → Nat} {h h' : Heap} {a : Act} {w w' : World} {ex : Option Nat}
    (i : InvD n wr st0 β0 h0 w0 st β h a w) (rep : Rep n st' h' β' a w') (mid : Mid st β h w st' β' h' w') (kp : KeepP st β w st' β' w' ex) (hex : ∀ k, ex = some k → memN wr k = true) :
    InvD n wr st0 β0 h0 w0 st' β' h' a w' := by
  have key : ∀ k, st0.pget k ≠ none → memN wr k = false → st'.pget k = st.pget k ∧ β' k = β k ∧ w'.heap[β k]? = w.heap[β k]? := by
    intro k hk hm
    refine kp k ?_ ?_
    · rw [(i.kept k hk hm).1]; exact hk
    · intro e; have := hex k e; rw [hm] at this; cases this
  refine ⟨rep, i.mid.trans mid, ?_, ?_⟩
  · intro k hk hm
    obtain ⟨h1, h2, h3⟩ := key k hk hm
    rw [(i.kept k hk hm).2] at h3
    rw [h3]; exact i.held k hk hm
  · intro k hk hm
    obtain ⟨h1, h2, h3⟩ := key k hk hm
    obtain ⟨g1, g2⟩ := i.kept k hk hm
    exact ⟨h1.trans g1, h2.trans g2⟩

theorem InvD.put {n : Nat} {wr : List Nat} {st0 : St} {β0 : Nat → Nat} {h0 : Heap} {w0 : World} {st : St} {β : Nat → Nat} {h : Heap} {a : Act} {w : World}
    (i : InvD n wr st0 β0 h0 w0 st β h a w) {d : Nat} (hd : d < n) {x : XV} {v : Value} (hx : x.is β v) (hp : ∀ k off, x = .p k off → st.pget k ≠ none) :
    InvD n wr st0 β0 h0 w0 (st.put d x) β h (a.put (some d) v) w :=
  ⟨i.rep.put hd hx hp, ⟨i.mid.size, i.mid.frame, i.mid.dom, i.mid.pdom, i.mid.os, i.mid.output, i.mid.tape⟩, i.held, i.kept⟩

theorem InvD.putSame {n : Nat} {wr : List Nat} {st0 : St} {β0 : Nat → Nat} {h0 : Heap} {w0 : World} {st : St} {β : Nat → Nat} {h : Heap} {a : Act} {w : World}
    (i : InvD n wr st0 β0 h0 w0 st β h a w) {d : Nat} {x : XV} (hd : st.get d = x) : InvD n wr st0 β0 h0 w0 (st.put d x) β h a w := by
  have hg : ∀ u, (st.put d x).get u = st.get u := by
    intro u
    rw [get_put]
    split
    · rename_i e; rw [← e, hd]
    · rfl
  refine ⟨⟨i.rep.size, ?_, ?_, i.rep.priv, i.rep.inj, i.rep.sub, i.rep.defers⟩, ⟨i.mid.size, i.mid.frame, i.mid.dom, i.mid.pdom, i.mid.os, i.mid.output, i.mid.tape⟩, i.held, i.kept⟩
  · intro t; rw [hg]; exact i.rep.env t
  · intro t k off; rw [hg]; exact i.rep.held t k off

theorem KeepP.of_post {n : Nat} {st : St} {h h' : Heap} {β : Nat → Nat} {a : Act} {w w' : World} (r : Rep n st h β a w) (p : Post h w h' w') (ex : Option Nat) : KeepP st β w st β w' ex := by
  intro k hk _
  obtain ⟨cs, hcs⟩ := Option.ne_none_iff_exists'.1 hk
  exact ⟨rfl, rfl, p.frame _ (r.lt hcs) (r.priv k cs hcs).1⟩

theorem yielded_of' {n : Nat} {st : St} {h : Heap} {β : Nat → Nat} {a : Act} {w : World} (r : Rep n st h β a w) {ops : Array Oper} {j d : Nat} {oj : Oper} (hj : ops[j]? = some oj) (hd : oj.dst = some d) {b : Bool} (hg : st.get d = .v (.bool b)) :
    yielded ops a.tmps j = some b := by
  unfold yielded
  rw [hj]
  simp only [Option.bind_some, hd]
  rcases r.env d with h1 | ⟨y, hy, hi⟩
  · rw [hg] at h1; cases h1
  · rw [hg] at hi
    have : y = .bool b := hi
    rw [hy, this]

theorem yielded_none' {n : Nat} {st : St} {h : Heap} {β : Nat → Nat} {a : Act} {w : World} (r : Rep n st h β a w) {ops : Array Oper} {j d : Nat} {oj : Oper} (hj : ops[j]? = some oj) (hd : oj.dst = some d) {vs : Array Value} (hg : st.get d = .v (.tuple vs)) :
    yielded ops a.tmps j = none := by
  unfold yielded
  rw [hj]
  simp only [Option.bind_some, hd]
  rcases r.env d with h1 | ⟨y, hy, hi⟩
  · rw [hg] at h1; cases h1
  · rw [hg] at hi
    have : y = .tuple vs := hi
    rw [hy, this]

section
variable {P : Program} {H : Hn} {f n : Nat} {ops : Array Oper} {wr : List Nat}

/-- What the region is to end in. -/
def EndD (n : Nat) (wr : List Nat) (st0 : St) (β0 : Nat → Nat) (h0 : Heap) (w0 : World) (K : St → Heap → Prop) : Exit → Act → World → Prop :=
  fun e a w => e = .normal ∧ ∃ st β h, InvD n wr st0 β0 h0 w0 st β h a w ∧ K st h

theorem hQ_end {st0 : St} {β0 : Nat → Nat} {h0 : Heap} {w0 : World} {K : St → Heap → Prop} {dst : Option Tmp} {v : Value} :
    ∀ c a w, EndD n wr st0 β0 h0 w0 K (.panic c) (a.put dst v) w → EndD n wr st0 β0 h0 w0 K (.panic c) a w := fun _ _ _ h => by cases h.1

theorem quiet_yields {st0 : St} {β0 : Nat → Nat} {h0 : Heap} {w0 : World} {st : St} {β : Nat → Nat} {h : Heap} {a : Act} {w : World} {o : Oper} {K : XV → St → Heap → Prop}
    (i : InvD n wr st0 β0 h0 w0 st β h a w) (hq : quiet P wr o st = true) (hk : xsOper P H o st h K) (hinit : ∀ k, st.pget k ≠ none → memN wr k = false → st0.pget k ≠ none) :
    ∃ x v, (∀ w', Held wr st0 β0 w0 w' → (execOp a.eval o).run P w' = .ok (.value v) w') ∧ XV.is β x v ∧ (∀ k off, x = .p k off → st.pget k ≠ none) ∧ K x st h := by
  unfold quiet at hq
  split at hq
  · rename_i hp
    obtain ⟨x, v, hv, hx, hpp, hkx⟩ := xsQuiet_ok hp i.rep hk
    exact ⟨x, v, fun w' _ => hv w', hx, hpp, hkx⟩
  · split at hq
    · rename_i t x ho
      split at hq
      · rename_i k off hx
        split at hq
        · cases hq
        · rename_i hm
          have hkk := xsOper_load ho hk
          have hx' : a.eval x = .pointer (some ⟨β k, off, none⟩) := by
            have := i.rep.is x; rw [hx] at this; exact this
          have hpk := i.rep.heldOp hx
          obtain ⟨cs, hcs⟩ := Option.ne_none_iff_exists'.1 hpk
          have hst0 := hinit k hpk hm
          -- every world in the region holds the block
          have hrep : ∀ w', Held wr st0 β0 w0 w' → ∃ T, w'.heap[β k]? = some (.cells cs.toArray T (0, 0)) := by
            intro w' hw'
            obtain ⟨_, T, hT⟩ := i.rep.priv k cs hcs
            refine ⟨T, ?_⟩
            rw [(i.kept k hst0 hm).2] at hT ⊢
            rw [hw' k hst0 hm, ← i.held k hst0 hm, hT]
          rw [hx] at hkk
          obtain ⟨v, hv, hkv⟩ := xsLoadP_ok hcs hkk
          refine ⟨.v v, v, ?_, rfl, (fun _ _ e => by cases e), hkv⟩
          intro w' hw'
          obtain ⟨T, hT⟩ := hrep w' hw'
          unfold execOp; rw [ho]
          refine run_v ?_
          rw [hx']
          exact hv _ _ ⟨T, hT⟩
      · cases hq
    · cases hq

theorem testBit_or_pow {ex i j : Nat} (h : Nat.testBit ex j = false) (hne : j ≠ i) : Nat.testBit (ex ||| 2 ^ i) j = false := by
  rw [Nat.testBit_or, Nat.testBit_two_pow, h]
  simp; exact fun e => hne e.symm

/-- By the guard. -/
theorem xsG_ok {st0 : St} {β0 : Nat → Nat} {h0 : Heap} {w0 : World} {st : St} {β : Nat → Nat} {h : Heap} {a : Act} {w : World} {o : Oper} {go skip : St → Prop}
    (inv : InvD n wr st0 β0 h0 w0 st β h a w) (hk : xsG n ops o st go skip) :
    ∃ st', InvD n wr st0 β0 h0 w0 st' β h a w ∧ (∀ k, st'.pget k = st.pget k) ∧ ((Region.wanted o (yielded ops a.tmps) = true ∧ go st') ∨ (Region.wanted o (yielded ops a.tmps) = false ∧ skip st')) := by
  unfold xsG at hk
  split at hk
  · rename_i hg
    exact ⟨st, inv, fun _ => rfl, .inl ⟨by simp [Region.wanted, hg], hk⟩⟩
  · rename_i j want hg
    split at hk
    · exact hk.elim
    rename_i oj hoj
    have hoj' : ops[j]? = some oj := by rw [← Array.getElem?_toList]; exact hoj
    split at hk
    · exact hk.elim
    rename_i d hd
    split at hk
    · exact hk.elim
    split at hk
    · rename_i b hb
      have hy := yielded_of' inv.rep hoj' hd hb
      obtain ⟨ht, hf⟩ := xsIf_iff.1 hk
      clear hk
      cases b with
      | true =>
        have hk := ht rfl
        have inv1 := inv.putSame hb
        cases want with
        | true => exact ⟨_, inv1, fun _ => rfl, .inl ⟨by simp [Region.wanted, hg, hy], hk⟩⟩
        | false => exact ⟨_, inv1, fun _ => rfl, .inr ⟨by simp [Region.wanted, hg, hy], hk⟩⟩
      | false =>
        have hk := hf rfl
        have inv1 := inv.putSame hb
        cases want with
        | true => exact ⟨_, inv1, fun _ => rfl, .inr ⟨by simp [Region.wanted, hg, hy], hk⟩⟩
        | false => exact ⟨_, inv1, fun _ => rfl, .inl ⟨by simp [Region.wanted, hg, hy], hk⟩⟩
    · rename_i vs hb
      have hy := yielded_none' inv.rep hoj' hd hb
      exact ⟨st, inv, fun _ => rfl, .inr ⟨by simp [Region.wanted, hg, hy], hk⟩⟩
    · exact hk.elim

theorem xsD_ok {st0 : St} {β0 : Nat → Nat} {h0 : Heap} {w0 : World} {K : St → Heap → Prop} (hns : noSel ops.toList = true) (hed : edgesOk ops.size ops.toList = true) (l : Sq) :
    ∀ (done ex : Nat) (listed : Array Bool) (st : St) (β : Nat → Nat) (h : Heap) (a : Act) (w : World), Listed ops done listed → InvD n wr st0 β0 h0 w0 st β h a w →
      (∀ k, st.pget k ≠ none → memN wr k = false → st0.pget k ≠ none) → xsD P H n ops wr l done ex st h K →
      (ex = 0 → wpAnyH P .any ops (EndD n wr st0 β0 h0 w0 K) (Held wr st0 β0 w0) l.len listed a w) ∧
      (∀ j ∈ Region.ready .any ops listed, Nat.testBit ex j = false → wpOp P ops (EndD n wr st0 β0 h0 w0 K) j (fun a' w' => Held wr st0 β0 w0 w' ∧ wpAnyH P .any ops (EndD n wr st0 β0 h0 w0 K) (Held wr st0 β0 w0) (l.len - 1) (listed.setIfInBounds j true) a' w') a w) := by
  have hsel : ∀ (j : Nat) (o : Oper) cs b, ops[j]? = some o → o.op ≠ .select cs b := fun j o cs b ho => noSel_ok _ hns o (by simpa using Array.mem_of_getElem? ho) cs b
  -- the rest, behind a value that went into its slot
  have hnext : ∀ (r : Sq), (∀ (done ex : Nat) (listed : Array Bool) (st : St) (β : Nat → Nat) (h : Heap) (a : Act) (w : World), Listed ops done listed → InvD n wr st0 β0 h0 w0 st β h a w →
      (∀ k, st.pget k ≠ none → memN wr k = false → st0.pget k ≠ none) → xsD P H n ops wr r done ex st h K →
      (ex = 0 → wpAnyH P .any ops (EndD n wr st0 β0 h0 w0 K) (Held wr st0 β0 w0) r.len listed a w) ∧
      (∀ j ∈ Region.ready .any ops listed, Nat.testBit ex j = false → wpOp P ops (EndD n wr st0 β0 h0 w0 K) j (fun a' w' => Held wr st0 β0 w0 w' ∧ wpAnyH P .any ops (EndD n wr st0 β0 h0 w0 K) (Held wr st0 β0 w0) (r.len - 1) (listed.setIfInBounds j true) a' w') a w)) →
      ∀ (done i : Nat) (listed : Array Bool) (o : Oper) (hl' : Listed ops (done ||| 2 ^ i) (listed.setIfInBounds i true)) (st' : St) (β' : Nat → Nat) (h' : Heap) (a' : Act) (w' : World) (x : XV) (v : Value), InvD n wr st0 β0 h0 w0 st' β' h' a' w' → (∀ k, st'.pget k ≠ none → memN wr k = false → st0.pget k ≠ none) → x.is β' v → (∀ k off, x = .p k off → st'.pget k ≠ none) →
        xsPut n o.dst (fun st' h' => xsD P H n ops wr r (done ||| 2 ^ i) 0 st' h' K) x st' h' →
        wpAnyH P .any ops (EndD n wr st0 β0 h0 w0 K) (Held wr st0 β0 w0) r.len (listed.setIfInBounds i true) (a'.put o.dst v) w' := by
    intro r ih done i listed o hl' st' β' h' a' w' x v inv' hin' hx hp hput
    unfold xsPut at hput
    cases hd : o.dst with
    | none => rw [hd] at hput; exact (ih _ _ _ _ _ _ _ _ hl' inv' hin' hput).1 rfl
    | some d =>
      rw [hd] at hput
      dsimp only at hput
      cases hb : Nat.blt d n with
      | false => rw [hb] at hput; exact hput.elim
      | true =>
        rw [hb] at hput
        exact (ih _ _ _ _ _ _ _ _ hl' (inv'.put (blt_lt hb) hx hp) hin' hput).1 rfl
  -- what is free
  have hfree : ∀ (done i : Nat) (listed : Array Bool) (o : Oper), Listed ops done listed → freeOf ops o done i ops.toList 0 = true → ∀ j oj, ops[j]? = some oj → j ≠ i → listed.getD j true = false → (∀ e ∈ oj.after, Region.binds .any e = true → e.on ≠ i) → o.apart ops oj = true := by
    intro done i listed o hl hf j oj hj hne hun hno
    have hjlt : j < ops.size := (Array.getElem?_eq_some_iff.1 hj).1
    rw [hl.bit j hjlt] at hun
    rcases freeOf_ok _ 0 hf j oj (by simpa using hj) (by simpa using hne) with h1 | h1 | h1
    · rw [Nat.zero_add] at h1; rw [h1] at hun; cases hun
    · obtain ⟨e, he, hb, hon⟩ := waitsFor_ok _ _ h1
      exact absurd hon (hno e (by simpa using he) hb)
    · exact h1
  -- one step of whatever kind
  have hstep : ∀ (r : Sq), (∀ (done ex : Nat) (listed : Array Bool) (st : St) (β : Nat → Nat) (h : Heap) (a : Act) (w : World), Listed ops done listed → InvD n wr st0 β0 h0 w0 st β h a w →
      (∀ k, st.pget k ≠ none → memN wr k = false → st0.pget k ≠ none) → xsD P H n ops wr r done ex st h K →
      (ex = 0 → wpAnyH P .any ops (EndD n wr st0 β0 h0 w0 K) (Held wr st0 β0 w0) r.len listed a w) ∧
      (∀ j ∈ Region.ready .any ops listed, Nat.testBit ex j = false → wpOp P ops (EndD n wr st0 β0 h0 w0 K) j (fun a' w' => Held wr st0 β0 w0 w' ∧ wpAnyH P .any ops (EndD n wr st0 β0 h0 w0 K) (Held wr st0 β0 w0) (r.len - 1) (listed.setIfInBounds j true) a' w') a w)) →
      ∀ (done i : Nat) (listed : Array Bool) (o : Oper) (ho' : ops[i]? = some o) (hl' : Listed ops (done ||| 2 ^ i) (listed.setIfInBounds i true)) (st' : St) (β : Nat → Nat) (h : Heap) (a : Act) (w : World), InvD n wr st0 β0 h0 w0 st' β h a w → (∀ k, st'.pget k ≠ none → memN wr k = false → st0.pget k ≠ none) → Region.wanted o (yielded ops a.tmps) = true → storeOk wr st' o = true →
        xsOper P H o st' h (xsPut n o.dst fun st' h' => xsD P H n ops wr r (done ||| 2 ^ i) 0 st' h' K) →
        wpOp P ops (EndD n wr st0 β0 h0 w0 K) i (fun a' w' => Held wr st0 β0 w0 w' ∧ wpAnyH P .any ops (EndD n wr st0 β0 h0 w0 K) (Held wr st0 β0 w0) r.len (listed.setIfInBounds i true) a' w') a w := by
    intro r ih done i listed o ho' hl' st' β h a w inv' hin' hw hst hs
    unfold wpOp
    rw [ho']
    dsimp only
    rw [if_pos hw]
    refine .inl ?_
    have hout := xsOper_ok inv'.rep hs
    unfold Oper.wp
    cases hout with
    | val nx v x st'' h'' β'' w'' run hnx hx rep mid hp kp nw hput =>
      have hex : ∀ k, storeTo st' o = some k → memN wr k = true := by
        intro k hk'
        unfold storeOk at hst
        rw [hk'] at hst; exact hst
      have hne : ∀ k, newTo o = some k → memN wr k = true := by
        intro k hk'
        have hs0 : storeTo st' o = none := by
          unfold newTo at hk'
          unfold storeTo
          split at hk'
          · rename_i ho2; rw [ho2]
          · rename_i ho2; rw [ho2]
          · cases hk'
        unfold storeOk at hst
        rw [hs0, hk'] at hst; exact hst
      have inv'' := inv'.step rep mid kp hex
      have hin'' : ∀ k, st''.pget k ≠ none → memN wr k = false → st0.pget k ≠ none := by
        intro k hk' hm
        rcases nw k hk' with h1 | h1
        · exact hin' k h1 hm
        · have := hne k h1; rw [hm] at this; cases this
      have hres := hnext r ih done i listed o hl' _ _ _ _ _ x v inv'' hin'' hx hp hput
      rw [run]
      rcases hnx with rfl | ⟨rfl, rfl⟩
      · exact ⟨inv''.held, hres⟩
      · exact ⟨inv''.held, hres⟩
    | call g args run hc =>
      rw [run]
      refine (hc w inv'.rep.sub).mono ?_
      rintro e w'' ⟨v, h'', rfl, hput, p⟩
      have inv'' := inv'.step (inv'.rep.world p) (Mid.of_post p) (KeepP.of_post inv'.rep p none) (fun _ e => by cases e)
      exact ⟨inv''.held, hnext r ih done i listed o hl' _ _ _ _ _ (.v v) v inv'' hin' rfl (fun _ _ e => by cases e) hput⟩
  -- one that is left out
  have hleft : ∀ (r : Sq), (∀ (done ex : Nat) (listed : Array Bool) (st : St) (β : Nat → Nat) (h : Heap) (a : Act) (w : World), Listed ops done listed → InvD n wr st0 β0 h0 w0 st β h a w →
      (∀ k, st.pget k ≠ none → memN wr k = false → st0.pget k ≠ none) → xsD P H n ops wr r done ex st h K →
      (ex = 0 → wpAnyH P .any ops (EndD n wr st0 β0 h0 w0 K) (Held wr st0 β0 w0) r.len listed a w) ∧
      (∀ j ∈ Region.ready .any ops listed, Nat.testBit ex j = false → wpOp P ops (EndD n wr st0 β0 h0 w0 K) j (fun a' w' => Held wr st0 β0 w0 w' ∧ wpAnyH P .any ops (EndD n wr st0 β0 h0 w0 K) (Held wr st0 β0 w0) (r.len - 1) (listed.setIfInBounds j true) a' w') a w)) →
      ∀ (done i : Nat) (listed : Array Bool) (o : Oper) (ho' : ops[i]? = some o) (hl' : Listed ops (done ||| 2 ^ i) (listed.setIfInBounds i true)) (st' : St) (β : Nat → Nat) (h : Heap) (a : Act) (w : World), InvD n wr st0 β0 h0 w0 st' β h a w → (∀ k, st'.pget k ≠ none → memN wr k = false → st0.pget k ≠ none) → Region.wanted o (yielded ops a.tmps) = false →
        xsPut n o.dst (fun st' h' => xsD P H n ops wr r (done ||| 2 ^ i) 0 st' h' K) (.v undef) st' h →
        wpOp P ops (EndD n wr st0 β0 h0 w0 K) i (fun a' w' => Held wr st0 β0 w0 w' ∧ wpAnyH P .any ops (EndD n wr st0 β0 h0 w0 K) (Held wr st0 β0 w0) r.len (listed.setIfInBounds i true) a' w') a w := by
    intro r ih done i listed o ho' hl' st' β h a w inv' hin' hw hs
    unfold wpOp
    rw [ho']
    dsimp only
    rw [if_neg (by rw [hw]; simp)]
    exact ⟨inv'.held, hnext r ih done i listed o hl' _ _ _ _ _ (.v undef) undef inv' hin' rfl (fun _ _ e => by cases e) hs⟩
  induction l with
  | nil =>
    intro done ex listed st β h a w hl inv hinit hk
    unfold xsD at hk
    split at hk
    · exact hk.elim
    split at hk
    · rename_i hall
      have hr : Region.ready .any ops listed = [] := by
        rw [List.eq_nil_iff_forall_not_mem]
        intro j hj
        have hj' := hj
        rw [mem_ready] at hj'
        obtain ⟨h1, o, ho, _⟩ := hj'
        have hlt : j < ops.size := (Array.getElem?_eq_some_iff.1 ho).1
        rw [hl.bit j hlt] at h1
        have := allIn_ok _ 0 hall j (by simpa using hlt)
        rw [Nat.zero_add] at this
        rw [this] at h1; cases h1
      refine ⟨fun _ => wpAnyH_done hr ⟨rfl, st, β, h, inv, hk⟩ 0, fun j hj => ?_⟩
      rw [hr] at hj; cases hj
    · exact hk.elim
  | q i r ih =>
    intro done ex listed st β h a w hl inv hinit hk
    unfold xsD at hk
    split at hk
    · exact hk.elim
    rename_i hex0
    have hex0 := beq_eq.1 hex0
    subst hex0
    suffices hmain : wpAnyH P .any ops (EndD n wr st0 β0 h0 w0 K) (Held wr st0 β0 w0) (r.len + 1) listed a w from ⟨fun _ => hmain, fun j hj _ => hmain.2 j hj⟩
    split at hk
    · exact hk.elim
    rename_i o ho
    have ho' : ops[i]? = some o := by rw [← Array.getElem?_toList]; exact ho
    have hlt : i < ops.size := (Array.getElem?_eq_some_iff.1 ho').1
    split at hk
    · exact hk.elim
    rename_i hbit
    split at hk
    · exact hk.elim
    rename_i hpre
    have hready := ready_of hl hed ho' hbit hpre
    have hl' := hl.set hlt
    obtain ⟨st', inv', hpg, hcase⟩ := xsG_ok inv hk
    have hin' : ∀ k, st'.pget k ≠ none → memN wr k = false → st0.pget k ≠ none := fun k hk => hinit k (by rw [← hpg]; exact hk)
    rcases hcase with ⟨hw, hs⟩ | ⟨hw, hs⟩
    · split at hs
      · rename_i hq
        split at hs
        · rename_i hf
          obtain ⟨x, v, hv, hx, hp, hput⟩ := quiet_yields inv' hq hs hin'
          exact wpAnyH_first ho' hsel hQ_end r.len listed a w (hfree done i listed o hl hf) hready (.inl ⟨hw, hv⟩) inv'.held (hnext r ih done i listed o hl' _ _ _ _ _ x v inv' hin' hx hp hput)
        · exact hs.elim
      · split at hs
        · rename_i hal
          split at hs
          · rename_i hst
            have hall : ∀ j ∈ Region.ready .any ops listed, j = i := by
              intro j hj
              by_cases e : j = i
              · exact e
              · have hj' := hj
                rw [mem_ready] at hj'
                obtain ⟨_, oj, hoj, _⟩ := hj'
                obtain ⟨h1, h2⟩ := not_ready hl hed hoj hj
                rcases alone_ok _ 0 hal j oj (by simpa using hoj) (by simpa using e) with h3 | h3
                · rw [Nat.zero_add] at h3; rw [h3] at h1; cases h1
                · rw [h3] at h2; cases h2
            refine ⟨fun he => (by rw [he] at hready; cases hready), ?_⟩
            intro j hj
            obtain rfl := hall j hj
            exact hstep r ih done j listed o ho' hl' st' β h a w inv' hin' hw hst hs
          · exact hs.elim
        · exact hs.elim
    · split at hs
      · rename_i hf
        exact wpAnyH_first ho' hsel hQ_end r.len listed a w (hfree done i listed o hl hf) hready (.inr ⟨hw, rfl⟩) inv'.held (hnext r ih done i listed o hl' _ _ _ _ _ (.v undef) undef inv' hin' rfl (fun _ _ e => by cases e) hs)
      · exact hs.elim
  | ld i m r ih =>
    intro done ex listed st β h a w hl inv hinit hk
    unfold xsD at hk
    split at hk
    · exact hk.elim
    rename_i hex0
    have hex0 := beq_eq.1 hex0
    subst hex0
    suffices hmain : wpAnyH P .any ops (EndD n wr st0 β0 h0 w0 K) (Held wr st0 β0 w0) (r.len + 1) listed a w from ⟨fun _ => hmain, fun j hj _ => hmain.2 j hj⟩
    split at hk
    · exact hk.elim
    rename_i o ho
    have ho' : ops[i]? = some o := by rw [← Array.getElem?_toList]; exact ho
    have hlt : i < ops.size := (Array.getElem?_eq_some_iff.1 ho').1
    split at hk
    · exact hk.elim
    rename_i hbit
    split at hk
    · exact hk.elim
    rename_i hpre
    split at hk
    · exact hk.elim
    rename_i hld
    split at hk
    · exact hk.elim
    rename_i hlook
    have hready := ready_of hl hed ho' hbit hpre
    have hl' := hl.set hlt
    have hlk := fun j oj (hj : ops[j]? = some oj) => lookOf_ok _ 0 hlook j oj (by simpa using hj)
    simp only [Nat.zero_add] at hlk
    have h1 : ∀ j oj, ops[j]? = some oj → Nat.testBit m j = true → ∃ e ∈ oj.after, Region.binds .any e = true ∧ (e.on = i ∨ Nat.testBit m e.on = true) := by
      intro j oj hj hm
      obtain ⟨e, he, hb, hon⟩ := waitsM_ok _ _ _ ((hlk j oj hj).1 hm).2
      exact ⟨e, by simpa using he, hb, hon⟩
    have h2 : ∀ j, Nat.testBit m j = true → listed.getD j false = false := by
      intro j hm
      rcases Nat.lt_or_ge j ops.size with hj | hj
      · rw [hl.bit j hj]
        exact ((hlk j ops[j] (by simp [hj])).1 hm).1
      · simp [Array.getElem?_eq_none (show listed.size ≤ j by rw [hl.size]; exact hj)]
    have h3 : ∀ j oj, ops[j]? = some oj → j ≠ i → listed.getD j true = false → Nat.testBit m j = false → o.apart ops oj = true ∧ isMild oj = true := by
      intro j oj hj hne hun hm
      have hjlt : j < ops.size := (Array.getElem?_eq_some_iff.1 hj).1
      rw [hl.bit j hjlt] at hun
      exact (hlk j oj hj).2 hm hne hun
    obtain ⟨st', inv', hpg, hcase⟩ := xsG_ok inv hk
    have hin' : ∀ k, st'.pget k ≠ none → memN wr k = false → st0.pget k ≠ none := fun k hk => hinit k (by rw [← hpg]; exact hk)
    rcases hcase with ⟨hw, hs⟩ | ⟨hw, hs⟩
    · unfold isLoad at hld
      split at hld
      · rename_i t x hop
        have hs := xsOper_load hop hs
        obtain ⟨v, hv, hput⟩ := xsLoad_all (W := Ext w) (fun k cs hk w2 hx => by obtain ⟨_, T, hT⟩ := inv'.rep.priv k cs hk; exact ⟨T, hx _ _ hT⟩) (fun w2 hx k o hk => hx _ _ (inv'.rep.sub k o hk)) (inv'.rep.is x) hs
        refine wpAnyH_look (w0 := w) (late := fun j => Nat.testBit m j) ho' hsel hQ_end r.len listed a w h1 h2 h3 hready (Ext.refl w) (.inl ⟨hw, fun w2 e => ?_⟩) inv'.held (hnext r ih done i listed o hl' _ _ _ _ _ (.v v) v inv' hin' rfl (fun _ _ e => by cases e) hput)
        unfold execOp; rw [hop]
        exact run_v (hv w2 e)
      · cases hld
    · exact wpAnyH_look (w0 := w) (late := fun j => Nat.testBit m j) ho' hsel hQ_end r.len listed a w h1 h2 h3 hready (Ext.refl w) (.inr ⟨hw, rfl⟩) inv'.held (hnext r ih done i listed o hl' _ _ _ _ _ (.v undef) undef inv' hin' rfl (fun _ _ e => by cases e) hs)
  | one i r ih =>
    intro done ex listed st β h a w hl inv hinit hk
    unfold xsD at hk
    split at hk
    · exact hk.elim
    rename_i o ho
    have ho' : ops[i]? = some o := by rw [← Array.getElem?_toList]; exact ho
    have hlt : i < ops.size := (Array.getElem?_eq_some_iff.1 ho').1
    split at hk
    · exact hk.elim
    rename_i hbit
    split at hk
    · exact hk.elim
    rename_i hpre
    split at hk
    · exact hk.elim
    rename_i hal
    have hready := ready_of hl hed ho' hbit hpre
    have hl' := hl.set hlt
    suffices hmain : (∀ j ∈ Region.ready .any ops listed, Nat.testBit ex j = false → wpOp P ops (EndD n wr st0 β0 h0 w0 K) j (fun a' w' => Held wr st0 β0 w0 w' ∧ wpAnyH P .any ops (EndD n wr st0 β0 h0 w0 K) (Held wr st0 β0 w0) r.len (listed.setIfInBounds j true) a' w') a w) from
      ⟨fun e => ⟨fun he => (by rw [he] at hready; cases hready), fun j hj => hmain j hj (by subst e; simp)⟩, hmain⟩
    intro j hj hjx
    have hji : j = i := by
      by_cases e : j = i
      · exact e
      · have hj' := hj
        rw [mem_ready] at hj'
        obtain ⟨_, oj, hoj, _⟩ := hj'
        obtain ⟨h1, h2⟩ := not_ready hl hed hoj hj
        rcases aloneX_ok _ 0 hal j oj (by simpa using hoj) (by simpa using e) with h3 | h3 | h3
        · rw [Nat.zero_add] at h3; rw [h3] at h1; cases h1
        · rw [Nat.zero_add] at h3; rw [h3] at hjx; cases hjx
        · rw [h3] at h2; cases h2
    subst hji
    obtain ⟨st', inv', hpg, hcase⟩ := xsG_ok inv hk
    have hin' : ∀ k, st'.pget k ≠ none → memN wr k = false → st0.pget k ≠ none := fun k hk => hinit k (by rw [← hpg]; exact hk)
    rcases hcase with ⟨hw, hs⟩ | ⟨hw, hs⟩
    · split at hs
      · rename_i hst
        exact hstep r ih done j listed o ho' hl' st' β h a w inv' hin' hw hst hs
      · exact hs.elim
    · exact hleft r ih done j listed o ho' hl' st' β h a w inv' hin' hw hs
  | br i r s ih ihs =>
    intro done ex listed st β h a w hl inv hinit hk
    unfold xsD at hk
    split at hk
    · exact hk.elim
    rename_i hlen
    have hlen := beq_eq.1 hlen
    split at hk
    · exact hk.elim
    rename_i o ho
    have ho' : ops[i]? = some o := by rw [← Array.getElem?_toList]; exact ho
    have hlt : i < ops.size := (Array.getElem?_eq_some_iff.1 ho').1
    split at hk
    · exact hk.elim
    rename_i hbit
    split at hk
    · exact hk.elim
    rename_i hpre
    obtain ⟨hk, hk2⟩ := hk
    have hready := ready_of hl hed ho' hbit hpre
    have hl' := hl.set hlt
    suffices hmain : (∀ j ∈ Region.ready .any ops listed, Nat.testBit ex j = false → wpOp P ops (EndD n wr st0 β0 h0 w0 K) j (fun a' w' => Held wr st0 β0 w0 w' ∧ wpAnyH P .any ops (EndD n wr st0 β0 h0 w0 K) (Held wr st0 β0 w0) r.len (listed.setIfInBounds j true) a' w') a w) from
      ⟨fun e => ⟨fun he => (by rw [he] at hready; cases hready), fun j hj => hmain j hj (by subst e; simp)⟩, hmain⟩
    intro j hj hjx
    by_cases hji : j = i
    · subst hji
      obtain ⟨st', inv', hpg, hcase⟩ := xsG_ok inv hk
      have hin' : ∀ k, st'.pget k ≠ none → memN wr k = false → st0.pget k ≠ none := fun k hk => hinit k (by rw [← hpg]; exact hk)
      rcases hcase with ⟨hw, hs⟩ | ⟨hw, hs⟩
      · split at hs
        · rename_i hst
          exact hstep r ih done j listed o ho' hl' st' β h a w inv' hin' hw hst hs
        · exact hs.elim
      · exact hleft r ih done j listed o ho' hl' st' β h a w inv' hin' hw hs
    · have := (ihs _ _ _ _ _ _ _ _ hl inv hinit hk2).2 j hj (testBit_or_pow hjx hji)
      rw [hlen, Nat.add_sub_cancel] at this
      exact this

/-- The region, in whatever order. -/
theorem TW.draw {id : Nat} {k : List Item} {st : St} {h : Heap} {Q : Value → Heap → Prop} {K : St → Heap → Prop} (order : Sq) (hm : P.follows .mixedOrders = true) (hns : noSel ops.toList = true) (hed : edgesOk ops.size ops.toList = true)
    (hlen : order.len = ops.size) (hK : ∀ st h, K st h → TW P f n k st h Q) (hk : xsD P H n ops wr order 0 0 st h K) : TW P f n (.code (.region id ops true) :: k) st h Q := by
  refine .regionDraw fun c => ?_
  intro β a w r cs
  have hl : Listed ops 0 (Array.replicate ops.size false) := by
    refine ⟨by simp, ?_⟩
    intro j hj d
    simp [hj]
  have inv : InvD n wr st β h w st β h a w := ⟨r, Mid.refl _ _ _ _, fun _ _ _ => rfl, fun _ _ _ => ⟨rfl, rfl⟩⟩
  have h1 := (xsD_ok (P := P) (H := H) (K := K) hns hed order 0 0 _ st β h a w hl inv (fun k hk _ => hk) hk).1 rfl
  have h2 := wpAny_of_held _ _ _ _ h1
  rw [hlen] at h2
  have h3 := wpAny_sound ops.size c (Array.replicate ops.size false) a w h2
  have hsch : Region.schedule (P.follows .mixedOrders) ops c = Region.linearise.go .any ops ops.size c (Array.replicate ops.size false) [] := by
    simp only [Region.schedule, hm, Bool.true_or, if_true]; rfl
  rw [hsch]
  obtain ⟨e, a', w', ⟨rfl, st', β', h', inv', hkk⟩, harr⟩ := wp_ops _ a w h3 (baseF f) k cs
  obtain ⟨v, h'', w'', fr, q, p, hs, hlv⟩ := hK _ _ hkk β' a' w' inv'.rep cs
  exact ⟨v, h'', w'', fr, q, inv'.mid.post p, Steps.trans harr hs, hlv⟩

end

end Go.Gb
