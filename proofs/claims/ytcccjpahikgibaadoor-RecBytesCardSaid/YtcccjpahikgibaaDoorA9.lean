/- Own texts for the seat: GbLib. -/
import Derived.Test.YtcccjpahikgibaaDoorA8
import Derived.Lib.UnsafeStr
set_option linter.unusedVariables false
set_option linter.unusedSimpArgs false
set_option linter.unnecessarySimpa false
set_option linter.deprecated false
namespace Go.Gb

/-! Ranges over strings; what strings.Builder does with its bytes. -/

def isStr (P : Program) (t : TypeId) : Bool :=
  match P.underlying t with
  | some .string => true
  | _ => false

/-- append of so many zero elements: what slices.Grow does. Only where the slice must grow. -/
def isInt (P : Program) (t : TypeId) : Bool :=
  match P.underlying t with
  | some (.int _) => true
  | _ => false
def isZeros (P : Program) (ts : List TypeId) : Bool :=
  match ts with
  | [_, t] => isInt P t
  | _ => false

def isLib (P : Program) (o : Op) : Bool :=
  match o with
  | .range t _ => isStr P t
  | .next _ s => s
  | .call c => match c.callee with
    | .builtin .unsafeSliceData => true
    | .builtin .unsafeString => true
    | .builtin .append => isZeros P c.argTypes.toList
    | .builtin .cap => true
    | _ => false
  | _ => false

/-- The rune at a place of a string, and how many bytes it has. -/
def udR (s : ByteArray) (pos : Nat) : Int := (Utf8.decode s pos).1
def udW (s : ByteArray) (pos : Nat) : Nat := (Utf8.decode s pos).2

/-- The next rune of a string. -/
def xsStrNext (h : Heap) (it : Option Addr) (K : Value → Heap → Prop) : Prop :=
  atBase it fun b o => o = 0 ∧ ∃ (s : ByteArray) (pos : Nat), h b = some (.stringIter s pos) ∧
    (pos < s.size → K (.tuple #[.bool true, .int .i64 pos, .int .i32 (udR s pos)]) (upd h b (.stringIter s (pos + udW s pos)))) ∧ (s.size ≤ pos → K (.tuple #[.bool false]) h)

/-- The place of a slice's first byte. -/
def xsSd (a : Option Addr) (c : Nat) (K : Option Addr → Prop) : Prop := (a = none → K none) ∧ (a ≠ none → 0 < c ∧ K a)

/-- Bytes as a string: they are frozen; their block is let go. -/
def xsUs (e : TypeId) (h : Heap) (p : Option Addr) (n : Int) (K : ByteArray → Heap → Prop) : Prop :=
  (n = 0 → K ByteArray.empty h) ∧ (n ≠ 0 → ∃ (g : Nat) (l : List UInt8) (cs : Array Value), p = some ⟨g, 0, none⟩ ∧ (l.length : Int) = n ∧ n ≤ 9223372036854775807 ∧ h g = some (.cells cs e (0, 0)) ∧ l.length ≤ cs.size ∧ (∀ (j : Nat) (x : UInt8), l[j]? = some x → cs[j]? = some (.int .u8 x.toNat)) ∧ K ⟨l.toArray⟩ (h.del g))

def xsUsT (P : Program) (ts : List TypeId) (h : Heap) (p : Option Addr) (n : Int) (K : ByteArray → Heap → Prop) : Prop :=
  match ts with
  | [pt, _] => match P.underlying pt with
    | some (.pointer e) => match Nat.beq (P.cellsOf e) 1 with
      | true => xsUs e h p n K
      | false => False
    | _ => False
  | _ => False

def xsAppZ (P : Program) (T : TypeId) (h : Heap) (a : Option Addr) (n c : Nat) (m : Int) (K : Option Addr → Nat → Nat → Heap → Prop) : Prop :=
  0 < m ∧ m ≤ 281474976710656 ∧ m * (cellBytes P T : Int) ≤ 281474976710656 ∧ c < n + m.toNat ∧ n ≤ 281474976710656 ∧ Builtin.nextslicecap (n + m.toNat) c * cellBytes P T ≤ 2 ^ 48 ∧
    ∃ old : List Value, old.length = n * cellSize P T ∧ readsAt h a old ∧
      ∀ b c', h b = none → n + m.toNat ≤ c' → K (some ⟨b, 0, none⟩) (n + m.toNat) c' (upd h b (.cells (old ++ zeros P T m.toNat ++ zeros P T (c' - (n + m.toNat))).toArray T (0, 0)))

def xsAppZT (P : Program) (ts : List TypeId) (h : Heap) (a : Option Addr) (n c : Nat) (m : Int) (K : Option Addr → Nat → Nat → Heap → Prop) : Prop :=
  match ts with
  | [S, _] => match P.underlying S with
    | some (.slice T) => match rowOk P T with
      | true => xsAppZ P T h a n c m K
      | false => False
    | _ => False
  | _ => False

def xsCapT (P : Program) (ts : List TypeId) (K : Prop) : Prop :=
  match ts with
  | [S] => match P.underlying S with
    | some (.slice _) => K
    | _ => False
  | _ => False

def xsLib (P : Program) (o : Oper) (st : St) (h : Heap) (K : XV → St → Heap → Prop) : Prop :=
  match o.op with
  | .range _ x => match st.opd x with
    | .v (.string s) => ∀ b, h b = none → K (.v (.pointer (some ⟨b, 0, none⟩))) st (upd h b (.stringIter s 0))
    | _ => False
  | .next it _ => match st.opd it with
    | .v (.pointer p) => xsStrNext h p fun v h' => K (.v v) st h'
    | _ => False
  | .call c => match c.callee with
    | .builtin b => match opdList st c.args.toList with
      | some l => match b, l with
        | .unsafeSliceData, [.slice a _ m] => xsSd a m fun p => K (.v (.pointer p)) st h
        | .unsafeString, [.pointer p, .int .i64 m] => xsUsT P c.argTypes.toList h p m fun s h' => K (.v (.string s)) st h'
        | .append, [.slice a n m, .int .i64 x] => xsAppZT P c.argTypes.toList h a n m x fun a' n' c' h' => K (.v (.slice a' n' c')) st h'
        | .cap, [.slice _ _ m] => xsCapT P c.argTypes.toList (K (.v (.int .i64 m)) st h)
        | _, _ => False
      | none => False
    | _ => False
  | _ => False

section
variable {P : Program} {H : Hn} {n : Nat} {o : Oper} {st : St} {h : Heap} {K : XV → St → Heap → Prop} {β : Nat → Nat} {a : Act} {w : World}

/-- A block of the heap is let go. -/
theorem Rep.forget (r : Rep n st h β a w) {b : Nat} (hb : h b ≠ none) {w' : World} (hk : ∀ k, k ≠ b → w'.heap[k]? = w.heap[k]?) : Rep n st (h.del b) β a w' := by
  refine ⟨r.size, r.env, r.held, ?_, r.inj, ?_, r.defers⟩
  · intro k cs hc
    obtain ⟨hn, T, hT⟩ := r.priv k cs hc
    have hne : β k ≠ b := fun e => hb (by rw [← e]; exact hn)
    exact ⟨by unfold Heap.del; rw [if_neg hne]; exact hn, T, (hk _ hne).trans hT⟩
  · intro k o' hk'
    unfold Heap.del at hk'
    by_cases e : k = b
    · rw [if_pos e] at hk'; cases hk'
    · rw [if_neg e] at hk'; rw [hk k e]; exact r.sub k o' hk'
theorem Mid.forget (r : Rep n st h β a w) {b : Nat} (hb : h b ≠ none) {w' : World} (hk : ∀ k, k ≠ b → w'.heap[k]? = w.heap[k]?) (hs : w'.heap.size = w.heap.size) (ho : w'.os = w.os) (hp : w'.output = w.output) (ht : w'.tape = w.tape) : Mid st β h w st β (h.del b) w' := by
  refine ⟨by omega, fun k _ hn _ => hk k fun e => hb (by rw [← e]; exact hn), fun k hk' => ?_, fun i hi => .inl ⟨i, hi, rfl⟩, ho, hp, ht, rfl⟩
  unfold Heap.del at hk'
  by_cases e : k = b
  · rw [if_pos e] at hk'; exact absurd rfl hk'
  · rw [if_neg e] at hk'; exact .inl hk'
theorem KeepP.forget (r : Rep n st h β a w) {b : Nat} (hb : h b ≠ none) {w' : World} (hk : ∀ k, k ≠ b → w'.heap[k]? = w.heap[k]?) (ex : Option Nat) : KeepP st β w st β w' ex := by
  intro k hk' _
  obtain ⟨cs, hcs⟩ := Option.ne_none_iff_exists'.1 hk'
  obtain ⟨hn, _⟩ := r.priv k cs hcs
  exact ⟨rfl, rfl, hk _ fun e => hb (by rw [← e]; exact hn)⟩

theorem storeTo_lib (hm : isLib P o.op = true) : storeTo st o = none := by
  unfold storeTo
  split
  · rename_i ho; rw [ho] at hm; cases hm
  · rfl

theorem OpOut.lib (hm : isLib P o.op = true) {v : Value} {h' : Heap} {w' : World} (run : (execOp a.eval o).run P w = .ok (.value v) w') (rep : Rep n st h' β a w') (mid : Mid st β h w st β h' w') (kp : KeepP st β w st β w' none)
    (hk : K (.v v) st h') : OpOut P n o st h K β a w :=
  .val _ v (.v v) st h' β w' run (.inl rfl) rfl rep mid (fun _ _ e => by cases e) (by rw [storeTo_lib hm]; exact kp) (fun _ hj => .inl hj) hk

theorem run_next_str {w : World} {b : Nat} {s : ByteArray} {pos : Nat} (ty : TypeId) (hk : w.heap[b]? = some (.stringIter s pos)) (h : pos < s.size) :
    (Instr.next (.pointer (some ⟨b, 0, none⟩)) true ty).run P w = .ok (.tuple #[.bool true, .int .i64 pos, .int .i32 (Utf8.decode s pos).1]) { w with heap := w.heap.setIfInBounds b (.stringIter s (pos + (Utf8.decode s pos).2)) } := by
  simp only [Instr.next, getObj, setObj, Sem.run_bind, Sem.run, hk, Result.andThen, h, if_true]
  simp [goInt]
theorem run_next_strEnd {w : World} {b : Nat} {s : ByteArray} {pos : Nat} (ty : TypeId) (hk : w.heap[b]? = some (.stringIter s pos)) (h : ¬ pos < s.size) :
    (Instr.next (.pointer (some ⟨b, 0, none⟩)) true ty).run P w = .ok (.tuple #[.bool false]) w := by
  simp [Instr.next, getObj, Sem.run, hk, h]

theorem freeze_other {w : World} {g n k : Nat} (h : k ≠ g) : (w.freeze ⟨g, 0, none⟩ n).heap[k]? = w.heap[k]? := by
  unfold World.freeze
  split
  · rfl
  · simp [Array.getElem?_modify, Ne.symm h]
theorem freeze_size (w : World) (g n : Nat) : (w.freeze ⟨g, 0, none⟩ n).heap.size = w.heap.size := by
  unfold World.freeze; split <;> simp
theorem freeze_rest (w : World) (g n : Nat) : (w.freeze ⟨g, 0, none⟩ n).os = w.os ∧ (w.freeze ⟨g, 0, none⟩ n).output = w.output ∧ (w.freeze ⟨g, 0, none⟩ n).tape = w.tape := by
  unfold World.freeze; split <;> exact ⟨rfl, rfl, rfl⟩

theorem xsAppZ_ok {nn : Nat} {T S S' : TypeId} {ts : Array TypeId} {rt : TypeId} {st : St} {h : Heap} {β : Nat → Nat} {act : Act} {w : World} {a : Option Addr} {n c : Nat} {m : Int} {K : Option Addr → Nat → Nat → Heap → Prop}
    (r : Rep nn st h β act w) (hts : ts.toList = [S, S']) (hS : P.underlying S = some (.slice T)) {kk : IntKind} (hS' : P.underlying S' = some (.int kk)) (hrow : rowOk P T = true) (hk : xsAppZ P T h a n c m K) :
    ∃ a' n' c' h' w', (Builtin.append_ ts rt #[.slice a n c, .int .i64 m]).run P w = .ok (.slice a' n' c') w' ∧ Rep nn st h' β act w' ∧ Mid st β h w st β h' w' ∧ KeepP st β w st β w' none ∧ K a' n' c' h' := by
  obtain ⟨i, z, hi, hz, hzs, hpos, hbz, e1, e2, e3⟩ := rowOk_ok hrow
  obtain ⟨hm0, hm1, hm2, hlt, hn1, hcap, old, hol, hrold, hkk⟩ := hk
  obtain ⟨k, rfl⟩ : ∃ k : Nat, m = k := ⟨m.toNat, by omega⟩
  rw [Int.toNat_natCast] at *
  rw [e1] at hol
  rw [e3] at hcap hm2
  have t0 : ts[0]? = some S := by rw [← Array.getElem?_toList, hts]; rfl
  have t1 : ts[1]? = some S' := by rw [← Array.getElem?_toList, hts]; rfl
  have hc : ¬ n + k ≤ c := by omega
  have hno : ¬ (Builtin.nextslicecap (n + k) c * i.bytes > 2 ^ 48) := by omega
  have hforced : Question.forced (.appendCap (n + k) c T) = false := rfl
  have hwd : Rep nn st h β act { w with drawn := w.drawn + 1 } := ⟨r.size, r.env, r.held, r.priv, r.inj, r.sub, r.defers⟩
  generalize hcap' : (Question.appendCap (n + k) c T).cut (w.tape w.drawn (.appendCap (n + k) c T)) = c'
  have hge : n + k ≤ c' := by rw [← hcap']; simp [Question.cut]
  have hfree : h w.heap.size = none := r.free
  have hk0 : ¬ (k * i.size = 0) := by
    intro e
    rcases Nat.mul_eq_zero.1 e with e | e
    · omega
    · omega
  have hwr : IntKind.i64.wrap (k : Int) = k := by
    simp only [IntKind.wrap]
    simp (config := { decide := true }) [IntKind.bits, IntKind.signed]
    omega
  have h1 : ¬ ((k : Int) < 0) := by omega
  have h2 : ¬ ((281474976710656 : Int) < (k : Int) * (i.bytes : Int)) := by omega
  have h3 : ¬ ((9223372036854775807 : Int) < (n : Int) + (k : Int)) := by omega
  refine ⟨some ⟨w.heap.size, 0, none⟩, n + k, c', upd h w.heap.size (.cells (old ++ zeros P T k ++ zeros P T (c' - (n + k))).toArray T (0, 0)), ({ w with drawn := w.drawn + 1 } : World).alloc (.cells (old ++ zeros P T k ++ zeros P T (c' - (n + k))).toArray T), ?_, hwd.halloc _, ?_, ?_, hkk _ _ hfree hge⟩
  · have hz0 : ∀ q, Builtin.zeroCells z.cells q = (zeros P T q).toArray := by
      intro q
      rw [zeroCells_eq _ (by omega)]; unfold zeros; rw [e2]
    have hfo2 : (Builtin.firstCells i.size n (.slice a n c)).run P w.drew = .ok old.toArray w.drew := run_firstCells (P := P) (w := { w with drawn := w.drawn + 1 }) (size := i.size) (n := n) (l := n) (c := c) hwd.sub hrold hol
    have hzv : (zeroValue T).run P w.drew = .ok z w.drew := by simp [zeroValue, typeInfo, hi, hz]
    have hnr : ∀ cells, (newRow T cells).run P w.drew = .ok ⟨w.heap.size, 0, none⟩ (w.drew.alloc (.cells cells T)) := by intro cells; simp [newRow]
    simp [Builtin.append_, t0, t1, run_underlying hS, run_underlying hS', run_sizeOf hi, typeInfo, hi, asInt, asIntOf, hwr, h1, h2, h3, hc, hno, hforced, hcap', hk0, hz, hbz]
    rw [hfo2, Result.andThen_ok, hzv, Result.andThen_ok, Result.andThen_ok, hzv, Result.andThen_ok, hz0, hz0, hnr, Result.andThen_ok]
    simp
  · have := Mid.halloc r (.cells (old ++ zeros P T k ++ zeros P T (c' - (n + k))).toArray T (0, 0))
    exact ⟨by simpa using this.size, fun k hk hn hp => by have := this.frame k hk hn hp; exact this, this.dom, this.pdom, rfl, rfl, rfl, rfl⟩
  · intro j hj _
    obtain ⟨cs, hcs⟩ := Option.ne_none_iff_exists'.1 hj
    have := r.lt hcs
    refine ⟨rfl, rfl, ?_⟩
    rw [heap_alloc, if_neg (by show ¬ β j = w.heap.size; omega)]

theorem xsLib_ok (hm : isLib P o.op = true) (r : Rep n st h β a w) (hk : xsLib P o st h K) : OpOut P n o st h K β a w := by
  unfold xsLib at hk
  split at hk
  · -- range
    rename_i t x ho
    split at hk
    · rename_i s hx
      have hx' := r.val hx
      refine .lib hm (v := .pointer (some ⟨w.heap.size, 0, none⟩)) (w' := w.alloc (.stringIter s 0)) ?_ (r.halloc _) (Mid.halloc r _) (KeepP.halloc r _ none) (hk _ r.free)
      unfold execOp; rw [ho]
      have ht : P.underlying t = some .string := by
        rw [ho] at hm
        unfold isLib isStr at hm
        dsimp only at hm
        split at hm
        · assumption
        · cases hm
      refine run_v ?_
      rw [hx']
      unfold Instr.range
      rw [Sem.run_bind, run_underlying ht, Result.andThen_ok]
      rfl
    · exact hk.elim
  · -- next
    rename_i it s ho
    have hs : s = true := by rw [ho] at hm; exact hm
    subst hs
    split at hk
    · rename_i p hx
      have hx' := r.val hx
      obtain ⟨b, oo, hp, h0, s, pos, hb, h1, h2⟩ := hk
      subst hp h0
      have hw := r.sub _ _ hb
      have hne : h b ≠ none := by rw [hb]; simp
      by_cases hlt : pos < s.size
      · refine .lib hm (w' := { w with heap := w.heap.setIfInBounds b (.stringIter s (pos + (Utf8.decode s pos).2)) }) ?_ (r.hset hne _) (Mid.hset hne _) (KeepP.hset r hne _ none) (h1 hlt)
        unfold execOp; rw [ho]
        refine run_v ?_
        rw [hx']
        exact run_next_str _ hw hlt
      · refine .lib hm (w' := w) ?_ r (Mid.refl _ _ _ _) (KeepP.refl _ _ _ _) (h2 (by omega))
        unfold execOp; rw [ho]
        refine run_v ?_
        rw [hx']
        exact run_next_strEnd _ hw hlt
    · exact hk.elim
  · -- builtins
    rename_i c ho
    split at hk
    · rename_i b hb
      split at hk
      · rename_i l hl
        split at hk
        · rename_i aa nn m
          obtain ⟨h1, h2⟩ := hk
          cases ha : aa with
          | none =>
            refine .lib hm (w' := w) (run_builtin ho hb r hl (v := .pointer none) ?_) r (Mid.refl _ _ _ _) (KeepP.refl _ _ _ _) (h1 ha)
            rw [ha]
            exact run_v (Lib.run_unsafeSliceData_nil _ _ _ _ _)
          | some x =>
            obtain ⟨h3, h4⟩ := h2 (by rw [ha]; simp)
            rw [ha] at h4
            refine .lib hm (w' := w) (run_builtin ho hb r hl (v := .pointer (some x)) ?_) r (Mid.refl _ _ _ _) (KeepP.refl _ _ _ _) h4
            rw [ha]
            exact run_v (Lib.run_unsafeSliceData_row _ _ _ _ _ _ (by omega))
        · rename_i p m
          unfold xsUsT at hk
          split at hk
          · rename_i pt it hts
            split at hk
            · rename_i e hpt
              split at hk
              · rename_i hce
                have hce := Nat.eq_of_beq_eq_true hce
                have hat : c.argTypes = #[pt, it] := by apply Array.ext'; rw [hts]
                obtain ⟨h1, h2⟩ := hk
                by_cases hm0 : m = 0
                · subst hm0
                  refine .lib hm (w' := w) (run_builtin ho hb r hl (v := .string .empty) ?_) r (Mid.refl _ _ _ _) (KeepP.refl _ _ _ _) (h1 rfl)
                  rw [hat]
                  exact run_v (Lib.run_unsafeString_none _ _ _ _ _)
                · obtain ⟨g, lb, cs, hp, hlen, h63, hg, hsz, hcs, hkk⟩ := h2 hm0
                  subst hp
                  have hw := r.sub _ _ hg
                  have hne : h g ≠ none := by rw [hg]; simp
                  have hlb : lb ≠ [] := by intro e; rw [e] at hlen; simp at hlen; omega
                  obtain ⟨f1, f2, f3⟩ := freeze_rest w g lb.length
                  refine .lib hm (w' := w.freeze ⟨g, 0, none⟩ lb.length) (run_builtin ho hb r hl (v := .string ⟨lb.toArray⟩) ?_) (r.forget hne fun k hk => freeze_other hk) (Mid.forget r hne (fun k hk => freeze_other hk) (freeze_size _ _ _) f1 f2 f3) (KeepP.forget r hne (fun k hk => freeze_other hk) none) hkk
                  rw [hat, ← hlen]
                  refine run_v (Lib.run_unsafeString_row w pt it o.type e hpt hce g cs.size (by simp [World.shape?, hw]) lb hlb hsz (by omega) ?_)
                  intro j x hx
                  have hadd : (⟨g, 0, none⟩ : Addr).add j = ⟨g, j, none⟩ := by
                    unfold Addr.add
                    split
                    · rename_i e; rw [e]
                    · simp
                  rw [hadd, cell?_of hw]
                  exact hcs j x hx
              · exact hk.elim
            · exact hk.elim
          · exact hk.elim
        · rename_i aa nn m x
          unfold xsAppZT at hk
          split at hk
          · rename_i S S2 hts
            split at hk
            · rename_i T hS
              split at hk
              · rename_i hrow
                have hz : ∃ kk, P.underlying S2 = some (.int kk) := by
                  rw [ho] at hm
                  unfold isLib at hm
                  dsimp only at hm
                  rw [hb] at hm
                  dsimp only at hm
                  rw [hts] at hm
                  unfold isZeros isInt at hm
                  dsimp only at hm
                  split at hm
                  · rename_i kk e; exact ⟨kk, e⟩
                  · cases hm
                obtain ⟨kk, hS2⟩ := hz
                obtain ⟨a', n', c', h', w', hrun, rep, mid, kp, hkv⟩ := xsAppZ_ok (rt := o.type) r hts hS hS2 hrow hk
                exact .lib hm (w' := w') (run_builtin ho hb r hl (v := .slice a' n' c') (run_v hrun)) rep mid kp hkv
              · exact hk.elim
            · exact hk.elim
          · exact hk.elim
        · rename_i aa nn m
          unfold xsCapT at hk
          split at hk
          · rename_i S hts
            split at hk
            · rename_i T hS
              have h0 : c.argTypes[0]? = some S := by rw [← Array.getElem?_toList, hts]; rfl
              refine .lib hm (w' := w) (run_builtin ho hb r hl (v := .int .i64 m) (run_v ?_)) r (Mid.refl _ _ _ _) (KeepP.refl _ _ _ _) hk
              simp [Builtin.cap_, h0, run_underlying hS, goInt]
            · exact hk.elim
          · exact hk.elim
        · exact hk.elim
      · exact hk.elim
    · exact hk.elim
  · exact hk.elim
end

/-! all operations -/

def xsOper (P : Program) (H : Hn) (o : Oper) (st : St) (h : Heap) (K : XV → St → Heap → Prop) : Prop :=
  match isLib P o.op with
  | true => xsLib P o st h K
  | false => match isMore P o.op with
    | true => xsMore P H o st h K
    | false => xsOper0 P H o st h K

def isQuiet (P : Program) (o : Op) : Bool :=
  match isLib P o with
  | true => false
  | false => match isMore P o with
    | true => false
    | false => isPure P o

theorem xsOper_ok {P : Program} {H : Hn} {n : Nat} {o : Oper} {st : St} {h : Heap} {K : XV → St → Heap → Prop} {β : Nat → Nat} {a : Act} {w : World}
    (r : Rep n st h β a w) (hk : xsOper P H o st h K) : OpOut P n o st h K β a w := by
  unfold xsOper at hk
  split at hk
  · rename_i hm; exact xsLib_ok hm r hk
  · split at hk
    · rename_i hm; exact xsMore_ok hm r hk
    · exact xsOper0_ok r hk

theorem xsQuiet_ok {P : Program} {H : Hn} {n : Nat} {o : Oper} {st : St} {h : Heap} {K : XV → St → Heap → Prop} {β : Nat → Nat} {a : Act} {w : World}
    (hq : isQuiet P o.op = true) (r : Rep n st h β a w) (hk : xsOper P H o st h K) : PureOut P o st h K β a := by
  unfold isQuiet at hq
  split at hq
  · cases hq
  · rename_i hl
    split at hq
    · cases hq
    · rename_i hm
      unfold xsOper at hk
      rw [hl] at hk
      dsimp only at hk
      rw [hm] at hk
      exact xsPure_ok hq r hk

theorem xsOper_load {P : Program} {H : Hn} {o : Oper} {st : St} {h : Heap} {K : XV → St → Heap → Prop} {t : TypeId} {x : Operand} (ho : o.op = .load t x) (hk : xsOper P H o st h K) : xsLoad P H t (st.opd x) st h fun v => K (.v v) st h := by
  unfold xsOper at hk
  rw [ho] at hk
  unfold xsOper0 at hk
  dsimp only [isMore, isLib] at hk
  rw [ho] at hk
  exact hk

end Go.Gb
