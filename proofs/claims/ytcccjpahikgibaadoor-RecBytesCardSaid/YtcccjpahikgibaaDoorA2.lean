/- Own texts for the seat: GbXs GbMem. -/
import Derived.Test.YtcccjpahikgibaaDoorA1
import Derived.Laws.Entries
import Derived.Laws.Sem
set_option linter.unusedVariables false
set_option linter.unusedSimpArgs false
set_option linter.unnecessarySimpa false
set_option linter.deprecated false
namespace Go.Gb

/-! The symbolic executor: what each operation asks and gives. -/

/-- A value's shape, by its type. -/
inductive Sh where
  | int (k : IntKind)
  | bool
  | str
  | ptr
  | sli
  | map
  | any
  | agg (l : List Sh)
  | arr (n : Nat)
  | tup (l : List Sh)

/-- The shapes of a type's cells, one after the other; none: it has no such. -/
def leaves (P : Program) : Nat → TypeId → Option (List Sh)
  | 0, _ => none
  | d + 1, t =>
    match P.underlying t with
    | some (.int k) => some [.int k]
    | some .bool => some [.bool]
    | some .string => some [.str]
    | some (.pointer _) => some [.ptr]
    | some (.slice _) => some [.sli]
    | some (.map _ _) => some [.map]
    | some (.func _ _ _) => some [.any]
    | some (.interface _) => some [.any]
    | some (.struct fs) => fs.toList.foldr (fun f acc => match leaves P d f.type, acc with | some a, some b => some (a ++ b) | _, _ => none) (some [])
    | some (.array n e) => match leaves P d e with
      | some a => some ((List.replicate n a).flatten)
      | none => none
    | _ => none

def isAggD : TypeDesc → Bool
  | .struct _ | .array _ _ => true
  | _ => false

/-- The shape of a type's values. -/
def shape (P : Program) (t : TypeId) : Sh :=
  match P.underlying t with
  | some (.int k) => .int k
  | some .bool => .bool
  | some .string => .str
  | some (.pointer _) => .ptr
  | some (.slice _) => .sli
  | some (.map _ _) => .map
  | some (.struct _) => match leaves P 8 t with | some l => .agg l | none => .any
  | some (.array _ _) => match P.info? t with
    | some i => match Nat.ble i.size 8 with
      | true => match leaves P 8 t with | some l => .agg l | none => .any
      | false => .arr i.size
    | none => .any
  | some (.tuple ts) => .tup (ts.toList.map fun u => match P.underlying u with
    | some (.int k) => .int k
    | some .bool => .bool
    | some .string => .str
    | some (.pointer _) => .ptr
    | some (.slice _) => .sli
    | some (.map _ _) => .map
    | some (.struct _) => match leaves P 8 u with | some l => .agg l | none => .any
    | some (.array _ _) => match P.info? u with
      | some i => match Nat.ble i.size 8 with
        | true => match leaves P 8 u with | some l => .agg l | none => .any
        | false => .arr i.size
      | none => .any
    | _ => .any)
  | _ => .any

/-- A cell's value, told by its shape. -/
def leafK (s : Sh) (c : Option Value) (K : Value → Prop) : Prop :=
  match s with
  | .int k => ∃ x : Int, c = some (.int k x) ∧ K (.int k x)
  | .bool => ∃ x : Bool, c = some (.bool x) ∧ K (.bool x)
  | .str => ∃ x : ByteArray, c = some (.string x) ∧ K (.string x)
  | .ptr => ∃ x : Option Addr, c = some (.pointer x) ∧ K (.pointer x)
  | .sli => ∃ (x : Option Addr) (n m : Nat), c = some (.slice x n m) ∧ K (.slice x n m)
  | .map => ∃ x : Option Nat, c = some (.map x) ∧ K (.map x)
  | _ => ∃ x : Value, c = some x ∧ K x

theorem leafK_ok {s : Sh} {c : Option Value} {K : Value → Prop} (h : leafK s c K) : ∃ v, c = some v ∧ K v := by
  cases s with
  | int k => obtain ⟨x, h1, h2⟩ := h; exact ⟨_, h1, h2⟩
  | bool => obtain ⟨x, h1, h2⟩ := h; exact ⟨_, h1, h2⟩
  | str => obtain ⟨x, h1, h2⟩ := h; exact ⟨_, h1, h2⟩
  | ptr => obtain ⟨x, h1, h2⟩ := h; exact ⟨_, h1, h2⟩
  | sli => obtain ⟨x, n, m, h1, h2⟩ := h; exact ⟨_, h1, h2⟩
  | map => obtain ⟨x, h1, h2⟩ := h; exact ⟨_, h1, h2⟩
  | any => obtain ⟨x, h1, h2⟩ := h; exact ⟨_, h1, h2⟩
  | agg l => obtain ⟨x, h1, h2⟩ := h; exact ⟨_, h1, h2⟩
  | arr n => obtain ⟨x, h1, h2⟩ := h; exact ⟨_, h1, h2⟩
  | tup l => obtain ⟨x, h1, h2⟩ := h; exact ⟨_, h1, h2⟩

/-- Cells' values, one after the other. -/
def leavesK : List Sh → (Nat → Option Value) → Nat → (List Value → Prop) → Prop
  | [], _, _, K => K []
  | s :: r, c, i, K => leafK s (c i) fun v => leavesK r c (i + 1) fun vs => K (v :: vs)

theorem leavesK_ok (l : List Sh) : ∀ (c : Nat → Option Value) (i : Nat) (K : List Value → Prop), leavesK l c i K → ∃ vs, vs.length = l.length ∧ (∀ j, j < vs.length → c (i + j) = vs[j]?) ∧ K vs := by
  induction l with
  | nil => intro c i K h; exact ⟨[], rfl, fun j hj => absurd hj (Nat.not_lt_zero _), h⟩
  | cons s r ih =>
    intro c i K h
    obtain ⟨v, hv, h1⟩ := leafK_ok h
    obtain ⟨vs, hl, hc, hk⟩ := ih c (i + 1) _ h1
    refine ⟨v :: vs, by simp [hl], ?_, hk⟩
    intro j hj
    cases j with
    | zero => simpa using hv
    | succ j =>
      have := hc j (by simpa using hj)
      rw [List.getElem?_cons_succ, ← this]
      congr 1; omega

/-- Some value of a shape. -/
def genL : List Sh → (List Value → Prop) → Prop
  | [], K => K []
  | .int k :: r, K => ∃ x : Int, genL r fun vs => K (.int k x :: vs)
  | .bool :: r, K => ∃ x : Bool, genL r fun vs => K (.bool x :: vs)
  | .str :: r, K => ∃ x : ByteArray, genL r fun vs => K (.string x :: vs)
  | .ptr :: r, K => ∃ x : Option Addr, genL r fun vs => K (.pointer x :: vs)
  | .sli :: r, K => ∃ (x : Option Addr) (n m : Nat), genL r fun vs => K (.slice x n m :: vs)
  | .map :: r, K => ∃ x : Option Nat, genL r fun vs => K (.map x :: vs)
  | _ :: r, K => ∃ x : Value, genL r fun vs => K (x :: vs)

theorem genL_ok (l : List Sh) : ∀ (K : List Value → Prop), genL l K → ∃ vs, K vs := by
  induction l with
  | nil => intro K h; exact ⟨_, h⟩
  | cons s r ih =>
    intro K h
    cases s with
    | int k => obtain ⟨x, h⟩ := h; obtain ⟨vs, h⟩ := ih _ h; exact ⟨_, h⟩
    | bool => obtain ⟨x, h⟩ := h; obtain ⟨vs, h⟩ := ih _ h; exact ⟨_, h⟩
    | str => obtain ⟨x, h⟩ := h; obtain ⟨vs, h⟩ := ih _ h; exact ⟨_, h⟩
    | ptr => obtain ⟨x, h⟩ := h; obtain ⟨vs, h⟩ := ih _ h; exact ⟨_, h⟩
    | sli => obtain ⟨x, n, m, h⟩ := h; obtain ⟨vs, h⟩ := ih _ h; exact ⟨_, h⟩
    | map => obtain ⟨x, h⟩ := h; obtain ⟨vs, h⟩ := ih _ h; exact ⟨_, h⟩
    | any => obtain ⟨x, h⟩ := h; obtain ⟨vs, h⟩ := ih _ h; exact ⟨_, h⟩
    | agg l => obtain ⟨x, h⟩ := h; obtain ⟨vs, h⟩ := ih _ h; exact ⟨_, h⟩
    | arr n => obtain ⟨x, h⟩ := h; obtain ⟨vs, h⟩ := ih _ h; exact ⟨_, h⟩
    | tup l => obtain ⟨x, h⟩ := h; obtain ⟨vs, h⟩ := ih _ h; exact ⟨_, h⟩

def genV (s : Sh) (K : Value → Prop) : Prop :=
  match s with
  | .int k => ∃ x : Int, K (.int k x)
  | .bool => ∃ x : Bool, K (.bool x)
  | .str => ∃ x : ByteArray, K (.string x)
  | .ptr => ∃ x : Option Addr, K (.pointer x)
  | .sli => ∃ (x : Option Addr) (n m : Nat), K (.slice x n m)
  | .map => ∃ x : Option Nat, K (.map x)
  | .agg l => genL l fun vs => K (.agg vs.toArray)
  | .arr n => ∃ cs : List Value, cs.length = n ∧ K (.agg cs.toArray)
  | _ => ∃ x : Value, K x

theorem genV_ok {s : Sh} {K : Value → Prop} (h : genV s K) : ∃ v, K v := by
  cases s with
  | int k => obtain ⟨x, h⟩ := h; exact ⟨_, h⟩
  | bool => obtain ⟨x, h⟩ := h; exact ⟨_, h⟩
  | str => obtain ⟨x, h⟩ := h; exact ⟨_, h⟩
  | ptr => obtain ⟨x, h⟩ := h; exact ⟨_, h⟩
  | sli => obtain ⟨x, n, m, h⟩ := h; exact ⟨_, h⟩
  | map => obtain ⟨x, h⟩ := h; exact ⟨_, h⟩
  | any => obtain ⟨x, h⟩ := h; exact ⟨_, h⟩
  | agg l => obtain ⟨vs, h⟩ := genL_ok l _ h; exact ⟨_, h⟩
  | arr n => obtain ⟨x, _, h⟩ := h; exact ⟨_, h⟩
  | tup l => obtain ⟨x, h⟩ := h; exact ⟨_, h⟩

def genVs : List Sh → (List Value → Prop) → Prop
  | [], K => K []
  | s :: r, K => genV s fun v => genVs r fun vs => K (v :: vs)

theorem genVs_ok (l : List Sh) : ∀ (K : List Value → Prop), genVs l K → ∃ vs, K vs := by
  induction l with
  | nil => intro K h; exact ⟨_, h⟩
  | cons s r ih =>
    intro K h
    obtain ⟨v, h⟩ := genV_ok h
    obtain ⟨vs, h⟩ := ih _ h
    exact ⟨_, h⟩

/-- A call's result, told by its shape. -/
def resK (s : Sh) (r : Value) (K : Value → Prop) : Prop :=
  match s with
  | .tup [] => K r
  | .tup l => genVs l fun vs => r = .tuple vs.toArray ∧ K (.tuple vs.toArray)
  | s => genV s fun v => r = v ∧ K v

theorem resK_ok {s : Sh} {r : Value} {K : Value → Prop} (h : resK s r K) : K r := by
  unfold resK at h
  split at h
  · exact h
  · obtain ⟨vs, e, h2⟩ := genVs_ok _ _ h; rw [e]; exact h2
  · obtain ⟨v, e, h2⟩ := genV_ok h; rw [e]; exact h2

/-- Some cells of a list. -/
def lsub (c : List Value) (o n : Nat) : List Value := (c.drop o).take n

/-- A byte of a string. -/
def bget (s : ByteArray) (i : Nat) : Option UInt8 := s[i]?

/-- A cell of a list. -/
def lget (c : List Value) (i : Nat) : Option Value := c[i]?

/-! Ifs. -/

def xsIf (b : Bool) (x y : Prop) : Prop :=
  match b with
  | true => x
  | false => y

theorem xsIf_iff {b : Bool} {x y : Prop} : xsIf b x y ↔ (b = true → x) ∧ (b = false → y) := by
  cases b <;> simp [xsIf]

theorem xsIf_intro {b : Bool} {x y : Prop} (hx : b = true → x) (hy : b = false → y) : xsIf b x y := xsIf_iff.2 ⟨hx, hy⟩

/-! Numbers. -/

def iand (k : IntKind) (a b : Int) : Int := k.wrap (BitVec.ofInt k.bits a &&& BitVec.ofInt k.bits b).toNat
def ior (k : IntKind) (a b : Int) : Int := k.wrap (BitVec.ofInt k.bits a ||| BitVec.ofInt k.bits b).toNat
def ixor (k : IntKind) (a b : Int) : Int := k.wrap (BitVec.ofInt k.bits a ^^^ BitVec.ofInt k.bits b).toNat
def iandNot (k : IntKind) (a b : Int) : Int := k.wrap (BitVec.ofInt k.bits a &&& ~~~BitVec.ofInt k.bits b).toNat
def ishl (k : IntKind) (a b : Int) : Int := k.wrap (a * 2 ^ (Nat.min b.toNat k.bits))
def ishr (k : IntKind) (a b : Int) : Int := a.fdiv (2 ^ (Nat.min b.toNat k.bits))
def iquo (k : IntKind) (a b : Int) : Int := k.wrap (a.tdiv b)
def irem (a b : Int) : Int := a.tmod b
def inot (k : IntKind) (a : Int) : Int := ixor k (if k.signed then -1 else k.max) a

def same (k k' : IntKind) (X : Prop) : Prop :=
  match decide (k = k') with
  | true => X
  | false => False

theorem same_ok {k k' : IntKind} {X : Prop} (h : same k k' X) : k = k' ∧ X := by
  unfold same at h
  split at h
  · rename_i e; exact ⟨of_decide_eq_true e, h⟩
  · exact h.elim

/-- A constant operand that is a number other than 0. -/
def constNz : Operand → Bool
  | .const (.int _ n) => decide (n ≠ 0)
  | _ => false
/-- A constant operand that is no negative number. -/
def constNn : Operand → Bool
  | .const (.int _ n) => decide (0 ≤ n)
  | _ => false

def when (b : Bool) (c X : Prop) : Prop :=
  match b with
  | true => X
  | false => c ∧ X

def xsBinInt (op : BinOp) (k : IntKind) (a : Int) (k' : IntKind) (b : Int) (nz nn : Bool) (K : Value → Prop) : Prop :=
  match op with
  | .shl => when nn (0 ≤ b) (K (.int k (ishl k a b)))
  | .shr => when nn (0 ≤ b) (K (.int k (ishr k a b)))
  | .add => same k k' (K (.int k (k.wrap (a + b))))
  | .sub => same k k' (K (.int k (k.wrap (a - b))))
  | .mul => same k k' (K (.int k (k.wrap (a * b))))
  | .quo => same k k' (when nz (b ≠ 0) (K (.int k (iquo k a b))))
  | .rem => same k k' (when nz (b ≠ 0) (K (.int k (irem a b))))
  | .and => same k k' (K (.int k (iand k a b)))
  | .or => same k k' (K (.int k (ior k a b)))
  | .xor => same k k' (K (.int k (ixor k a b)))
  | .andNot => same k k' (K (.int k (iandNot k a b)))
  | .eql => same k k' (K (.bool (decide (a = b))))
  | .neq => same k k' (K (.bool (decide (a ≠ b))))
  | .lss => same k k' (K (.bool (decide (a < b))))
  | .leq => same k k' (K (.bool (decide (a ≤ b))))
  | .gtr => same k k' (K (.bool (decide (b < a))))
  | .geq => same k k' (K (.bool (decide (b ≤ a))))

theorem xsBinInt_ok {P : Program} {op : BinOp} {t : TypeId} {k k' : IntKind} {a b : Int} {nz nn : Bool} {K : Value → Prop}
    (hz : nz = true → b ≠ 0) (hn : nn = true → 0 ≤ b) (h : xsBinInt op k a k' b nz nn K) :
    ∃ v, (∀ w, (binOp op t (.int k a) (.int k' b)).run P w = .ok v w) ∧ K v := by
  have hwhen : ∀ {x : Bool} {c X : Prop}, (x = true → c) → when x c X → c ∧ X := by
    intro x c X hc hx
    cases x with
    | true => exact ⟨hc rfl, hx⟩
    | false => exact hx
  cases op
  case shl =>
    obtain ⟨h0, h1⟩ := hwhen hn h
    refine ⟨_, ?_, h1⟩
    have : ¬ b < 0 := by omega
    intro w
    simp [binOp, Op.shift, this, ishl]
  case shr =>
    obtain ⟨h0, h1⟩ := hwhen hn h
    refine ⟨_, ?_, h1⟩
    have : ¬ b < 0 := by omega
    intro w
    simp [binOp, Op.shift, this, ishr]
  case quo =>
    obtain ⟨e, h2⟩ := same_ok h
    subst e
    obtain ⟨h0, h1⟩ := hwhen hz h2
    exact ⟨_, (by intro w; simp [binOp, Op.intDiv, h0, iquo]), h1⟩
  case rem =>
    obtain ⟨e, h2⟩ := same_ok h
    subst e
    obtain ⟨h0, h1⟩ := hwhen hz h2
    exact ⟨_, (by intro w; simp [binOp, Op.intDiv, h0, irem]), h1⟩
  all_goals
    obtain ⟨e, h2⟩ := same_ok h
    subst e
    refine ⟨_, ?_, h2⟩
    intro w
    first
    | (simp [binOp, Op.intArith]; done)
    | (simp [binOp, Op.intBits, iand, ior, ixor, iandNot]; done)
    | (simp [binOp, Op.intCmp]; done)
    | (simp [binOp, Op.intCmp]; rfl)

attribute [irreducible] xsIf

end Go.Gb
namespace Go.Gb

/-! Memory: cells loaded and stored. -/

def Heap.cell (h : Heap) (b o : Nat) : Option Value :=
  match h b with
  | some (.cells c _ _) => c[o]?
  | _ => none

def setL : List Value → Nat → List Value → List Value
  | cs, _, [] => cs
  | cs, o, v :: r => setL (cs.set o v) (o + 1) r

/-- As setL, where a place need not be known. -/
def lput (c : List Value) (o : Nat) (vs : List Value) : List Value := setL c o vs

theorem setL_length (vs : List Value) : ∀ (cs : List Value) (o : Nat), (setL cs o vs).length = cs.length := by
  induction vs with
  | nil => intro cs o; rfl
  | cons v r ih => intro cs o; unfold setL; rw [ih]; simp

def putObj (o : Nat) (vs : List Value) : Obj → Obj
  | .cells c T f => .cells (setL c.toList o vs).toArray T f
  | x => x

def Heap.put (h : Heap) (b o : Nat) (vs : List Value) : Heap := fun k => if k = b then (h b).map (putObj o vs) else h k

/-- So many cells may be written from one on. -/
def Heap.can (h : Heap) (b o n : Nat) : Prop :=
  ∃ c T lo hi, h b = some (.cells c T (lo, hi)) ∧ o + n ≤ c.size ∧ (o + n ≤ lo ∨ hi ≤ o)

def World.putCells (w : World) (b o : Nat) (vs : List Value) : World := { w with heap := w.heap.modify b (putObj o vs) }

theorem World.heap_putCells (w : World) (b o : Nat) (vs : List Value) (k : Nat) : (World.putCells w b o vs).heap[k]? = if k = b then (w.heap[k]?).map (putObj o vs) else w.heap[k]? := by
  unfold World.putCells
  simp only [Array.getElem?_modify]
  by_cases h : b = k
  · subst h; simp
  · rw [if_neg h, if_neg (fun e => h e.symm)]

theorem add_lit (b o i : Nat) : (⟨b, o, none⟩ : Addr).add i = ⟨b, o + i, none⟩ := by
  unfold Addr.add; split
  · rename_i h; subst h; rfl
  · rfl

theorem cell?_of {w : World} {b : Nat} {c : Array Value} {T : TypeId} {f : Nat × Nat} (h : w.heap[b]? = some (.cells c T f)) (o : Nat) : w.cell? ⟨b, o, none⟩ = c[o]? := by
  simp [World.cell?, h]

theorem cell?_sub {h : Heap} {w : World} (hs : Sub h w) {b o : Nat} {v : Value} (hc : h.cell b o = some v) : w.cell? ⟨b, o, none⟩ = some v := by
  unfold Heap.cell at hc
  split at hc
  · rename_i c T f hb
    rw [cell?_of (hs _ _ hb)]; exact hc
  · cases hc

theorem run_load_of {P : Program} {w : World} {b o : Nat} {v : Value} (h : w.cell? ⟨b, o, none⟩ = some v) : (load ⟨b, o, none⟩).run P w = .ok v w := by
  simp [h]

theorem run_loadCellsFrom {P : Program} {w : World} {b o : Nat} (n : Nat) : ∀ (i : Nat) (acc : Array Value) (vs : List Value), vs.length = n →
    (∀ j, j < vs.length → w.cell? ⟨b, o + i + j, none⟩ = vs[j]?) → (loadCellsFrom ⟨b, o, none⟩ i n acc).run P w = .ok (acc ++ vs.toArray) w := by
  induction n with
  | zero =>
    intro i acc vs hl _
    obtain rfl : vs = [] := List.eq_nil_of_length_eq_zero hl
    simp [loadCellsFrom]
  | succ n ih =>
    intro i acc vs hl hc
    cases vs with
    | nil => cases hl
    | cons v r =>
      have h0 := hc 0 (by simp)
      simp only [Nat.add_zero, List.getElem?_cons_zero] at h0
      unfold loadCellsFrom
      rw [Sem.run_bind, add_lit, run_load_of h0, Result.andThen_ok]
      rw [ih (i + 1) (acc.push v) r (by simpa using hl)]
      · congr 1
        simp
      · intro j hj
        have := hc (j + 1) (by simpa using hj)
        rw [List.getElem?_cons_succ] at this
        rw [← this]
        congr 2; omega

theorem run_loadCells {P : Program} {w : World} {b o n : Nat} {vs : List Value} (hl : vs.length = n) (hc : ∀ j, j < vs.length → w.cell? ⟨b, o + j, none⟩ = vs[j]?) :
    (loadCells ⟨b, o, none⟩ n).run P w = .ok vs.toArray w := by
  unfold loadCells
  rw [run_loadCellsFrom n 0 #[] vs hl (by simpa using hc)]
  simp

theorem run_isAgg {P : Program} {w : World} {t : TypeId} {d : TypeDesc} (h : P.underlying t = some d) : (isAgg t).run P w = .ok (isAggD d) w := by
  unfold isAgg
  rw [Sem.run_bind, run_underlying h, Result.andThen_ok]
  cases d <;> simp [isAggD]

theorem run_sizeOf {P : Program} {w : World} {t : TypeId} {i : TypeInfo} (h : P.info? t = some i) : (sizeOf t).run P w = .ok i.size w := by
  simp [sizeOf, typeInfo, h]

theorem run_loadVar_one {P : Program} {w : World} {t : TypeId} {d : TypeDesc} {b o : Nat} {v : Value} (ht : P.underlying t = some d) (hd : isAggD d = false)
    (h : w.cell? ⟨b, o, none⟩ = some v) : (loadVar t ⟨b, o, none⟩).run P w = .ok v w := by
  unfold loadVar
  rw [Sem.run_bind, run_isAgg ht, Result.andThen_ok, hd]
  simp [h]

theorem run_loadVar_agg {P : Program} {w : World} {t : TypeId} {d : TypeDesc} {i : TypeInfo} {b o : Nat} {vs : List Value} (ht : P.underlying t = some d) (hd : isAggD d = true)
    (hi : P.info? t = some i) (hl : vs.length = i.size) (h : ∀ j, j < vs.length → w.cell? ⟨b, o + j, none⟩ = vs[j]?) : (loadVar t ⟨b, o, none⟩).run P w = .ok (.agg vs.toArray) w := by
  unfold loadVar
  rw [Sem.run_bind, run_isAgg ht, Result.andThen_ok, hd]
  simp only [if_true]
  rw [Sem.run_bind, run_sizeOf hi, Result.andThen_ok, Sem.run_bind, run_loadCells hl h]
  simp

def oneCells : List Value → Bool
  | [] => true
  | v :: r => v.oneCell' && oneCells r

theorem run_storeCells {P : Program} (vs : List Value) : ∀ (w : World) (b o i : Nat) (c : Array Value) (T : TypeId) (lo hi : Nat), w.heap[b]? = some (.cells c T (lo, hi)) →
    oneCells vs = true → o + i + vs.length ≤ c.size → (o + i + vs.length ≤ lo ∨ hi ≤ o + i) → (storeCells ⟨b, o, none⟩ vs i).run P w = .ok () (World.putCells w b (o + i) vs) := by
  induction vs with
  | nil =>
    intro w b o i c T lo hi hb _ _ _
    simp only [storeCells, Sem.run_pure]
    congr 1
    unfold World.putCells
    have : w.heap.modify b (putObj (o + i) []) = w.heap := by
      apply Array.ext_getElem?
      intro k
      rw [Array.getElem?_modify]
      split
      · rename_i e; subst e
        rw [hb]; simp [putObj, setL]
      · rfl
    rw [this]
  | cons v r ih =>
    intro w b o i c T lo hi hb h1 hl hf
    simp only [oneCells, Bool.and_eq_true] at h1
    simp only [List.length_cons] at hl hf
    have hlt : o + i < c.size := by omega
    have hcell : w.cell? ⟨b, o + i, none⟩ = some c[o + i] := by rw [cell?_of hb]; simp [hlt]
    have hfz : w.frozen? ⟨b, o + i, none⟩ = false := by
      simp only [World.frozen?, hb]
      simp; omega
    simp only [storeCells]
    rw [Sem.run_bind, add_lit, run_store P w _ v _ h1.1, hcell]
    simp only [hfz, Bool.false_eq_true, if_false, Result.andThen_ok]
    have hb' : (w.setCell ⟨b, o + i, none⟩ v).heap[b]? = some (.cells (c.setIfInBounds (o + i) v) T (lo, hi)) := by
      simp [World.setCell, Array.getElem?_modify, hb]
    rw [ih _ b o (i + 1) _ T lo hi hb' h1.2 (by simp; omega) (by omega)]
    congr 1
    unfold World.putCells World.setCell
    simp only
    congr 1
    apply Array.ext_getElem?
    intro k
    simp only [Array.getElem?_modify]
    split
    · rename_i e; subst e
      rw [hb]
      simp [putObj, setL, Nat.add_assoc]
    · rfl

theorem run_storeVar {P : Program} {w : World} {t : TypeId} {i : TypeInfo} {b o : Nat} {v : Value} {c : Array Value} {T : TypeId} {lo hi : Nat} (hi' : P.info? t = some i)
    (hb : w.heap[b]? = some (.cells c T (lo, hi))) (hs : v.cells.size = i.size) (h1 : oneCells v.cells.toList = true) (hl : o + i.size ≤ c.size) (hf : o + i.size ≤ lo ∨ hi ≤ o) :
    (storeVar t ⟨b, o, none⟩ v).run P w = .ok () (World.putCells w b o v.cells.toList) := by
  unfold storeVar
  rw [Sem.run_bind, run_sizeOf hi', Result.andThen_ok]
  have hz : ¬ (v.cells.size ≠ i.size) := by simpa using hs
  rw [if_neg hz]
  have := run_storeCells (P := P) v.cells.toList w b o 0 c T lo hi hb h1 (by simpa [hs] using hl) (by simpa [hs] using hf)
  simpa using this

/-! What becomes of the state. -/

theorem Rep.lt {n : Nat} {st : St} {h : Heap} {β : Nat → Nat} {a : Act} {w : World} (r : Rep n st h β a w) {k : Nat} {cs : List Value} (hk : st.pget k = some cs) : β k < w.heap.size := by
  obtain ⟨_, T, hT⟩ := r.priv k cs hk
  exact lt_of_heap hT

theorem Rep.free {n : Nat} {st : St} {h : Heap} {β : Nat → Nat} {a : Act} {w : World} (r : Rep n st h β a w) : h w.heap.size = none := by
  cases hh : h w.heap.size with
  | none => rfl
  | some o => have := lt_of_heap (r.sub _ _ hh); omega

theorem heap_alloc (w : World) (o : Obj) (k : Nat) : (w.alloc o).heap[k]? = if k = w.heap.size then some o else w.heap[k]? := by
  show (w.heap.push o)[k]? = _
  rw [Array.getElem?_push]

/-- A new block of the heap. -/
theorem Rep.halloc {n : Nat} {st : St} {h : Heap} {β : Nat → Nat} {a : Act} {w : World} (r : Rep n st h β a w) (o : Obj) : Rep n st (upd h w.heap.size o) β a (w.alloc o) := by
  refine ⟨r.size, r.env, r.held, ?_, r.inj, ?_, r.defers⟩
  · intro k cs hk
    obtain ⟨hn, T, hT⟩ := r.priv k cs hk
    have hl := r.lt hk
    refine ⟨?_, T, ?_⟩
    · unfold upd; rw [if_neg (by omega)]; exact hn
    · rw [heap_alloc, if_neg (by omega)]; exact hT
  · intro k o' hk
    rw [heap_alloc]
    unfold upd at hk
    by_cases e : k = w.heap.size
    · rw [if_pos e] at hk ⊢; exact hk
    · rw [if_neg e] at hk ⊢; exact r.sub k o' hk

theorem Mid.halloc {n : Nat} {st : St} {h : Heap} {β : Nat → Nat} {a : Act} {w : World} (_r : Rep n st h β a w) (o : Obj) : Mid st β h w st β (upd h w.heap.size o) (w.alloc o) := by
  refine ⟨by simp, ?_, ?_, fun i hi => .inl ⟨i, hi, rfl⟩, rfl, rfl, rfl, rfl⟩
  · intro k hk _ _
    rw [heap_alloc, if_neg (by omega)]
  · intro k hk
    unfold upd at hk
    by_cases e : k = w.heap.size
    · exact .inr (by omega)
    · rw [if_neg e] at hk; exact .inl hk

/-- A new block of the function's own. -/
theorem Rep.palloc {n : Nat} {st : St} {h : Heap} {β : Nat → Nat} {a : Act} {w : World} (r : Rep n st h β a w) (d : Nat) (hd : st.pget d = none) (c : Array Value) (T : TypeId) :
    Rep n (st.pput d c.toList) h (fun k => if k = d then w.heap.size else β k) a (w.alloc (.cells c T)) := by
  refine ⟨r.size, ?_, ?_, ?_, ?_, ?_, r.defers⟩
  · intro t
    rw [get_pput]
    rcases r.env t with h1 | ⟨y, hy, hi⟩
    · exact .inl h1
    · right
      refine ⟨y, hy, ?_⟩
      cases hg : st.get t with
      | v x => rw [hg] at hi; exact hi
      | dead => trivial
      | p k off =>
        have hne : k ≠ d := fun e => r.held t k off hg (by rw [e]; exact hd)
        rw [hg] at hi
        simp only [XV.is] at hi ⊢
        rw [if_neg hne]; exact hi
  · intro t k off
    rw [get_pput, pget_pput]
    intro hg
    split
    · simp
    · exact r.held t k off hg
  · intro k cs hk
    rw [pget_pput] at hk
    by_cases e : d = k
    · subst e
      rw [if_pos rfl] at hk
      cases hk
      simp only [if_true]
      refine ⟨r.free, T, ?_⟩
      rw [heap_alloc, if_pos rfl]
    · rw [if_neg e] at hk
      obtain ⟨hn, T', hT⟩ := r.priv k cs hk
      have hl := r.lt hk
      have e' : ¬ k = d := fun x => e x.symm
      simp only [if_neg e']
      refine ⟨hn, T', ?_⟩
      rw [heap_alloc, if_neg (by omega)]; exact hT
  · intro i j hi hj
    rw [pget_pput] at hi hj
    intro he
    by_cases ei : i = d
    · by_cases ej : j = d
      · rw [ei, ej]
      · simp only [if_pos ei, if_neg ej] at he
        rw [if_neg (fun x => ej x.symm)] at hj
        obtain ⟨cs, hcs⟩ := Option.ne_none_iff_exists'.1 hj
        have := r.lt hcs
        omega
    · by_cases ej : j = d
      · simp only [if_neg ei, if_pos ej] at he
        rw [if_neg (fun x => ei x.symm)] at hi
        obtain ⟨cs, hcs⟩ := Option.ne_none_iff_exists'.1 hi
        have := r.lt hcs
        omega
      · simp only [if_neg ei, if_neg ej] at he
        rw [if_neg (fun x => ei x.symm)] at hi
        rw [if_neg (fun x => ej x.symm)] at hj
        exact r.inj i j hi hj he
  · intro k o hk
    rw [heap_alloc]
    have := lt_of_heap (r.sub k o hk)
    rw [if_neg (by omega)]; exact r.sub k o hk

theorem Mid.palloc {n : Nat} {st : St} {h : Heap} {β : Nat → Nat} {a : Act} {w : World} (_r : Rep n st h β a w) (d : Nat) (_hd : st.pget d = none) (c : Array Value) (T : TypeId) :
    Mid st β h w (st.pput d c.toList) (fun k => if k = d then w.heap.size else β k) h (w.alloc (.cells c T)) := by
  refine ⟨by simp, ?_, fun _ hk => .inl hk, ?_, rfl, rfl, rfl, rfl⟩
  · intro k hk _ _
    rw [heap_alloc, if_neg (by omega)]
  · intro i hi
    rw [pget_pput] at hi
    by_cases e : i = d
    · right; simp [e]
    · left
      rw [if_neg (fun x => e x.symm)] at hi
      exact ⟨i, hi, by simp [e]⟩

/-- A store into a block of the function's own. -/
theorem Rep.pstore {n : Nat} {st : St} {h : Heap} {β : Nat → Nat} {a : Act} {w : World} (r : Rep n st h β a w) {k : Nat} {cs : List Value} (hk : st.pget k = some cs) (o : Nat) (vs : List Value) :
    Rep n (st.pput k (setL cs o vs)) h β a (World.putCells w (β k) o vs) := by
  obtain ⟨hn, T, hT⟩ := r.priv k cs hk
  refine ⟨r.size, ?_, ?_, ?_, ?_, ?_, r.defers⟩
  · intro t; rw [get_pput]; exact r.env t
  · intro t j off
    rw [get_pput, pget_pput]
    intro hg
    split
    · simp
    · exact r.held t j off hg
  · intro j cs' hj
    rw [pget_pput] at hj
    by_cases e : k = j
    · subst e
      rw [if_pos rfl] at hj
      cases hj
      refine ⟨hn, T, ?_⟩
      rw [World.heap_putCells, if_pos rfl, hT]
      simp [putObj]
    · rw [if_neg e] at hj
      obtain ⟨hn', T', hT'⟩ := r.priv j cs' hj
      refine ⟨hn', T', ?_⟩
      rw [World.heap_putCells, if_neg, hT']
      intro eb
      exact e (r.inj k j (by rw [hk]; simp) (by rw [hj]; simp) eb.symm)
  · intro i j hi hj
    rw [pget_pput] at hi hj
    refine r.inj i j ?_ ?_
    · split at hi
      · rename_i e; rw [← e, hk]; simp
      · exact hi
    · split at hj
      · rename_i e; rw [← e, hk]; simp
      · exact hj
  · intro j o' hj
    rw [World.heap_putCells, if_neg]
    · exact r.sub j o' hj
    · intro e; rw [e] at hj; rw [hn] at hj; cases hj

theorem Mid.pstore {n : Nat} {st : St} {h : Heap} {β : Nat → Nat} {a : Act} {w : World} (_r : Rep n st h β a w) {k : Nat} {cs : List Value} (hk : st.pget k = some cs) (o : Nat) (vs : List Value) :
    Mid st β h w (st.pput k (setL cs o vs)) β h (World.putCells w (β k) o vs) := by
  refine ⟨by simp [World.putCells], ?_, fun _ hk => .inl hk, ?_, rfl, rfl, rfl, rfl⟩
  · intro j _ _ hp
    rw [World.heap_putCells, if_neg]
    exact fun e => hp k (by rw [hk]; simp) e.symm
  · intro i hi
    rw [pget_pput] at hi
    left
    refine ⟨i, ?_, rfl⟩
    split at hi
    · rename_i e; rw [← e, hk]; simp
    · exact hi

/-- A store into a block of the heap. -/
theorem Rep.hstore {n : Nat} {st : St} {h : Heap} {β : Nat → Nat} {a : Act} {w : World} (r : Rep n st h β a w) {b : Nat} (hb : h b ≠ none) (o : Nat) (vs : List Value) :
    Rep n st (h.put b o vs) β a (World.putCells w b o vs) := by
  refine ⟨r.size, r.env, r.held, ?_, r.inj, ?_, r.defers⟩
  · intro k cs hk
    obtain ⟨hn, T, hT⟩ := r.priv k cs hk
    have hne : ¬ β k = b := fun e => hb (by rw [← e]; exact hn)
    refine ⟨?_, T, ?_⟩
    · unfold Heap.put; rw [if_neg hne]; exact hn
    · rw [World.heap_putCells, if_neg hne]; exact hT
  · intro k o' hk
    unfold Heap.put at hk
    rw [World.heap_putCells]
    by_cases e : k = b
    · subst e
      rw [if_pos rfl] at hk ⊢
      cases hh : h k with
      | none => rw [hh] at hk; cases hk
      | some ob => rw [hh] at hk; rw [r.sub k ob hh]; exact hk
    · rw [if_neg e] at hk ⊢; exact r.sub k o' hk

theorem Mid.hstore {n : Nat} {st : St} {h : Heap} {β : Nat → Nat} {a : Act} {w : World} (_r : Rep n st h β a w) {b : Nat} (hb : h b ≠ none) (o : Nat) (vs : List Value) :
    Mid st β h w st β (h.put b o vs) (World.putCells w b o vs) := by
  refine ⟨by simp [World.putCells], ?_, ?_, fun i hi => .inl ⟨i, hi, rfl⟩, rfl, rfl, rfl, rfl⟩
  · intro k _ hn _
    rw [World.heap_putCells, if_neg]
    intro e; exact hb (by rw [← e]; exact hn)
  · intro k hk
    left
    unfold Heap.put at hk
    by_cases e : k = b
    · rw [e]; exact hb
    · rw [if_neg e] at hk; exact hk

end Go.Gb
