/- Own text for the seat: GbXs. -/
import Derived.Test.YtbphidfhcijbhaaGbOp
import Derived.Laws.Entries
import Derived.Laws.Sem
set_option linter.unusedVariables false
set_option linter.unusedSimpArgs false
set_option linter.unnecessarySimpa false
set_option linter.deprecated false
namespace Go.Gb

/-! The symbolic executor: what each operation asks and gives. -/

/-- A value's shape, by its type. -/
inductive Sh where
  | int (k : IntKind)
  | bool
  | str
  | ptr
  | sli
  | map
  | any
  | agg (l : List Sh)
  | arr (n : Nat)
  | tup (l : List Sh)

/-- The shapes of a type's cells, one after the other; none: it has no such. -/
def leaves (P : Program) : Nat → TypeId → Option (List Sh)
  | 0, _ => none
  | d + 1, t =>
    match P.underlying t with
    | some (.int k) => some [.int k]
    | some .bool => some [.bool]
    | some .string => some [.str]
    | some (.pointer _) => some [.ptr]
    | some (.slice _) => some [.sli]
    | some (.map _ _) => some [.map]
    | some (.func _ _ _) => some [.any]
    | some (.interface _) => some [.any]
    | some (.struct fs) => fs.toList.foldr (fun f acc => match leaves P d f.type, acc with | some a, some b => some (a ++ b) | _, _ => none) (some [])
    | some (.array n e) => match leaves P d e with
      | some a => some ((List.replicate n a).flatten)
      | none => none
    | _ => none

def isAggD : TypeDesc → Bool
  | .struct _ | .array _ _ => true
  | _ => false

/-- The shape of a type's values. -/
def shape (P : Program) (t : TypeId) : Sh :=
  match P.underlying t with
  | some (.int k) => .int k
  | some .bool => .bool
  | some .string => .str
  | some (.pointer _) => .ptr
  | some (.slice _) => .sli
  | some (.map _ _) => .map
  | some (.struct _) => match leaves P 8 t with | some l => .agg l | none => .any
  | some (.array _ _) => match P.info? t with
    | some i => match Nat.ble i.size 8 with
      | true => match leaves P 8 t with | some l => .agg l | none => .any
      | false => .arr i.size
    | none => .any
  | some (.tuple ts) => .tup (ts.toList.map fun u => match P.underlying u with
    | some (.int k) => .int k
    | some .bool => .bool
    | some .string => .str
    | some (.pointer _) => .ptr
    | some (.slice _) => .sli
    | some (.map _ _) => .map
    | some (.struct _) => match leaves P 8 u with | some l => .agg l | none => .any
    | some (.array _ _) => match P.info? u with
      | some i => match Nat.ble i.size 8 with
        | true => match leaves P 8 u with | some l => .agg l | none => .any
        | false => .arr i.size
      | none => .any
    | _ => .any)
  | _ => .any

/-- A cell's value, told by its shape. -/
def leafK (s : Sh) (c : Option Value) (K : Value → Prop) : Prop :=
  match s with
  | .int k => ∃ x : Int, c = some (.int k x) ∧ K (.int k x)
  | .bool => ∃ x : Bool, c = some (.bool x) ∧ K (.bool x)
  | .str => ∃ x : ByteArray, c = some (.string x) ∧ K (.string x)
  | .ptr => ∃ x : Option Addr, c = some (.pointer x) ∧ K (.pointer x)
  | .sli => ∃ (x : Option Addr) (n m : Nat), c = some (.slice x n m) ∧ K (.slice x n m)
  | .map => ∃ x : Option Nat, c = some (.map x) ∧ K (.map x)
  | _ => ∃ x : Value, c = some x ∧ K x

theorem leafK_ok {s : Sh} {c : Option Value} {K : Value → Prop} (h : leafK s c K) : ∃ v, c = some v ∧ K v := by
  cases s with
  | int k => obtain ⟨x, h1, h2⟩ := h; exact ⟨_, h1, h2⟩
  | bool => obtain ⟨x, h1, h2⟩ := h; exact ⟨_, h1, h2⟩
  | str => obtain ⟨x, h1, h2⟩ := h; exact ⟨_, h1, h2⟩
  | ptr => obtain ⟨x, h1, h2⟩ := h; exact ⟨_, h1, h2⟩
  | sli => obtain ⟨x, n, m, h1, h2⟩ := h; exact ⟨_, h1, h2⟩
  | map => obtain ⟨x, h1, h2⟩ := h; exact ⟨_, h1, h2⟩
  | any => obtain ⟨x, h1, h2⟩ := h; exact ⟨_, h1, h2⟩
  | agg l => obtain ⟨x, h1, h2⟩ := h; exact ⟨_, h1, h2⟩
  | arr n => obtain ⟨x, h1, h2⟩ := h; exact ⟨_, h1, h2⟩
  | tup l => obtain ⟨x, h1, h2⟩ := h; exact ⟨_, h1, h2⟩

/-- Cells' values, one after the other. -/
def leavesK : List Sh → (Nat → Option Value) → Nat → (List Value → Prop) → Prop
  | [], _, _, K => K []
  | s :: r, c, i, K => leafK s (c i) fun v => leavesK r c (i + 1) fun vs => K (v :: vs)

theorem leavesK_ok (l : List Sh) : ∀ (c : Nat → Option Value) (i : Nat) (K : List Value → Prop), leavesK l c i K → ∃ vs, vs.length = l.length ∧ (∀ j, j < vs.length → c (i + j) = vs[j]?) ∧ K vs := by
  induction l with
  | nil => intro c i K h; exact ⟨[], rfl, fun j hj => absurd hj (Nat.not_lt_zero _), h⟩
  | cons s r ih =>
    intro c i K h
    obtain ⟨v, hv, h1⟩ := leafK_ok h
    obtain ⟨vs, hl, hc, hk⟩ := ih c (i + 1) _ h1
    refine ⟨v :: vs, by simp [hl], ?_, hk⟩
    intro j hj
    cases j with
    | zero => simpa using hv
    | succ j =>
      have := hc j (by simpa using hj)
      rw [List.getElem?_cons_succ, ← this]
      congr 1; omega

/-- Some value of a shape. -/
def genL : List Sh → (List Value → Prop) → Prop
  | [], K => K []
  | .int k :: r, K => ∃ x : Int, genL r fun vs => K (.int k x :: vs)
  | .bool :: r, K => ∃ x : Bool, genL r fun vs => K (.bool x :: vs)
  | .str :: r, K => ∃ x : ByteArray, genL r fun vs => K (.string x :: vs)
  | .ptr :: r, K => ∃ x : Option Addr, genL r fun vs => K (.pointer x :: vs)
  | .sli :: r, K => ∃ (x : Option Addr) (n m : Nat), genL r fun vs => K (.slice x n m :: vs)
  | .map :: r, K => ∃ x : Option Nat, genL r fun vs => K (.map x :: vs)
  | _ :: r, K => ∃ x : Value, genL r fun vs => K (x :: vs)

theorem genL_ok (l : List Sh) : ∀ (K : List Value → Prop), genL l K → ∃ vs, K vs := by
  induction l with
  | nil => intro K h; exact ⟨_, h⟩
  | cons s r ih =>
    intro K h
    cases s with
    | int k => obtain ⟨x, h⟩ := h; obtain ⟨vs, h⟩ := ih _ h; exact ⟨_, h⟩
    | bool => obtain ⟨x, h⟩ := h; obtain ⟨vs, h⟩ := ih _ h; exact ⟨_, h⟩
    | str => obtain ⟨x, h⟩ := h; obtain ⟨vs, h⟩ := ih _ h; exact ⟨_, h⟩
    | ptr => obtain ⟨x, h⟩ := h; obtain ⟨vs, h⟩ := ih _ h; exact ⟨_, h⟩
    | sli => obtain ⟨x, n, m, h⟩ := h; obtain ⟨vs, h⟩ := ih _ h; exact ⟨_, h⟩
    | map => obtain ⟨x, h⟩ := h; obtain ⟨vs, h⟩ := ih _ h; exact ⟨_, h⟩
    | any => obtain ⟨x, h⟩ := h; obtain ⟨vs, h⟩ := ih _ h; exact ⟨_, h⟩
    | agg l => obtain ⟨x, h⟩ := h; obtain ⟨vs, h⟩ := ih _ h; exact ⟨_, h⟩
    | arr n => obtain ⟨x, h⟩ := h; obtain ⟨vs, h⟩ := ih _ h; exact ⟨_, h⟩
    | tup l => obtain ⟨x, h⟩ := h; obtain ⟨vs, h⟩ := ih _ h; exact ⟨_, h⟩

def genV (s : Sh) (K : Value → Prop) : Prop :=
  match s with
  | .int k => ∃ x : Int, K (.int k x)
  | .bool => ∃ x : Bool, K (.bool x)
  | .str => ∃ x : ByteArray, K (.string x)
  | .ptr => ∃ x : Option Addr, K (.pointer x)
  | .sli => ∃ (x : Option Addr) (n m : Nat), K (.slice x n m)
  | .map => ∃ x : Option Nat, K (.map x)
  | .agg l => genL l fun vs => K (.agg vs.toArray)
  | .arr n => ∃ cs : List Value, cs.length = n ∧ K (.agg cs.toArray)
  | _ => ∃ x : Value, K x

theorem genV_ok {s : Sh} {K : Value → Prop} (h : genV s K) : ∃ v, K v := by
  cases s with
  | int k => obtain ⟨x, h⟩ := h; exact ⟨_, h⟩
  | bool => obtain ⟨x, h⟩ := h; exact ⟨_, h⟩
  | str => obtain ⟨x, h⟩ := h; exact ⟨_, h⟩
  | ptr => obtain ⟨x, h⟩ := h; exact ⟨_, h⟩
  | sli => obtain ⟨x, n, m, h⟩ := h; exact ⟨_, h⟩
  | map => obtain ⟨x, h⟩ := h; exact ⟨_, h⟩
  | any => obtain ⟨x, h⟩ := h; exact ⟨_, h⟩
  | agg l => obtain ⟨vs, h⟩ := genL_ok l _ h; exact ⟨_, h⟩
  | arr n => obtain ⟨x, _, h⟩ := h; exact ⟨_, h⟩
  | tup l => obtain ⟨x, h⟩ := h; exact ⟨_, h⟩

def genVs : List Sh → (List Value → Prop) → Prop
  | [], K => K []
  | s :: r, K => genV s fun v => genVs r fun vs => K (v :: vs)

theorem genVs_ok (l : List Sh) : ∀ (K : List Value → Prop), genVs l K → ∃ vs, K vs := by
  induction l with
  | nil => intro K h; exact ⟨_, h⟩
  | cons s r ih =>
    intro K h
    obtain ⟨v, h⟩ := genV_ok h
    obtain ⟨vs, h⟩ := ih _ h
    exact ⟨_, h⟩

/-- A call's result, told by its shape. -/
def resK (s : Sh) (r : Value) (K : Value → Prop) : Prop :=
  match s with
  | .tup [] => K r
  | .tup l => genVs l fun vs => r = .tuple vs.toArray ∧ K (.tuple vs.toArray)
  | s => genV s fun v => r = v ∧ K v

theorem resK_ok {s : Sh} {r : Value} {K : Value → Prop} (h : resK s r K) : K r := by
  unfold resK at h
  split at h
  · exact h
  · obtain ⟨vs, e, h2⟩ := genVs_ok _ _ h; rw [e]; exact h2
  · obtain ⟨v, e, h2⟩ := genV_ok h; rw [e]; exact h2

/-- Some cells of a list. -/
def lsub (c : List Value) (o n : Nat) : List Value := (c.drop o).take n

/-- A byte of a string. -/
def bget (s : ByteArray) (i : Nat) : Option UInt8 := s[i]?

/-- A cell of a list. -/
def lget (c : List Value) (i : Nat) : Option Value := c[i]?

/-! Ifs. -/

def xsIf (b : Bool) (x y : Prop) : Prop :=
  match b with
  | true => x
  | false => y

theorem xsIf_iff {b : Bool} {x y : Prop} : xsIf b x y ↔ (b = true → x) ∧ (b = false → y) := by
  cases b <;> simp [xsIf]

theorem xsIf_intro {b : Bool} {x y : Prop} (hx : b = true → x) (hy : b = false → y) : xsIf b x y := xsIf_iff.2 ⟨hx, hy⟩

/-! Numbers. -/

def iand (k : IntKind) (a b : Int) : Int := k.wrap (BitVec.ofInt k.bits a &&& BitVec.ofInt k.bits b).toNat
def ior (k : IntKind) (a b : Int) : Int := k.wrap (BitVec.ofInt k.bits a ||| BitVec.ofInt k.bits b).toNat
def ixor (k : IntKind) (a b : Int) : Int := k.wrap (BitVec.ofInt k.bits a ^^^ BitVec.ofInt k.bits b).toNat
def iandNot (k : IntKind) (a b : Int) : Int := k.wrap (BitVec.ofInt k.bits a &&& ~~~BitVec.ofInt k.bits b).toNat
def ishl (k : IntKind) (a b : Int) : Int := k.wrap (a * 2 ^ (Nat.min b.toNat k.bits))
def ishr (k : IntKind) (a b : Int) : Int := a.fdiv (2 ^ (Nat.min b.toNat k.bits))
def iquo (k : IntKind) (a b : Int) : Int := k.wrap (a.tdiv b)
def irem (a b : Int) : Int := a.tmod b
def inot (k : IntKind) (a : Int) : Int := ixor k (if k.signed then -1 else k.max) a

def same (k k' : IntKind) (X : Prop) : Prop :=
  match decide (k = k') with
  | true => X
  | false => False

theorem same_ok {k k' : IntKind} {X : Prop} (h : same k k' X) : k = k' ∧ X := by
  unfold same at h
  split at h
  · rename_i e; exact ⟨of_decide_eq_true e, h⟩
  · exact h.elim

/-- A constant operand that is a number other than 0. -/
def constNz : Operand → Bool
  | .const (.int _ n) => decide (n ≠ 0)
  | _ => false
/-- A constant operand that is no negative number. -/
def constNn : Operand → Bool
  | .const (.int _ n) => decide (0 ≤ n)
  | _ => false

def when (b : Bool) (c X : Prop) : Prop :=
  match b with
  | true => X
  | false => c ∧ X

def xsBinInt (op : BinOp) (k : IntKind) (a : Int) (k' : IntKind) (b : Int) (nz nn : Bool) (K : Value → Prop) : Prop :=
  match op with
  | .shl => when nn (0 ≤ b) (K (.int k (ishl k a b)))
  | .shr => when nn (0 ≤ b) (K (.int k (ishr k a b)))
  | .add => same k k' (K (.int k (k.wrap (a + b))))
  | .sub => same k k' (K (.int k (k.wrap (a - b))))
  | .mul => same k k' (K (.int k (k.wrap (a * b))))
  | .quo => same k k' (when nz (b ≠ 0) (K (.int k (iquo k a b))))
  | .rem => same k k' (when nz (b ≠ 0) (K (.int k (irem a b))))
  | .and => same k k' (K (.int k (iand k a b)))
  | .or => same k k' (K (.int k (ior k a b)))
  | .xor => same k k' (K (.int k (ixor k a b)))
  | .andNot => same k k' (K (.int k (iandNot k a b)))
  | .eql => same k k' (K (.bool (decide (a = b))))
  | .neq => same k k' (K (.bool (decide (a ≠ b))))
  | .lss => same k k' (K (.bool (decide (a < b))))
  | .leq => same k k' (K (.bool (decide (a ≤ b))))
  | .gtr => same k k' (K (.bool (decide (b < a))))
  | .geq => same k k' (K (.bool (decide (b ≤ a))))

theorem xsBinInt_ok {P : Program} {op : BinOp} {t : TypeId} {k k' : IntKind} {a b : Int} {nz nn : Bool} {K : Value → Prop}
    (hz : nz = true → b ≠ 0) (hn : nn = true → 0 ≤ b) (h : xsBinInt op k a k' b nz nn K) :
    ∃ v, (∀ w, (binOp op t (.int k a) (.int k' b)).run P w = .ok v w) ∧ K v := by
  have hwhen : ∀ {x : Bool} {c X : Prop}, (x = true → c) → when x c X → c ∧ X := by
    intro x c X hc hx
    cases x with
    | true => exact ⟨hc rfl, hx⟩
    | false => exact hx
  cases op
  case shl =>
    obtain ⟨h0, h1⟩ := hwhen hn h
    refine ⟨_, ?_, h1⟩
    have : ¬ b < 0 := by omega
    intro w
    simp [binOp, Op.shift, this, ishl]
  case shr =>
    obtain ⟨h0, h1⟩ := hwhen hn h
    refine ⟨_, ?_, h1⟩
    have : ¬ b < 0 := by omega
    intro w
    simp [binOp, Op.shift, this, ishr]
  case quo =>
    obtain ⟨e, h2⟩ := same_ok h
    subst e
    obtain ⟨h0, h1⟩ := hwhen hz h2
    exact ⟨_, (by intro w; simp [binOp, Op.intDiv, h0, iquo]), h1⟩
  case rem =>
    obtain ⟨e, h2⟩ := same_ok h
    subst e
    obtain ⟨h0, h1⟩ := hwhen hz h2
    exact ⟨_, (by intro w; simp [binOp, Op.intDiv, h0, irem]), h1⟩
  all_goals
    obtain ⟨e, h2⟩ := same_ok h
    subst e
    refine ⟨_, ?_, h2⟩
    intro w
    first
    | (simp [binOp, Op.intArith]; done)
    | (simp [binOp, Op.intBits, iand, ior, ixor, iandNot]; done)
    | (simp [binOp, Op.intCmp]; done)
    | (simp [binOp, Op.intCmp]; rfl)

attribute [irreducible] xsIf

end Go.Gb
