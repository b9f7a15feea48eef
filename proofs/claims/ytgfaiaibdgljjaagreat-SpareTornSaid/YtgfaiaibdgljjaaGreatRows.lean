/-
  No cell of these rows narrows 'for every input' (looked for: loops, veiled, ifaces, maps, wideKeys, modest, calm, conditions, laid).
  DERIVED. THE GIVEN ROWS OF THIS SEAT. 8 by the template 'for every input the law returns true; each argument reads behind the call as it read before'; 0 by the template 'total and deterministic' (their statements: YtgfaiaibdgljjaaGreatTotals.lean).
  GIVEN WITH THE SEED: the statements are not yours to turn. If you find one false, say at which input.
  Laid BY PROGRAM, IN A SANDBOX (cutbox-rows.mjs): the forced cells as the released guide's own fill.sh prints them over the translation 2679bb44322547eb… (all of the seat's roots in one cut). By AI agents, Wed Nov 11 2026. No macro, syntax, notation, axiom, sorry.
-/
import Derived.Test.YtgfaiaibdgljjaaGreatChecked
import GoSem.Claim
import GoSem.ClaimJoined
import GoSem.ClaimMapViews
import Derived.JoinedTies
import Derived.KernelRfl
namespace Go.Proofs.YtgfaiaibdgljjaaGreat
/- THE CELL 'sum', in the pinned program and in every row, IS THE sha256 OF THE DUMP (.gsa) THAT YtgfaiaibdgljjaaGreatProg.lean LOADS. Nothing in Lean hashes anything: it is a label: what it is worth is what the hold of that sum in a sandbox is worth. -/
noncomputable def Tryz.pinned : Pinned := { name := "ytgfaiaibdgljjaagreat", sum := "2679bb44322547ebd8d2adfa976a446c378d1208e626b3d5eb5ed295664bb6b2", checked := Tryz.checked }
namespace Rows
def none {H : Type} : Left H := { results := [], args := [] }

/-- 'gabionlaw05.SpareAgain': WHATEVER THE INPUT: true; the input reads as it did. -/
def spareAgainSpec : ChangeSpec := { name := "spareAgain", fn := fun _ => fun
  | [d1, d2] => { results := [.lit (.bool true)], args := [d1, d2] }
  | _ => none }
def spareAgainRow : OpenClaim := { program := "ytgfaiaibdgljjaagreat", sum := "2679bb44322547ebd8d2adfa976a446c378d1208e626b3d5eb5ed295664bb6b2", func := "gabion/gabionlaw05.SpareAgain", spec := "spareAgain", inPlace := ["internal/abi.NoEscape", "internal/bytealg.MakeNoZero"], unfollowed := true, recurses := true, apart := false }
def SpareAgainSaid : Prop := spareAgainRow.holds Tryz.pinned (OpenSpec.ofChange spareAgainSpec)

/-- ITS FALSE NEIGHBOUR: 'it returns false'. Refute it at one input. -/
def spareAgainWrong : ChangeSpec := { name := "spareAgain", fn := fun _ => fun
  | [d1, d2] => { results := [.lit (.bool false)], args := [d1, d2] }
  | _ => none }
def SpareAgainWrongFalsely : Prop := spareAgainRow.holds Tryz.pinned (OpenSpec.ofChange spareAgainWrong)

/-- 'gabionlaw05.SparePlans': WHATEVER THE INPUT: true; the input reads as it did. -/
def sparePlansSpec : ChangeSpec := { name := "sparePlans", fn := fun _ => fun
  | [d1, d2, d3] => { results := [.lit (.bool true)], args := [d1, d2, d3] }
  | _ => none }
def sparePlansRow : OpenClaim := { program := "ytgfaiaibdgljjaagreat", sum := "2679bb44322547ebd8d2adfa976a446c378d1208e626b3d5eb5ed295664bb6b2", func := "gabion/gabionlaw05.SparePlans", spec := "sparePlans", inPlace := ["internal/abi.NoEscape", "internal/bytealg.MakeNoZero"], unfollowed := true, recurses := true, apart := false }
def SparePlansSaid : Prop := sparePlansRow.holds Tryz.pinned (OpenSpec.ofChange sparePlansSpec)

/-- ITS FALSE NEIGHBOUR: 'it returns false'. Refute it at one input. -/
def sparePlansWrong : ChangeSpec := { name := "sparePlans", fn := fun _ => fun
  | [d1, d2, d3] => { results := [.lit (.bool false)], args := [d1, d2, d3] }
  | _ => none }
def SparePlansWrongFalsely : Prop := sparePlansRow.holds Tryz.pinned (OpenSpec.ofChange sparePlansWrong)

/-- 'gabionlaw05.SparePlays': WHATEVER THE INPUT: true; the input reads as it did. -/
def sparePlaysSpec : ChangeSpec := { name := "sparePlays", fn := fun _ => fun
  | [d1, d2] => { results := [.lit (.bool true)], args := [d1, d2] }
  | _ => none }
def sparePlaysRow : OpenClaim := { program := "ytgfaiaibdgljjaagreat", sum := "2679bb44322547ebd8d2adfa976a446c378d1208e626b3d5eb5ed295664bb6b2", func := "gabion/gabionlaw05.SparePlays", spec := "sparePlays", inPlace := ["internal/abi.NoEscape", "internal/bytealg.MakeNoZero"], unfollowed := true, recurses := true, apart := false }
def SparePlaysSaid : Prop := sparePlaysRow.holds Tryz.pinned (OpenSpec.ofChange sparePlaysSpec)

/-- ITS FALSE NEIGHBOUR: 'it returns false'. Refute it at one input. -/
def sparePlaysWrong : ChangeSpec := { name := "sparePlays", fn := fun _ => fun
  | [d1, d2] => { results := [.lit (.bool false)], args := [d1, d2] }
  | _ => none }
def SparePlaysWrongFalsely : Prop := sparePlaysRow.holds Tryz.pinned (OpenSpec.ofChange sparePlaysWrong)

/-- 'gabionlaw05.SpareTorn': WHATEVER THE INPUT: true; the input reads as it did. -/
def spareTornSpec : ChangeSpec := { name := "spareTorn", fn := fun _ => fun
  | [d1, d2, d3] => { results := [.lit (.bool true)], args := [d1, d2, d3] }
  | _ => none }
def spareTornRow : OpenClaim := { program := "ytgfaiaibdgljjaagreat", sum := "2679bb44322547ebd8d2adfa976a446c378d1208e626b3d5eb5ed295664bb6b2", func := "gabion/gabionlaw05.SpareTorn", spec := "spareTorn", inPlace := ["internal/abi.NoEscape", "internal/bytealg.MakeNoZero"], unfollowed := true, recurses := true, apart := false }
def SpareTornSaid : Prop := spareTornRow.holds Tryz.pinned (OpenSpec.ofChange spareTornSpec)

/-- ITS FALSE NEIGHBOUR: 'it returns false'. Refute it at one input. -/
def spareTornWrong : ChangeSpec := { name := "spareTorn", fn := fun _ => fun
  | [d1, d2, d3] => { results := [.lit (.bool false)], args := [d1, d2, d3] }
  | _ => none }
def SpareTornWrongFalsely : Prop := spareTornRow.holds Tryz.pinned (OpenSpec.ofChange spareTornWrong)

/-- 'gabionlaw07.RingEven': WHATEVER THE INPUT: true; the input reads as it did. -/
def ringEvenSpec : ChangeSpec := { name := "ringEven", fn := fun _ => fun
  | [d1, d2] => { results := [.lit (.bool true)], args := [d1, d2] }
  | _ => none }
def ringEvenRow : OpenClaim := { program := "ytgfaiaibdgljjaagreat", sum := "2679bb44322547ebd8d2adfa976a446c378d1208e626b3d5eb5ed295664bb6b2", func := "gabion/gabionlaw07.RingEven", spec := "ringEven", inPlace := ["internal/abi.NoEscape", "internal/bytealg.MakeNoZero"], unfollowed := true, recurses := true, apart := false }
def RingEvenSaid : Prop := ringEvenRow.holds Tryz.pinned (OpenSpec.ofChange ringEvenSpec)

/-- ITS FALSE NEIGHBOUR: 'it returns false'. Refute it at one input. -/
def ringEvenWrong : ChangeSpec := { name := "ringEven", fn := fun _ => fun
  | [d1, d2] => { results := [.lit (.bool false)], args := [d1, d2] }
  | _ => none }
def RingEvenWrongFalsely : Prop := ringEvenRow.holds Tryz.pinned (OpenSpec.ofChange ringEvenWrong)

/-- 'gabionlaw07.RingAlike': WHATEVER THE INPUT: true; the input reads as it did. -/
def ringAlikeSpec : ChangeSpec := { name := "ringAlike", fn := fun _ => fun
  | [d1, d2, d3] => { results := [.lit (.bool true)], args := [d1, d2, d3] }
  | _ => none }
def ringAlikeRow : OpenClaim := { program := "ytgfaiaibdgljjaagreat", sum := "2679bb44322547ebd8d2adfa976a446c378d1208e626b3d5eb5ed295664bb6b2", func := "gabion/gabionlaw07.RingAlike", spec := "ringAlike", inPlace := ["internal/abi.NoEscape", "internal/bytealg.MakeNoZero"], unfollowed := true, recurses := true, apart := false }
def RingAlikeSaid : Prop := ringAlikeRow.holds Tryz.pinned (OpenSpec.ofChange ringAlikeSpec)

/-- ITS FALSE NEIGHBOUR: 'it returns false'. Refute it at one input. -/
def ringAlikeWrong : ChangeSpec := { name := "ringAlike", fn := fun _ => fun
  | [d1, d2, d3] => { results := [.lit (.bool false)], args := [d1, d2, d3] }
  | _ => none }
def RingAlikeWrongFalsely : Prop := ringAlikeRow.holds Tryz.pinned (OpenSpec.ofChange ringAlikeWrong)

/-- 'gabionlaw07.RingTorn': WHATEVER THE INPUT: true; the input reads as it did. -/
def ringTornSpec : ChangeSpec := { name := "ringTorn", fn := fun _ => fun
  | [d1, d2, d3] => { results := [.lit (.bool true)], args := [d1, d2, d3] }
  | _ => none }
def ringTornRow : OpenClaim := { program := "ytgfaiaibdgljjaagreat", sum := "2679bb44322547ebd8d2adfa976a446c378d1208e626b3d5eb5ed295664bb6b2", func := "gabion/gabionlaw07.RingTorn", spec := "ringTorn", inPlace := ["internal/abi.NoEscape", "internal/bytealg.MakeNoZero"], unfollowed := true, recurses := true, apart := false }
def RingTornSaid : Prop := ringTornRow.holds Tryz.pinned (OpenSpec.ofChange ringTornSpec)

/-- ITS FALSE NEIGHBOUR: 'it returns false'. Refute it at one input. -/
def ringTornWrong : ChangeSpec := { name := "ringTorn", fn := fun _ => fun
  | [d1, d2, d3] => { results := [.lit (.bool false)], args := [d1, d2, d3] }
  | _ => none }
def RingTornWrongFalsely : Prop := ringTornRow.holds Tryz.pinned (OpenSpec.ofChange ringTornWrong)

/-- 'gabionlaw07.RingPlays': WHATEVER THE INPUT: true; the input reads as it did. -/
def ringPlaysSpec : ChangeSpec := { name := "ringPlays", fn := fun _ => fun
  | [d1, d2] => { results := [.lit (.bool true)], args := [d1, d2] }
  | _ => none }
def ringPlaysRow : OpenClaim := { program := "ytgfaiaibdgljjaagreat", sum := "2679bb44322547ebd8d2adfa976a446c378d1208e626b3d5eb5ed295664bb6b2", func := "gabion/gabionlaw07.RingPlays", spec := "ringPlays", inPlace := ["internal/abi.NoEscape", "internal/bytealg.MakeNoZero"], unfollowed := true, recurses := true, apart := false }
def RingPlaysSaid : Prop := ringPlaysRow.holds Tryz.pinned (OpenSpec.ofChange ringPlaysSpec)

/-- ITS FALSE NEIGHBOUR: 'it returns false'. Refute it at one input. -/
def ringPlaysWrong : ChangeSpec := { name := "ringPlays", fn := fun _ => fun
  | [d1, d2] => { results := [.lit (.bool false)], args := [d1, d2] }
  | _ => none }
def RingPlaysWrongFalsely : Prop := ringPlaysRow.holds Tryz.pinned (OpenSpec.ofChange ringPlaysWrong)

/- THE SECOND FORM. 'bulk': how many values and letters a reading holds, each counted each time it is reached (what is shared counts as often as it is met; a slice's spare places count too). A statement '..UptoSaid' is the law's where the arguments, and the package variables that the reading takes, are together of bulk at most 1048576: NARROWER than '..Said'. Prove '..Said' where nothing that the law and all that it calls make is longer than what came in: it says more and counts as full. Else prove '..UptoSaid'. A law counts once. -/
mutual
def uptoBulk {H : Type} : DataW H → Nat
  | .lit (.string bytes) => bytes.length + 1
  | .lit _ => 1
  | .nil => 1
  | .ptr d => uptoBulk d + 1
  | .slice elems spare => uptoBulkAll elems + uptoBulkAll spare + 1
  | .agg parts => uptoBulkAll parts + 1
  | .iface _ d => uptoBulk d + 1
  | .map entries => uptoBulkEntries entries + 1
  | .held _ => 1
def uptoBulkAll {H : Type} : List (DataW H) → Nat
  | [] => 0
  | d :: r => uptoBulk d + uptoBulkAll r
def uptoBulkEntries {H : Type} : List (Lit × DataW H) → Nat
  | [] => 0
  | x :: r => uptoBulkEntry x + uptoBulkEntries r
def uptoBulkEntry {H : Type} : Lit × DataW H → Nat
  | (.string bytes, d) => bytes.length + uptoBulk d + 1
  | (_, d) => uptoBulk d + 1
 end
def uptoSmall : (H : Type) → List (DataW H) → Bool := fun _ ds => decide (uptoBulkAll ds ≤ 1048576)
def OpenSpec.upto (s : _root_.Go.ChangeSpec) : _root_.Go.OpenSpec := { _root_.Go.OpenSpec.ofChange s with cond := some uptoSmall }

/-- 'gabionlaw05.SpareAgain', WHERE WHAT IT READS IS OF BULK AT MOST 1048576: true; the input reads as it did. -/
def spareAgainUptoRow : OpenClaim := { program := "ytgfaiaibdgljjaagreat", sum := "2679bb44322547ebd8d2adfa976a446c378d1208e626b3d5eb5ed295664bb6b2", func := "gabion/gabionlaw05.SpareAgain", spec := "spareAgain", inPlace := ["internal/abi.NoEscape", "internal/bytealg.MakeNoZero"], unfollowed := true, recurses := true, apart := false, narrowed := true }
def SpareAgainUptoSaid : Prop := spareAgainUptoRow.holds Tryz.pinned (OpenSpec.upto spareAgainSpec)

/-- 'gabionlaw05.SparePlans', WHERE WHAT IT READS IS OF BULK AT MOST 1048576: true; the input reads as it did. -/
def sparePlansUptoRow : OpenClaim := { program := "ytgfaiaibdgljjaagreat", sum := "2679bb44322547ebd8d2adfa976a446c378d1208e626b3d5eb5ed295664bb6b2", func := "gabion/gabionlaw05.SparePlans", spec := "sparePlans", inPlace := ["internal/abi.NoEscape", "internal/bytealg.MakeNoZero"], unfollowed := true, recurses := true, apart := false, narrowed := true }
def SparePlansUptoSaid : Prop := sparePlansUptoRow.holds Tryz.pinned (OpenSpec.upto sparePlansSpec)

/-- 'gabionlaw05.SparePlays', WHERE WHAT IT READS IS OF BULK AT MOST 1048576: true; the input reads as it did. -/
def sparePlaysUptoRow : OpenClaim := { program := "ytgfaiaibdgljjaagreat", sum := "2679bb44322547ebd8d2adfa976a446c378d1208e626b3d5eb5ed295664bb6b2", func := "gabion/gabionlaw05.SparePlays", spec := "sparePlays", inPlace := ["internal/abi.NoEscape", "internal/bytealg.MakeNoZero"], unfollowed := true, recurses := true, apart := false, narrowed := true }
def SparePlaysUptoSaid : Prop := sparePlaysUptoRow.holds Tryz.pinned (OpenSpec.upto sparePlaysSpec)

/-- 'gabionlaw05.SpareTorn', WHERE WHAT IT READS IS OF BULK AT MOST 1048576: true; the input reads as it did. -/
def spareTornUptoRow : OpenClaim := { program := "ytgfaiaibdgljjaagreat", sum := "2679bb44322547ebd8d2adfa976a446c378d1208e626b3d5eb5ed295664bb6b2", func := "gabion/gabionlaw05.SpareTorn", spec := "spareTorn", inPlace := ["internal/abi.NoEscape", "internal/bytealg.MakeNoZero"], unfollowed := true, recurses := true, apart := false, narrowed := true }
def SpareTornUptoSaid : Prop := spareTornUptoRow.holds Tryz.pinned (OpenSpec.upto spareTornSpec)

/-- 'gabionlaw07.RingEven', WHERE WHAT IT READS IS OF BULK AT MOST 1048576: true; the input reads as it did. -/
def ringEvenUptoRow : OpenClaim := { program := "ytgfaiaibdgljjaagreat", sum := "2679bb44322547ebd8d2adfa976a446c378d1208e626b3d5eb5ed295664bb6b2", func := "gabion/gabionlaw07.RingEven", spec := "ringEven", inPlace := ["internal/abi.NoEscape", "internal/bytealg.MakeNoZero"], unfollowed := true, recurses := true, apart := false, narrowed := true }
def RingEvenUptoSaid : Prop := ringEvenUptoRow.holds Tryz.pinned (OpenSpec.upto ringEvenSpec)

/-- 'gabionlaw07.RingAlike', WHERE WHAT IT READS IS OF BULK AT MOST 1048576: true; the input reads as it did. -/
def ringAlikeUptoRow : OpenClaim := { program := "ytgfaiaibdgljjaagreat", sum := "2679bb44322547ebd8d2adfa976a446c378d1208e626b3d5eb5ed295664bb6b2", func := "gabion/gabionlaw07.RingAlike", spec := "ringAlike", inPlace := ["internal/abi.NoEscape", "internal/bytealg.MakeNoZero"], unfollowed := true, recurses := true, apart := false, narrowed := true }
def RingAlikeUptoSaid : Prop := ringAlikeUptoRow.holds Tryz.pinned (OpenSpec.upto ringAlikeSpec)

/-- 'gabionlaw07.RingTorn', WHERE WHAT IT READS IS OF BULK AT MOST 1048576: true; the input reads as it did. -/
def ringTornUptoRow : OpenClaim := { program := "ytgfaiaibdgljjaagreat", sum := "2679bb44322547ebd8d2adfa976a446c378d1208e626b3d5eb5ed295664bb6b2", func := "gabion/gabionlaw07.RingTorn", spec := "ringTorn", inPlace := ["internal/abi.NoEscape", "internal/bytealg.MakeNoZero"], unfollowed := true, recurses := true, apart := false, narrowed := true }
def RingTornUptoSaid : Prop := ringTornUptoRow.holds Tryz.pinned (OpenSpec.upto ringTornSpec)

/-- 'gabionlaw07.RingPlays', WHERE WHAT IT READS IS OF BULK AT MOST 1048576: true; the input reads as it did. -/
def ringPlaysUptoRow : OpenClaim := { program := "ytgfaiaibdgljjaagreat", sum := "2679bb44322547ebd8d2adfa976a446c378d1208e626b3d5eb5ed295664bb6b2", func := "gabion/gabionlaw07.RingPlays", spec := "ringPlays", inPlace := ["internal/abi.NoEscape", "internal/bytealg.MakeNoZero"], unfollowed := true, recurses := true, apart := false, narrowed := true }
def RingPlaysUptoSaid : Prop := ringPlaysUptoRow.holds Tryz.pinned (OpenSpec.upto ringPlaysSpec)

end Rows
end Go.Proofs.YtgfaiaibdgljjaaGreat
