/-
  No cell of these rows narrows 'for every input' (looked for: loops, veiled, ifaces, maps, wideKeys, modest, calm, conditions, laid).
  DERIVED. THE GIVEN ROWS OF THIS SEAT. 3 by the template 'for every input the law returns true; each argument reads behind the call as it read before'; 0 by the template 'total and deterministic' (their statements: YtcccjpahikgibaaTotals.lean).
  GIVEN WITH THE SEED: the statements are not yours to turn. If you find one false, say at which input.
  Laid BY PROGRAM, IN A SANDBOX (cutbox-rows.mjs): the forced cells as the released guide's own fill.sh prints them over the translation 754d3f8c175127ed… (all of the seat's roots in one cut). By AI agents, Wed Nov 11 2026. No macro, syntax, notation, axiom, sorry.
-/
import Derived.Test.YtcccjpahikgibaaChecked
import GoSem.Claim
import GoSem.ClaimJoined
import GoSem.ClaimMapViews
import Derived.JoinedTies
import Derived.KernelRfl
namespace Go.Proofs.Ytcccjpahikgibaa
/- THE CELL 'sum', in the pinned program and in every row, IS THE sha256 OF THE DUMP (.gsa) THAT YtcccjpahikgibaaProg.lean LOADS. Nothing in Lean hashes anything: it is a label: what it is worth is what the hold of that sum in a sandbox is worth. -/
noncomputable def Try.pinned : Pinned := { name := "ytcccjpahikgibaa", sum := "754d3f8c175127ed34cfe990ad26ff7cd01b0b10ad4a52a7824611283757147f", checked := Try.checked }
namespace Rows
def none {H : Type} : Left H := { results := [], args := [] }

/-- 'gabionlaw24.LockPlays': WHATEVER THE INPUT: true; the input reads as it did. -/
def lockPlaysSpec : ChangeSpec := { name := "lockPlays", fn := fun _ => fun
  | [d1, d2] => { results := [.lit (.bool true)], args := [d1, d2] }
  | _ => none }
def lockPlaysRow : OpenClaim := { program := "ytcccjpahikgibaa", sum := "754d3f8c175127ed34cfe990ad26ff7cd01b0b10ad4a52a7824611283757147f", func := "gabion/gabionlaw24.LockPlays", spec := "lockPlays", unfollowed := true, recurses := true, apart := false }
def LockPlaysSaid : Prop := lockPlaysRow.holds Try.pinned (OpenSpec.ofChange lockPlaysSpec)

/-- ITS FALSE NEIGHBOUR: 'it returns false'. Refute it at one input. -/
def lockPlaysWrong : ChangeSpec := { name := "lockPlays", fn := fun _ => fun
  | [d1, d2] => { results := [.lit (.bool false)], args := [d1, d2] }
  | _ => none }
def LockPlaysWrongFalsely : Prop := lockPlaysRow.holds Try.pinned (OpenSpec.ofChange lockPlaysWrong)

/-- 'gabionlaw24.LockMakes': WHATEVER THE INPUT: true; the input reads as it did. -/
def lockMakesSpec : ChangeSpec := { name := "lockMakes", fn := fun _ => fun
  | [d1, d2] => { results := [.lit (.bool true)], args := [d1, d2] }
  | _ => none }
def lockMakesRow : OpenClaim := { program := "ytcccjpahikgibaa", sum := "754d3f8c175127ed34cfe990ad26ff7cd01b0b10ad4a52a7824611283757147f", func := "gabion/gabionlaw24.LockMakes", spec := "lockMakes", unfollowed := true, recurses := true, apart := false }
def LockMakesSaid : Prop := lockMakesRow.holds Try.pinned (OpenSpec.ofChange lockMakesSpec)

/-- ITS FALSE NEIGHBOUR: 'it returns false'. Refute it at one input. -/
def lockMakesWrong : ChangeSpec := { name := "lockMakes", fn := fun _ => fun
  | [d1, d2] => { results := [.lit (.bool false)], args := [d1, d2] }
  | _ => none }
def LockMakesWrongFalsely : Prop := lockMakesRow.holds Try.pinned (OpenSpec.ofChange lockMakesWrong)

/-- 'gabionlaw24.LockRounds': WHATEVER THE INPUT: true; the input reads as it did. -/
def lockRoundsSpec : ChangeSpec := { name := "lockRounds", fn := fun _ => fun
  | [d1, d2] => { results := [.lit (.bool true)], args := [d1, d2] }
  | _ => none }
def lockRoundsRow : OpenClaim := { program := "ytcccjpahikgibaa", sum := "754d3f8c175127ed34cfe990ad26ff7cd01b0b10ad4a52a7824611283757147f", func := "gabion/gabionlaw24.LockRounds", spec := "lockRounds", unfollowed := true, recurses := true, apart := false }
def LockRoundsSaid : Prop := lockRoundsRow.holds Try.pinned (OpenSpec.ofChange lockRoundsSpec)

/-- ITS FALSE NEIGHBOUR: 'it returns false'. Refute it at one input. -/
def lockRoundsWrong : ChangeSpec := { name := "lockRounds", fn := fun _ => fun
  | [d1, d2] => { results := [.lit (.bool false)], args := [d1, d2] }
  | _ => none }
def LockRoundsWrongFalsely : Prop := lockRoundsRow.holds Try.pinned (OpenSpec.ofChange lockRoundsWrong)

/- THE SECOND FORM. 'bulk': how many values and letters a reading holds, each counted each time it is reached (what is shared counts as often as it is met; a slice's spare places count too). A statement '..UptoSaid' is the law's where the arguments, and the package variables that the reading takes, are together of bulk at most 1048576: NARROWER than '..Said'. Prove '..Said' where nothing that the law and all that it calls make is longer than what came in: it says more and counts as full. Else prove '..UptoSaid'. A law counts once. -/
mutual
def uptoBulk {H : Type} : DataW H → Nat
  | .lit (.string bytes) => bytes.length + 1
  | .lit _ => 1
  | .nil => 1
  | .ptr d => uptoBulk d + 1
  | .slice elems spare => uptoBulkAll elems + uptoBulkAll spare + 1
  | .agg parts => uptoBulkAll parts + 1
  | .iface _ d => uptoBulk d + 1
  | .map entries => uptoBulkEntries entries + 1
  | .held _ => 1
def uptoBulkAll {H : Type} : List (DataW H) → Nat
  | [] => 0
  | d :: r => uptoBulk d + uptoBulkAll r
def uptoBulkEntries {H : Type} : List (Lit × DataW H) → Nat
  | [] => 0
  | x :: r => uptoBulkEntry x + uptoBulkEntries r
def uptoBulkEntry {H : Type} : Lit × DataW H → Nat
  | (.string bytes, d) => bytes.length + uptoBulk d + 1
  | (_, d) => uptoBulk d + 1
 end
def uptoSmall : (H : Type) → List (DataW H) → Bool := fun _ ds => decide (uptoBulkAll ds ≤ 1048576)
def OpenSpec.upto (s : _root_.Go.ChangeSpec) : _root_.Go.OpenSpec := { _root_.Go.OpenSpec.ofChange s with cond := some uptoSmall }

/-- 'gabionlaw24.LockPlays', WHERE WHAT IT READS IS OF BULK AT MOST 1048576: true; the input reads as it did. -/
def lockPlaysUptoRow : OpenClaim := { program := "ytcccjpahikgibaa", sum := "754d3f8c175127ed34cfe990ad26ff7cd01b0b10ad4a52a7824611283757147f", func := "gabion/gabionlaw24.LockPlays", spec := "lockPlays", unfollowed := true, recurses := true, apart := false, narrowed := true }
def LockPlaysUptoSaid : Prop := lockPlaysUptoRow.holds Try.pinned (OpenSpec.upto lockPlaysSpec)

/-- 'gabionlaw24.LockMakes', WHERE WHAT IT READS IS OF BULK AT MOST 1048576: true; the input reads as it did. -/
def lockMakesUptoRow : OpenClaim := { program := "ytcccjpahikgibaa", sum := "754d3f8c175127ed34cfe990ad26ff7cd01b0b10ad4a52a7824611283757147f", func := "gabion/gabionlaw24.LockMakes", spec := "lockMakes", unfollowed := true, recurses := true, apart := false, narrowed := true }
def LockMakesUptoSaid : Prop := lockMakesUptoRow.holds Try.pinned (OpenSpec.upto lockMakesSpec)

/-- 'gabionlaw24.LockRounds', WHERE WHAT IT READS IS OF BULK AT MOST 1048576: true; the input reads as it did. -/
def lockRoundsUptoRow : OpenClaim := { program := "ytcccjpahikgibaa", sum := "754d3f8c175127ed34cfe990ad26ff7cd01b0b10ad4a52a7824611283757147f", func := "gabion/gabionlaw24.LockRounds", spec := "lockRounds", unfollowed := true, recurses := true, apart := false, narrowed := true }
def LockRoundsUptoSaid : Prop := lockRoundsUptoRow.holds Try.pinned (OpenSpec.upto lockRoundsSpec)

end Rows
end Go.Proofs.Ytcccjpahikgibaa
