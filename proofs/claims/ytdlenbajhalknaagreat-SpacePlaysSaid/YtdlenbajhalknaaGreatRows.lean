/-
  No cell of these rows narrows 'for every input' (looked for: loops, veiled, ifaces, maps, wideKeys, modest, calm, conditions, laid).
  DERIVED. THE GIVEN ROWS OF THIS SEAT. 4 by the template 'for every input the law returns true; each argument reads behind the call as it read before'; 0 by the template 'total and deterministic' (their statements: YtdlenbajhalknaaGreatTotals.lean).
  GIVEN WITH THE SEED: the statements are not yours to turn. If you find one false, say at which input.
  Laid BY PROGRAM, IN A SANDBOX (cutbox-rows.mjs): the forced cells as the released guide's own fill.sh prints them over the translation 71b8a29a81adada7… (all of the seat's roots in one cut). By AI agents, Wed Nov 11 2026. No macro, syntax, notation, axiom, sorry.
-/
import Derived.Test.YtdlenbajhalknaaGreatChecked
import GoSem.Claim
import GoSem.ClaimJoined
import GoSem.ClaimMapViews
import Derived.JoinedTies
import Derived.KernelRfl
namespace Go.Proofs.YtdlenbajhalknaaGreat
/- THE CELL 'sum', in the pinned program and in every row, IS THE sha256 OF THE DUMP (.gsa) THAT YtdlenbajhalknaaGreatProg.lean LOADS. Nothing in Lean hashes anything: it is a label: what it is worth is what the hold of that sum in a sandbox is worth. -/
noncomputable def Tryz.pinned : Pinned := { name := "ytdlenbajhalknaagreat", sum := "71b8a29a81adada72e66522ff9bcb9113a813bbe97626816fa551b377df7ef7c", checked := Tryz.checked }
namespace Rows
def none {H : Type} : Left H := { results := [], args := [] }

/-- 'gabionlaw11.SpaceParts': WHATEVER THE INPUT: true; the input reads as it did. -/
def spacePartsSpec : ChangeSpec := { name := "spaceParts", fn := fun _ => fun
  | [d1, d2, d3] => { results := [.lit (.bool true)], args := [d1, d2, d3] }
  | _ => none }
def spacePartsRow : OpenClaim := { program := "ytdlenbajhalknaagreat", sum := "71b8a29a81adada72e66522ff9bcb9113a813bbe97626816fa551b377df7ef7c", func := "gabion/gabionlaw11.SpaceParts", spec := "spaceParts", inPlace := ["internal/abi.NoEscape", "internal/bytealg.MakeNoZero"], unfollowed := true, recurses := true, apart := false }
def SpacePartsSaid : Prop := spacePartsRow.holds Tryz.pinned (OpenSpec.ofChange spacePartsSpec)

/-- ITS FALSE NEIGHBOUR: 'it returns false'. Refute it at one input. -/
def spacePartsWrong : ChangeSpec := { name := "spaceParts", fn := fun _ => fun
  | [d1, d2, d3] => { results := [.lit (.bool false)], args := [d1, d2, d3] }
  | _ => none }
def SpacePartsWrongFalsely : Prop := spacePartsRow.holds Tryz.pinned (OpenSpec.ofChange spacePartsWrong)

/-- 'gabionlaw11.SpaceReads': WHATEVER THE INPUT: true; the input reads as it did. -/
def spaceReadsSpec : ChangeSpec := { name := "spaceReads", fn := fun _ => fun
  | [d1, d2, d3] => { results := [.lit (.bool true)], args := [d1, d2, d3] }
  | _ => none }
def spaceReadsRow : OpenClaim := { program := "ytdlenbajhalknaagreat", sum := "71b8a29a81adada72e66522ff9bcb9113a813bbe97626816fa551b377df7ef7c", func := "gabion/gabionlaw11.SpaceReads", spec := "spaceReads", inPlace := ["internal/abi.NoEscape", "internal/bytealg.MakeNoZero"], unfollowed := true, recurses := true, apart := false }
def SpaceReadsSaid : Prop := spaceReadsRow.holds Tryz.pinned (OpenSpec.ofChange spaceReadsSpec)

/-- ITS FALSE NEIGHBOUR: 'it returns false'. Refute it at one input. -/
def spaceReadsWrong : ChangeSpec := { name := "spaceReads", fn := fun _ => fun
  | [d1, d2, d3] => { results := [.lit (.bool false)], args := [d1, d2, d3] }
  | _ => none }
def SpaceReadsWrongFalsely : Prop := spaceReadsRow.holds Tryz.pinned (OpenSpec.ofChange spaceReadsWrong)

/-- 'gabionlaw11.SpaceTorn': WHATEVER THE INPUT: true; the input reads as it did. -/
def spaceTornSpec : ChangeSpec := { name := "spaceTorn", fn := fun _ => fun
  | [d1, d2, d3] => { results := [.lit (.bool true)], args := [d1, d2, d3] }
  | _ => none }
def spaceTornRow : OpenClaim := { program := "ytdlenbajhalknaagreat", sum := "71b8a29a81adada72e66522ff9bcb9113a813bbe97626816fa551b377df7ef7c", func := "gabion/gabionlaw11.SpaceTorn", spec := "spaceTorn", inPlace := ["internal/abi.NoEscape", "internal/bytealg.MakeNoZero"], unfollowed := true, recurses := true, apart := false }
def SpaceTornSaid : Prop := spaceTornRow.holds Tryz.pinned (OpenSpec.ofChange spaceTornSpec)

/-- ITS FALSE NEIGHBOUR: 'it returns false'. Refute it at one input. -/
def spaceTornWrong : ChangeSpec := { name := "spaceTorn", fn := fun _ => fun
  | [d1, d2, d3] => { results := [.lit (.bool false)], args := [d1, d2, d3] }
  | _ => none }
def SpaceTornWrongFalsely : Prop := spaceTornRow.holds Tryz.pinned (OpenSpec.ofChange spaceTornWrong)

/-- 'gabionlaw11.SpacePlays': WHATEVER THE INPUT: true; the input reads as it did. -/
def spacePlaysSpec : ChangeSpec := { name := "spacePlays", fn := fun _ => fun
  | [d1, d2] => { results := [.lit (.bool true)], args := [d1, d2] }
  | _ => none }
def spacePlaysRow : OpenClaim := { program := "ytdlenbajhalknaagreat", sum := "71b8a29a81adada72e66522ff9bcb9113a813bbe97626816fa551b377df7ef7c", func := "gabion/gabionlaw11.SpacePlays", spec := "spacePlays", inPlace := ["internal/abi.NoEscape", "internal/bytealg.MakeNoZero"], unfollowed := true, recurses := true, apart := false }
def SpacePlaysSaid : Prop := spacePlaysRow.holds Tryz.pinned (OpenSpec.ofChange spacePlaysSpec)

/-- ITS FALSE NEIGHBOUR: 'it returns false'. Refute it at one input. -/
def spacePlaysWrong : ChangeSpec := { name := "spacePlays", fn := fun _ => fun
  | [d1, d2] => { results := [.lit (.bool false)], args := [d1, d2] }
  | _ => none }
def SpacePlaysWrongFalsely : Prop := spacePlaysRow.holds Tryz.pinned (OpenSpec.ofChange spacePlaysWrong)

/- THE SECOND FORM. 'bulk': how many values and letters a reading holds, each counted each time it is reached (what is shared counts as often as it is met; a slice's spare places count too). A statement '..UptoSaid' is the law's where the arguments, and the package variables that the reading takes, are together of bulk at most 1048576: NARROWER than '..Said'. Prove '..Said' where nothing that the law and all that it calls make is longer than what came in: it says more and counts as full. Else prove '..UptoSaid'. A law counts once. -/
mutual
def uptoBulk {H : Type} : DataW H → Nat
  | .lit (.string bytes) => bytes.length + 1
  | .lit _ => 1
  | .nil => 1
  | .ptr d => uptoBulk d + 1
  | .slice elems spare => uptoBulkAll elems + uptoBulkAll spare + 1
  | .agg parts => uptoBulkAll parts + 1
  | .iface _ d => uptoBulk d + 1
  | .map entries => uptoBulkEntries entries + 1
  | .held _ => 1
def uptoBulkAll {H : Type} : List (DataW H) → Nat
  | [] => 0
  | d :: r => uptoBulk d + uptoBulkAll r
def uptoBulkEntries {H : Type} : List (Lit × DataW H) → Nat
  | [] => 0
  | x :: r => uptoBulkEntry x + uptoBulkEntries r
def uptoBulkEntry {H : Type} : Lit × DataW H → Nat
  | (.string bytes, d) => bytes.length + uptoBulk d + 1
  | (_, d) => uptoBulk d + 1
 end
def uptoSmall : (H : Type) → List (DataW H) → Bool := fun _ ds => decide (uptoBulkAll ds ≤ 1048576)
def OpenSpec.upto (s : _root_.Go.ChangeSpec) : _root_.Go.OpenSpec := { _root_.Go.OpenSpec.ofChange s with cond := some uptoSmall }

/-- 'gabionlaw11.SpaceParts', WHERE WHAT IT READS IS OF BULK AT MOST 1048576: true; the input reads as it did. -/
def spacePartsUptoRow : OpenClaim := { program := "ytdlenbajhalknaagreat", sum := "71b8a29a81adada72e66522ff9bcb9113a813bbe97626816fa551b377df7ef7c", func := "gabion/gabionlaw11.SpaceParts", spec := "spaceParts", inPlace := ["internal/abi.NoEscape", "internal/bytealg.MakeNoZero"], unfollowed := true, recurses := true, apart := false, narrowed := true }
def SpacePartsUptoSaid : Prop := spacePartsUptoRow.holds Tryz.pinned (OpenSpec.upto spacePartsSpec)

/-- 'gabionlaw11.SpaceReads', WHERE WHAT IT READS IS OF BULK AT MOST 1048576: true; the input reads as it did. -/
def spaceReadsUptoRow : OpenClaim := { program := "ytdlenbajhalknaagreat", sum := "71b8a29a81adada72e66522ff9bcb9113a813bbe97626816fa551b377df7ef7c", func := "gabion/gabionlaw11.SpaceReads", spec := "spaceReads", inPlace := ["internal/abi.NoEscape", "internal/bytealg.MakeNoZero"], unfollowed := true, recurses := true, apart := false, narrowed := true }
def SpaceReadsUptoSaid : Prop := spaceReadsUptoRow.holds Tryz.pinned (OpenSpec.upto spaceReadsSpec)

/-- 'gabionlaw11.SpaceTorn', WHERE WHAT IT READS IS OF BULK AT MOST 1048576: true; the input reads as it did. -/
def spaceTornUptoRow : OpenClaim := { program := "ytdlenbajhalknaagreat", sum := "71b8a29a81adada72e66522ff9bcb9113a813bbe97626816fa551b377df7ef7c", func := "gabion/gabionlaw11.SpaceTorn", spec := "spaceTorn", inPlace := ["internal/abi.NoEscape", "internal/bytealg.MakeNoZero"], unfollowed := true, recurses := true, apart := false, narrowed := true }
def SpaceTornUptoSaid : Prop := spaceTornUptoRow.holds Tryz.pinned (OpenSpec.upto spaceTornSpec)

/-- 'gabionlaw11.SpacePlays', WHERE WHAT IT READS IS OF BULK AT MOST 1048576: true; the input reads as it did. -/
def spacePlaysUptoRow : OpenClaim := { program := "ytdlenbajhalknaagreat", sum := "71b8a29a81adada72e66522ff9bcb9113a813bbe97626816fa551b377df7ef7c", func := "gabion/gabionlaw11.SpacePlays", spec := "spacePlays", inPlace := ["internal/abi.NoEscape", "internal/bytealg.MakeNoZero"], unfollowed := true, recurses := true, apart := false, narrowed := true }
def SpacePlaysUptoSaid : Prop := spacePlaysUptoRow.holds Tryz.pinned (OpenSpec.upto spacePlaysSpec)

end Rows
end Go.Proofs.YtdlenbajhalknaaGreat
