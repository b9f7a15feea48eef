/-
  No cell of these rows narrows 'for every input' (looked for: loops, veiled, ifaces, maps, wideKeys, modest, calm, conditions, laid).
  DERIVED. THE GIVEN ROWS OF THIS SEAT. 9 by the template 'for every input the law returns true; each argument reads behind the call as it read before'; 0 by the template 'total and deterministic' (their statements: YtbphidfhcijbhaaTotals.lean).
  GIVEN WITH THE SEED: the statements are not yours to turn. If you find one false, say at which input.
  Laid BY PROGRAM, IN A SANDBOX (cutbox-rows.mjs): the forced cells as the released guide's own fill.sh prints them over the translation a77be3dd59935c3a… (all of the seat's roots in one cut). By AI agents, Wed Nov 11 2026. No macro, syntax, notation, axiom, sorry.
-/
import Derived.Test.YtbphidfhcijbhaaChecked
import GoSem.Claim
import GoSem.ClaimJoined
import GoSem.ClaimMapViews
import Derived.JoinedTies
import Derived.KernelRfl
namespace Go.Proofs.Ytbphidfhcijbhaa
/- THE CELL 'sum', in the pinned program and in every row, IS THE sha256 OF THE DUMP (.gsa) THAT YtbphidfhcijbhaaProg.lean LOADS. Nothing in Lean hashes anything: it is a label: what it is worth is what the hold of that sum in a sandbox is worth. -/
noncomputable def Try.pinned : Pinned := { name := "ytbphidfhcijbhaa", sum := "a77be3dd59935c3aa33ddf9a6e715e2d42c27ee148752f1ba01b7161cc8a1b47", checked := Try.checked }
namespace Rows
def none {H : Type} : Left H := { results := [], args := [] }

/-- 'gabionlaw03.PmLasts': WHATEVER THE INPUT: true; the input reads as it did. -/
def pmLastsSpec : ChangeSpec := { name := "pmLasts", fn := fun _ => fun
  | [d1, d2, d3] => { results := [.lit (.bool true)], args := [d1, d2, d3] }
  | _ => none }
def pmLastsRow : OpenClaim := { program := "ytbphidfhcijbhaa", sum := "a77be3dd59935c3aa33ddf9a6e715e2d42c27ee148752f1ba01b7161cc8a1b47", func := "gabion/gabionlaw03.PmLasts", spec := "pmLasts", unfollowed := true, recurses := true, apart := false }
def PmLastsSaid : Prop := pmLastsRow.holds Try.pinned (OpenSpec.ofChange pmLastsSpec)

/-- ITS FALSE NEIGHBOUR: 'it returns false'. Refute it at one input. -/
def pmLastsWrong : ChangeSpec := { name := "pmLasts", fn := fun _ => fun
  | [d1, d2, d3] => { results := [.lit (.bool false)], args := [d1, d2, d3] }
  | _ => none }
def PmLastsWrongFalsely : Prop := pmLastsRow.holds Try.pinned (OpenSpec.ofChange pmLastsWrong)

/-- 'gabionlaw03.PmWears': WHATEVER THE INPUT: true; the input reads as it did. -/
def pmWearsSpec : ChangeSpec := { name := "pmWears", fn := fun _ => fun
  | [d] => { results := [.lit (.bool true)], args := [d] }
  | _ => none }
def pmWearsRow : OpenClaim := { program := "ytbphidfhcijbhaa", sum := "a77be3dd59935c3aa33ddf9a6e715e2d42c27ee148752f1ba01b7161cc8a1b47", func := "gabion/gabionlaw03.PmWears", spec := "pmWears", unfollowed := true, recurses := true, apart := false }
def PmWearsSaid : Prop := pmWearsRow.holds Try.pinned (OpenSpec.ofChange pmWearsSpec)

/-- ITS FALSE NEIGHBOUR: 'it returns false'. Refute it at one input. -/
def pmWearsWrong : ChangeSpec := { name := "pmWears", fn := fun _ => fun
  | [d] => { results := [.lit (.bool false)], args := [d] }
  | _ => none }
def PmWearsWrongFalsely : Prop := pmWearsRow.holds Try.pinned (OpenSpec.ofChange pmWearsWrong)

/-- 'gabionlaw03.PmPlays': WHATEVER THE INPUT: true; the input reads as it did. -/
def pmPlaysSpec : ChangeSpec := { name := "pmPlays", fn := fun _ => fun
  | [d1, d2] => { results := [.lit (.bool true)], args := [d1, d2] }
  | _ => none }
def pmPlaysRow : OpenClaim := { program := "ytbphidfhcijbhaa", sum := "a77be3dd59935c3aa33ddf9a6e715e2d42c27ee148752f1ba01b7161cc8a1b47", func := "gabion/gabionlaw03.PmPlays", spec := "pmPlays", unfollowed := true, recurses := true, apart := false }
def PmPlaysSaid : Prop := pmPlaysRow.holds Try.pinned (OpenSpec.ofChange pmPlaysSpec)

/-- ITS FALSE NEIGHBOUR: 'it returns false'. Refute it at one input. -/
def pmPlaysWrong : ChangeSpec := { name := "pmPlays", fn := fun _ => fun
  | [d1, d2] => { results := [.lit (.bool false)], args := [d1, d2] }
  | _ => none }
def PmPlaysWrongFalsely : Prop := pmPlaysRow.holds Try.pinned (OpenSpec.ofChange pmPlaysWrong)

/-- 'gabionlaw03.PmFuse': WHATEVER THE INPUT: true; the input reads as it did. -/
def pmFuseSpec : ChangeSpec := { name := "pmFuse", fn := fun _ => fun
  | [d1, d2] => { results := [.lit (.bool true)], args := [d1, d2] }
  | _ => none }
def pmFuseRow : OpenClaim := { program := "ytbphidfhcijbhaa", sum := "a77be3dd59935c3aa33ddf9a6e715e2d42c27ee148752f1ba01b7161cc8a1b47", func := "gabion/gabionlaw03.PmFuse", spec := "pmFuse", unfollowed := true, recurses := true, apart := false }
def PmFuseSaid : Prop := pmFuseRow.holds Try.pinned (OpenSpec.ofChange pmFuseSpec)

/-- ITS FALSE NEIGHBOUR: 'it returns false'. Refute it at one input. -/
def pmFuseWrong : ChangeSpec := { name := "pmFuse", fn := fun _ => fun
  | [d1, d2] => { results := [.lit (.bool false)], args := [d1, d2] }
  | _ => none }
def PmFuseWrongFalsely : Prop := pmFuseRow.holds Try.pinned (OpenSpec.ofChange pmFuseWrong)

/-- 'gabionlaw04.LineNone': WHATEVER THE INPUT: true; the input reads as it did. -/
def lineNoneSpec : ChangeSpec := { name := "lineNone", fn := fun _ => fun
  | [d1, d2, d3] => { results := [.lit (.bool true)], args := [d1, d2, d3] }
  | _ => none }
def lineNoneRow : OpenClaim := { program := "ytbphidfhcijbhaa", sum := "a77be3dd59935c3aa33ddf9a6e715e2d42c27ee148752f1ba01b7161cc8a1b47", func := "gabion/gabionlaw04.LineNone", spec := "lineNone", inPlace := ["internal/abi.NoEscape", "internal/bytealg.MakeNoZero"], unfollowed := true, recurses := true, apart := false }
def LineNoneSaid : Prop := lineNoneRow.holds Try.pinned (OpenSpec.ofChange lineNoneSpec)

/-- ITS FALSE NEIGHBOUR: 'it returns false'. Refute it at one input. -/
def lineNoneWrong : ChangeSpec := { name := "lineNone", fn := fun _ => fun
  | [d1, d2, d3] => { results := [.lit (.bool false)], args := [d1, d2, d3] }
  | _ => none }
def LineNoneWrongFalsely : Prop := lineNoneRow.holds Try.pinned (OpenSpec.ofChange lineNoneWrong)

/-- 'gabionlaw04.LineMixes': WHATEVER THE INPUT: true; the input reads as it did. -/
def lineMixesSpec : ChangeSpec := { name := "lineMixes", fn := fun _ => fun
  | [d1, d2, d3] => { results := [.lit (.bool true)], args := [d1, d2, d3] }
  | _ => none }
def lineMixesRow : OpenClaim := { program := "ytbphidfhcijbhaa", sum := "a77be3dd59935c3aa33ddf9a6e715e2d42c27ee148752f1ba01b7161cc8a1b47", func := "gabion/gabionlaw04.LineMixes", spec := "lineMixes", inPlace := ["internal/abi.NoEscape", "internal/bytealg.MakeNoZero"], unfollowed := true, recurses := true, apart := false }
def LineMixesSaid : Prop := lineMixesRow.holds Try.pinned (OpenSpec.ofChange lineMixesSpec)

/-- ITS FALSE NEIGHBOUR: 'it returns false'. Refute it at one input. -/
def lineMixesWrong : ChangeSpec := { name := "lineMixes", fn := fun _ => fun
  | [d1, d2, d3] => { results := [.lit (.bool false)], args := [d1, d2, d3] }
  | _ => none }
def LineMixesWrongFalsely : Prop := lineMixesRow.holds Try.pinned (OpenSpec.ofChange lineMixesWrong)

/-- 'gabionlaw04.LineCosts': WHATEVER THE INPUT: true; the input reads as it did. -/
def lineCostsSpec : ChangeSpec := { name := "lineCosts", fn := fun _ => fun
  | [d1, d2, d3] => { results := [.lit (.bool true)], args := [d1, d2, d3] }
  | _ => none }
def lineCostsRow : OpenClaim := { program := "ytbphidfhcijbhaa", sum := "a77be3dd59935c3aa33ddf9a6e715e2d42c27ee148752f1ba01b7161cc8a1b47", func := "gabion/gabionlaw04.LineCosts", spec := "lineCosts", inPlace := ["internal/abi.NoEscape", "internal/bytealg.MakeNoZero"], unfollowed := true, recurses := true, apart := false }
def LineCostsSaid : Prop := lineCostsRow.holds Try.pinned (OpenSpec.ofChange lineCostsSpec)

/-- ITS FALSE NEIGHBOUR: 'it returns false'. Refute it at one input. -/
def lineCostsWrong : ChangeSpec := { name := "lineCosts", fn := fun _ => fun
  | [d1, d2, d3] => { results := [.lit (.bool false)], args := [d1, d2, d3] }
  | _ => none }
def LineCostsWrongFalsely : Prop := lineCostsRow.holds Try.pinned (OpenSpec.ofChange lineCostsWrong)

/-- 'gabionlaw04.LinePlays': WHATEVER THE INPUT: true; the input reads as it did. -/
def linePlaysSpec : ChangeSpec := { name := "linePlays", fn := fun _ => fun
  | [d] => { results := [.lit (.bool true)], args := [d] }
  | _ => none }
def linePlaysRow : OpenClaim := { program := "ytbphidfhcijbhaa", sum := "a77be3dd59935c3aa33ddf9a6e715e2d42c27ee148752f1ba01b7161cc8a1b47", func := "gabion/gabionlaw04.LinePlays", spec := "linePlays", inPlace := ["internal/abi.NoEscape", "internal/bytealg.MakeNoZero"], unfollowed := true, recurses := true, apart := false }
def LinePlaysSaid : Prop := linePlaysRow.holds Try.pinned (OpenSpec.ofChange linePlaysSpec)

/-- ITS FALSE NEIGHBOUR: 'it returns false'. Refute it at one input. -/
def linePlaysWrong : ChangeSpec := { name := "linePlays", fn := fun _ => fun
  | [d] => { results := [.lit (.bool false)], args := [d] }
  | _ => none }
def LinePlaysWrongFalsely : Prop := linePlaysRow.holds Try.pinned (OpenSpec.ofChange linePlaysWrong)

/-- 'gabionlaw04.LineTorn': WHATEVER THE INPUT: true; the input reads as it did. -/
def lineTornSpec : ChangeSpec := { name := "lineTorn", fn := fun _ => fun
  | [d1, d2, d3] => { results := [.lit (.bool true)], args := [d1, d2, d3] }
  | _ => none }
def lineTornRow : OpenClaim := { program := "ytbphidfhcijbhaa", sum := "a77be3dd59935c3aa33ddf9a6e715e2d42c27ee148752f1ba01b7161cc8a1b47", func := "gabion/gabionlaw04.LineTorn", spec := "lineTorn", inPlace := ["internal/abi.NoEscape", "internal/bytealg.MakeNoZero"], unfollowed := true, recurses := true, apart := false }
def LineTornSaid : Prop := lineTornRow.holds Try.pinned (OpenSpec.ofChange lineTornSpec)

/-- ITS FALSE NEIGHBOUR: 'it returns false'. Refute it at one input. -/
def lineTornWrong : ChangeSpec := { name := "lineTorn", fn := fun _ => fun
  | [d1, d2, d3] => { results := [.lit (.bool false)], args := [d1, d2, d3] }
  | _ => none }
def LineTornWrongFalsely : Prop := lineTornRow.holds Try.pinned (OpenSpec.ofChange lineTornWrong)

/- THE SECOND FORM. 'bulk': how many values and letters a reading holds, each counted each time it is reached (what is shared counts as often as it is met; a slice's spare places count too). A statement '..UptoSaid' is the law's where the arguments, and the package variables that the reading takes, are together of bulk at most 1048576: NARROWER than '..Said'. Prove '..Said' where nothing that the law and all that it calls make is longer than what came in: it says more and counts as full. Else prove '..UptoSaid'. A law counts once. -/
mutual
def uptoBulk {H : Type} : DataW H → Nat
  | .lit (.string bytes) => bytes.length + 1
  | .lit _ => 1
  | .nil => 1
  | .ptr d => uptoBulk d + 1
  | .slice elems spare => uptoBulkAll elems + uptoBulkAll spare + 1
  | .agg parts => uptoBulkAll parts + 1
  | .iface _ d => uptoBulk d + 1
  | .map entries => uptoBulkEntries entries + 1
  | .held _ => 1
def uptoBulkAll {H : Type} : List (DataW H) → Nat
  | [] => 0
  | d :: r => uptoBulk d + uptoBulkAll r
def uptoBulkEntries {H : Type} : List (Lit × DataW H) → Nat
  | [] => 0
  | x :: r => uptoBulkEntry x + uptoBulkEntries r
def uptoBulkEntry {H : Type} : Lit × DataW H → Nat
  | (.string bytes, d) => bytes.length + uptoBulk d + 1
  | (_, d) => uptoBulk d + 1
 end
def uptoSmall : (H : Type) → List (DataW H) → Bool := fun _ ds => decide (uptoBulkAll ds ≤ 1048576)
def OpenSpec.upto (s : _root_.Go.ChangeSpec) : _root_.Go.OpenSpec := { _root_.Go.OpenSpec.ofChange s with cond := some uptoSmall }

/-- 'gabionlaw03.PmLasts', WHERE WHAT IT READS IS OF BULK AT MOST 1048576: true; the input reads as it did. -/
def pmLastsUptoRow : OpenClaim := { program := "ytbphidfhcijbhaa", sum := "a77be3dd59935c3aa33ddf9a6e715e2d42c27ee148752f1ba01b7161cc8a1b47", func := "gabion/gabionlaw03.PmLasts", spec := "pmLasts", unfollowed := true, recurses := true, apart := false, narrowed := true }
def PmLastsUptoSaid : Prop := pmLastsUptoRow.holds Try.pinned (OpenSpec.upto pmLastsSpec)

/-- 'gabionlaw03.PmWears', WHERE WHAT IT READS IS OF BULK AT MOST 1048576: true; the input reads as it did. -/
def pmWearsUptoRow : OpenClaim := { program := "ytbphidfhcijbhaa", sum := "a77be3dd59935c3aa33ddf9a6e715e2d42c27ee148752f1ba01b7161cc8a1b47", func := "gabion/gabionlaw03.PmWears", spec := "pmWears", unfollowed := true, recurses := true, apart := false, narrowed := true }
def PmWearsUptoSaid : Prop := pmWearsUptoRow.holds Try.pinned (OpenSpec.upto pmWearsSpec)

/-- 'gabionlaw03.PmPlays', WHERE WHAT IT READS IS OF BULK AT MOST 1048576: true; the input reads as it did. -/
def pmPlaysUptoRow : OpenClaim := { program := "ytbphidfhcijbhaa", sum := "a77be3dd59935c3aa33ddf9a6e715e2d42c27ee148752f1ba01b7161cc8a1b47", func := "gabion/gabionlaw03.PmPlays", spec := "pmPlays", unfollowed := true, recurses := true, apart := false, narrowed := true }
def PmPlaysUptoSaid : Prop := pmPlaysUptoRow.holds Try.pinned (OpenSpec.upto pmPlaysSpec)

/-- 'gabionlaw03.PmFuse', WHERE WHAT IT READS IS OF BULK AT MOST 1048576: true; the input reads as it did. -/
def pmFuseUptoRow : OpenClaim := { program := "ytbphidfhcijbhaa", sum := "a77be3dd59935c3aa33ddf9a6e715e2d42c27ee148752f1ba01b7161cc8a1b47", func := "gabion/gabionlaw03.PmFuse", spec := "pmFuse", unfollowed := true, recurses := true, apart := false, narrowed := true }
def PmFuseUptoSaid : Prop := pmFuseUptoRow.holds Try.pinned (OpenSpec.upto pmFuseSpec)

/-- 'gabionlaw04.LineNone', WHERE WHAT IT READS IS OF BULK AT MOST 1048576: true; the input reads as it did. -/
def lineNoneUptoRow : OpenClaim := { program := "ytbphidfhcijbhaa", sum := "a77be3dd59935c3aa33ddf9a6e715e2d42c27ee148752f1ba01b7161cc8a1b47", func := "gabion/gabionlaw04.LineNone", spec := "lineNone", inPlace := ["internal/abi.NoEscape", "internal/bytealg.MakeNoZero"], unfollowed := true, recurses := true, apart := false, narrowed := true }
def LineNoneUptoSaid : Prop := lineNoneUptoRow.holds Try.pinned (OpenSpec.upto lineNoneSpec)

/-- 'gabionlaw04.LineMixes', WHERE WHAT IT READS IS OF BULK AT MOST 1048576: true; the input reads as it did. -/
def lineMixesUptoRow : OpenClaim := { program := "ytbphidfhcijbhaa", sum := "a77be3dd59935c3aa33ddf9a6e715e2d42c27ee148752f1ba01b7161cc8a1b47", func := "gabion/gabionlaw04.LineMixes", spec := "lineMixes", inPlace := ["internal/abi.NoEscape", "internal/bytealg.MakeNoZero"], unfollowed := true, recurses := true, apart := false, narrowed := true }
def LineMixesUptoSaid : Prop := lineMixesUptoRow.holds Try.pinned (OpenSpec.upto lineMixesSpec)

/-- 'gabionlaw04.LineCosts', WHERE WHAT IT READS IS OF BULK AT MOST 1048576: true; the input reads as it did. -/
def lineCostsUptoRow : OpenClaim := { program := "ytbphidfhcijbhaa", sum := "a77be3dd59935c3aa33ddf9a6e715e2d42c27ee148752f1ba01b7161cc8a1b47", func := "gabion/gabionlaw04.LineCosts", spec := "lineCosts", inPlace := ["internal/abi.NoEscape", "internal/bytealg.MakeNoZero"], unfollowed := true, recurses := true, apart := false, narrowed := true }
def LineCostsUptoSaid : Prop := lineCostsUptoRow.holds Try.pinned (OpenSpec.upto lineCostsSpec)

/-- 'gabionlaw04.LinePlays', WHERE WHAT IT READS IS OF BULK AT MOST 1048576: true; the input reads as it did. -/
def linePlaysUptoRow : OpenClaim := { program := "ytbphidfhcijbhaa", sum := "a77be3dd59935c3aa33ddf9a6e715e2d42c27ee148752f1ba01b7161cc8a1b47", func := "gabion/gabionlaw04.LinePlays", spec := "linePlays", inPlace := ["internal/abi.NoEscape", "internal/bytealg.MakeNoZero"], unfollowed := true, recurses := true, apart := false, narrowed := true }
def LinePlaysUptoSaid : Prop := linePlaysUptoRow.holds Try.pinned (OpenSpec.upto linePlaysSpec)

/-- 'gabionlaw04.LineTorn', WHERE WHAT IT READS IS OF BULK AT MOST 1048576: true; the input reads as it did. -/
def lineTornUptoRow : OpenClaim := { program := "ytbphidfhcijbhaa", sum := "a77be3dd59935c3aa33ddf9a6e715e2d42c27ee148752f1ba01b7161cc8a1b47", func := "gabion/gabionlaw04.LineTorn", spec := "lineTorn", inPlace := ["internal/abi.NoEscape", "internal/bytealg.MakeNoZero"], unfollowed := true, recurses := true, apart := false, narrowed := true }
def LineTornUptoSaid : Prop := lineTornUptoRow.holds Try.pinned (OpenSpec.upto lineTornSpec)

end Rows
end Go.Proofs.Ytbphidfhcijbhaa
