/-
  No cell of these rows narrows 'for every input' (looked for: loops, veiled, ifaces, maps, wideKeys, modest, calm, conditions, laid).
  DERIVED. THE GIVEN ROWS OF THIS SEAT. 11 by the template 'for every input the law returns true; each argument reads behind the call as it read before'; 0 by the template 'total and deterministic' (their statements: YtjdleeamgmkbkaaGreatTotals.lean).
  GIVEN WITH THE SEED: the statements are not yours to turn. If you find one false, say at which input.
  Laid BY PROGRAM, IN A SANDBOX (cutbox-rows.mjs): the forced cells as the released guide's own fill.sh prints them over the translation 3a7b88f1cba2baf8… (all of the seat's roots in one cut). By AI agents, Wed Nov 11 2026. No macro, syntax, notation, axiom, sorry.
-/
import Derived.Test.YtjdleeamgmkbkaaGreatChecked
import GoSem.Claim
import GoSem.ClaimJoined
import GoSem.ClaimMapViews
import Derived.JoinedTies
import Derived.KernelRfl
namespace Go.Proofs.YtjdleeamgmkbkaaGreat
/- THE CELL 'sum', in the pinned program and in every row, IS THE sha256 OF THE DUMP (.gsa) THAT YtjdleeamgmkbkaaGreatProg.lean LOADS. Nothing in Lean hashes anything: it is a label: what it is worth is what the hold of that sum in a sandbox is worth. -/
noncomputable def Tryz.pinned : Pinned := { name := "ytjdleeamgmkbkaagreat", sum := "3a7b88f1cba2baf8249044c6739cef5d90f984d13b49b7881508ea45879b1a0f", checked := Tryz.checked }
namespace Rows
def none {H : Type} : Left H := { results := [], args := [] }

/-- 'gabionlaw09.FlatAlike': WHATEVER THE INPUT: true; the input reads as it did. -/
def flatAlikeSpec : ChangeSpec := { name := "flatAlike", fn := fun _ => fun
  | [d1, d2, d3] => { results := [.lit (.bool true)], args := [d1, d2, d3] }
  | _ => none }
def flatAlikeRow : OpenClaim := { program := "ytjdleeamgmkbkaagreat", sum := "3a7b88f1cba2baf8249044c6739cef5d90f984d13b49b7881508ea45879b1a0f", func := "gabion/gabionlaw09.FlatAlike", spec := "flatAlike", inPlace := ["internal/abi.NoEscape", "internal/bytealg.MakeNoZero"], unfollowed := true, recurses := true, plainKeys := false, apart := false }
def FlatAlikeSaid : Prop := flatAlikeRow.holds Tryz.pinned (OpenSpec.ofChange flatAlikeSpec)

/-- ITS FALSE NEIGHBOUR: 'it returns false'. Refute it at one input. -/
def flatAlikeWrong : ChangeSpec := { name := "flatAlike", fn := fun _ => fun
  | [d1, d2, d3] => { results := [.lit (.bool false)], args := [d1, d2, d3] }
  | _ => none }
def FlatAlikeWrongFalsely : Prop := flatAlikeRow.holds Tryz.pinned (OpenSpec.ofChange flatAlikeWrong)

/-- 'gabionlaw09.FlatKeeps': WHATEVER THE INPUT: true; the input reads as it did. -/
def flatKeepsSpec : ChangeSpec := { name := "flatKeeps", fn := fun _ => fun
  | [d1, d2] => { results := [.lit (.bool true)], args := [d1, d2] }
  | _ => none }
def flatKeepsRow : OpenClaim := { program := "ytjdleeamgmkbkaagreat", sum := "3a7b88f1cba2baf8249044c6739cef5d90f984d13b49b7881508ea45879b1a0f", func := "gabion/gabionlaw09.FlatKeeps", spec := "flatKeeps", inPlace := ["internal/abi.NoEscape", "internal/bytealg.MakeNoZero"], unfollowed := true, recurses := true, plainKeys := false, apart := false }
def FlatKeepsSaid : Prop := flatKeepsRow.holds Tryz.pinned (OpenSpec.ofChange flatKeepsSpec)

/-- ITS FALSE NEIGHBOUR: 'it returns false'. Refute it at one input. -/
def flatKeepsWrong : ChangeSpec := { name := "flatKeeps", fn := fun _ => fun
  | [d1, d2] => { results := [.lit (.bool false)], args := [d1, d2] }
  | _ => none }
def FlatKeepsWrongFalsely : Prop := flatKeepsRow.holds Tryz.pinned (OpenSpec.ofChange flatKeepsWrong)

/-- 'gabionlaw09.FlatTorn': WHATEVER THE INPUT: true; the input reads as it did. -/
def flatTornSpec : ChangeSpec := { name := "flatTorn", fn := fun _ => fun
  | [d1, d2, d3] => { results := [.lit (.bool true)], args := [d1, d2, d3] }
  | _ => none }
def flatTornRow : OpenClaim := { program := "ytjdleeamgmkbkaagreat", sum := "3a7b88f1cba2baf8249044c6739cef5d90f984d13b49b7881508ea45879b1a0f", func := "gabion/gabionlaw09.FlatTorn", spec := "flatTorn", inPlace := ["internal/abi.NoEscape", "internal/bytealg.MakeNoZero"], unfollowed := true, recurses := true, plainKeys := false, apart := false }
def FlatTornSaid : Prop := flatTornRow.holds Tryz.pinned (OpenSpec.ofChange flatTornSpec)

/-- ITS FALSE NEIGHBOUR: 'it returns false'. Refute it at one input. -/
def flatTornWrong : ChangeSpec := { name := "flatTorn", fn := fun _ => fun
  | [d1, d2, d3] => { results := [.lit (.bool false)], args := [d1, d2, d3] }
  | _ => none }
def FlatTornWrongFalsely : Prop := flatTornRow.holds Tryz.pinned (OpenSpec.ofChange flatTornWrong)

/-- 'gabionlaw09.FlatMakes': WHATEVER THE INPUT: true; the input reads as it did. -/
def flatMakesSpec : ChangeSpec := { name := "flatMakes", fn := fun _ => fun
  | [d1, d2, d3] => { results := [.lit (.bool true)], args := [d1, d2, d3] }
  | _ => none }
def flatMakesRow : OpenClaim := { program := "ytjdleeamgmkbkaagreat", sum := "3a7b88f1cba2baf8249044c6739cef5d90f984d13b49b7881508ea45879b1a0f", func := "gabion/gabionlaw09.FlatMakes", spec := "flatMakes", inPlace := ["internal/abi.NoEscape", "internal/bytealg.MakeNoZero"], unfollowed := true, recurses := true, plainKeys := false, apart := false }
def FlatMakesSaid : Prop := flatMakesRow.holds Tryz.pinned (OpenSpec.ofChange flatMakesSpec)

/-- ITS FALSE NEIGHBOUR: 'it returns false'. Refute it at one input. -/
def flatMakesWrong : ChangeSpec := { name := "flatMakes", fn := fun _ => fun
  | [d1, d2, d3] => { results := [.lit (.bool false)], args := [d1, d2, d3] }
  | _ => none }
def FlatMakesWrongFalsely : Prop := flatMakesRow.holds Tryz.pinned (OpenSpec.ofChange flatMakesWrong)

/-- 'gabionlaw09.FlatPlays': WHATEVER THE INPUT: true; the input reads as it did. -/
def flatPlaysSpec : ChangeSpec := { name := "flatPlays", fn := fun _ => fun
  | [d1, d2] => { results := [.lit (.bool true)], args := [d1, d2] }
  | _ => none }
def flatPlaysRow : OpenClaim := { program := "ytjdleeamgmkbkaagreat", sum := "3a7b88f1cba2baf8249044c6739cef5d90f984d13b49b7881508ea45879b1a0f", func := "gabion/gabionlaw09.FlatPlays", spec := "flatPlays", inPlace := ["internal/abi.NoEscape", "internal/bytealg.MakeNoZero"], unfollowed := true, recurses := true, plainKeys := false, apart := false }
def FlatPlaysSaid : Prop := flatPlaysRow.holds Tryz.pinned (OpenSpec.ofChange flatPlaysSpec)

/-- ITS FALSE NEIGHBOUR: 'it returns false'. Refute it at one input. -/
def flatPlaysWrong : ChangeSpec := { name := "flatPlays", fn := fun _ => fun
  | [d1, d2] => { results := [.lit (.bool false)], args := [d1, d2] }
  | _ => none }
def FlatPlaysWrongFalsely : Prop := flatPlaysRow.holds Tryz.pinned (OpenSpec.ofChange flatPlaysWrong)

/-- 'gabionlaw10.HotCounts': WHATEVER THE INPUT: true; the input reads as it did. -/
def hotCountsSpec : ChangeSpec := { name := "hotCounts", fn := fun _ => fun
  | [d1, d2, d3] => { results := [.lit (.bool true)], args := [d1, d2, d3] }
  | _ => none }
def hotCountsRow : OpenClaim := { program := "ytjdleeamgmkbkaagreat", sum := "3a7b88f1cba2baf8249044c6739cef5d90f984d13b49b7881508ea45879b1a0f", func := "gabion/gabionlaw10.HotCounts", spec := "hotCounts", inPlace := ["internal/abi.NoEscape", "internal/bytealg.MakeNoZero"], unfollowed := true, recurses := true, plainKeys := false, apart := false }
def HotCountsSaid : Prop := hotCountsRow.holds Tryz.pinned (OpenSpec.ofChange hotCountsSpec)

/-- ITS FALSE NEIGHBOUR: 'it returns false'. Refute it at one input. -/
def hotCountsWrong : ChangeSpec := { name := "hotCounts", fn := fun _ => fun
  | [d1, d2, d3] => { results := [.lit (.bool false)], args := [d1, d2, d3] }
  | _ => none }
def HotCountsWrongFalsely : Prop := hotCountsRow.holds Tryz.pinned (OpenSpec.ofChange hotCountsWrong)

/-- 'gabionlaw10.HotAlike': WHATEVER THE INPUT: true; the input reads as it did. -/
def hotAlikeSpec : ChangeSpec := { name := "hotAlike", fn := fun _ => fun
  | [d1, d2, d3] => { results := [.lit (.bool true)], args := [d1, d2, d3] }
  | _ => none }
def hotAlikeRow : OpenClaim := { program := "ytjdleeamgmkbkaagreat", sum := "3a7b88f1cba2baf8249044c6739cef5d90f984d13b49b7881508ea45879b1a0f", func := "gabion/gabionlaw10.HotAlike", spec := "hotAlike", inPlace := ["internal/abi.NoEscape", "internal/bytealg.MakeNoZero"], unfollowed := true, recurses := true, plainKeys := false, apart := false }
def HotAlikeSaid : Prop := hotAlikeRow.holds Tryz.pinned (OpenSpec.ofChange hotAlikeSpec)

/-- ITS FALSE NEIGHBOUR: 'it returns false'. Refute it at one input. -/
def hotAlikeWrong : ChangeSpec := { name := "hotAlike", fn := fun _ => fun
  | [d1, d2, d3] => { results := [.lit (.bool false)], args := [d1, d2, d3] }
  | _ => none }
def HotAlikeWrongFalsely : Prop := hotAlikeRow.holds Tryz.pinned (OpenSpec.ofChange hotAlikeWrong)

/-- 'gabionlaw10.HotMakes': WHATEVER THE INPUT: true; the input reads as it did. -/
def hotMakesSpec : ChangeSpec := { name := "hotMakes", fn := fun _ => fun
  | [d1, d2, d3] => { results := [.lit (.bool true)], args := [d1, d2, d3] }
  | _ => none }
def hotMakesRow : OpenClaim := { program := "ytjdleeamgmkbkaagreat", sum := "3a7b88f1cba2baf8249044c6739cef5d90f984d13b49b7881508ea45879b1a0f", func := "gabion/gabionlaw10.HotMakes", spec := "hotMakes", inPlace := ["internal/abi.NoEscape", "internal/bytealg.MakeNoZero"], unfollowed := true, recurses := true, plainKeys := false, apart := false }
def HotMakesSaid : Prop := hotMakesRow.holds Tryz.pinned (OpenSpec.ofChange hotMakesSpec)

/-- ITS FALSE NEIGHBOUR: 'it returns false'. Refute it at one input. -/
def hotMakesWrong : ChangeSpec := { name := "hotMakes", fn := fun _ => fun
  | [d1, d2, d3] => { results := [.lit (.bool false)], args := [d1, d2, d3] }
  | _ => none }
def HotMakesWrongFalsely : Prop := hotMakesRow.holds Tryz.pinned (OpenSpec.ofChange hotMakesWrong)

/-- 'gabionlaw10.HotTorn': WHATEVER THE INPUT: true; the input reads as it did. -/
def hotTornSpec : ChangeSpec := { name := "hotTorn", fn := fun _ => fun
  | [d1, d2, d3] => { results := [.lit (.bool true)], args := [d1, d2, d3] }
  | _ => none }
def hotTornRow : OpenClaim := { program := "ytjdleeamgmkbkaagreat", sum := "3a7b88f1cba2baf8249044c6739cef5d90f984d13b49b7881508ea45879b1a0f", func := "gabion/gabionlaw10.HotTorn", spec := "hotTorn", inPlace := ["internal/abi.NoEscape", "internal/bytealg.MakeNoZero"], unfollowed := true, recurses := true, plainKeys := false, apart := false }
def HotTornSaid : Prop := hotTornRow.holds Tryz.pinned (OpenSpec.ofChange hotTornSpec)

/-- ITS FALSE NEIGHBOUR: 'it returns false'. Refute it at one input. -/
def hotTornWrong : ChangeSpec := { name := "hotTorn", fn := fun _ => fun
  | [d1, d2, d3] => { results := [.lit (.bool false)], args := [d1, d2, d3] }
  | _ => none }
def HotTornWrongFalsely : Prop := hotTornRow.holds Tryz.pinned (OpenSpec.ofChange hotTornWrong)

/-- 'gabionlaw10.HotKeeps': WHATEVER THE INPUT: true; the input reads as it did. -/
def hotKeepsSpec : ChangeSpec := { name := "hotKeeps", fn := fun _ => fun
  | [d1, d2] => { results := [.lit (.bool true)], args := [d1, d2] }
  | _ => none }
def hotKeepsRow : OpenClaim := { program := "ytjdleeamgmkbkaagreat", sum := "3a7b88f1cba2baf8249044c6739cef5d90f984d13b49b7881508ea45879b1a0f", func := "gabion/gabionlaw10.HotKeeps", spec := "hotKeeps", inPlace := ["internal/abi.NoEscape", "internal/bytealg.MakeNoZero"], unfollowed := true, recurses := true, plainKeys := false, apart := false }
def HotKeepsSaid : Prop := hotKeepsRow.holds Tryz.pinned (OpenSpec.ofChange hotKeepsSpec)

/-- ITS FALSE NEIGHBOUR: 'it returns false'. Refute it at one input. -/
def hotKeepsWrong : ChangeSpec := { name := "hotKeeps", fn := fun _ => fun
  | [d1, d2] => { results := [.lit (.bool false)], args := [d1, d2] }
  | _ => none }
def HotKeepsWrongFalsely : Prop := hotKeepsRow.holds Tryz.pinned (OpenSpec.ofChange hotKeepsWrong)

/-- 'gabionlaw10.HotPlays': WHATEVER THE INPUT: true; the input reads as it did. -/
def hotPlaysSpec : ChangeSpec := { name := "hotPlays", fn := fun _ => fun
  | [d1, d2] => { results := [.lit (.bool true)], args := [d1, d2] }
  | _ => none }
def hotPlaysRow : OpenClaim := { program := "ytjdleeamgmkbkaagreat", sum := "3a7b88f1cba2baf8249044c6739cef5d90f984d13b49b7881508ea45879b1a0f", func := "gabion/gabionlaw10.HotPlays", spec := "hotPlays", inPlace := ["internal/abi.NoEscape", "internal/bytealg.MakeNoZero"], unfollowed := true, recurses := true, plainKeys := false, apart := false }
def HotPlaysSaid : Prop := hotPlaysRow.holds Tryz.pinned (OpenSpec.ofChange hotPlaysSpec)

/-- ITS FALSE NEIGHBOUR: 'it returns false'. Refute it at one input. -/
def hotPlaysWrong : ChangeSpec := { name := "hotPlays", fn := fun _ => fun
  | [d1, d2] => { results := [.lit (.bool false)], args := [d1, d2] }
  | _ => none }
def HotPlaysWrongFalsely : Prop := hotPlaysRow.holds Tryz.pinned (OpenSpec.ofChange hotPlaysWrong)

/- THE SECOND FORM. 'bulk': how many values and letters a reading holds, each counted each time it is reached (what is shared counts as often as it is met; a slice's spare places count too). A statement '..UptoSaid' is the law's where the arguments, and the package variables that the reading takes, are together of bulk at most 1048576: NARROWER than '..Said'. Prove '..Said' where nothing that the law and all that it calls make is longer than what came in: it says more and counts as full. Else prove '..UptoSaid'. A law counts once. -/
mutual
def uptoBulk {H : Type} : DataW H → Nat
  | .lit (.string bytes) => bytes.length + 1
  | .lit _ => 1
  | .nil => 1
  | .ptr d => uptoBulk d + 1
  | .slice elems spare => uptoBulkAll elems + uptoBulkAll spare + 1
  | .agg parts => uptoBulkAll parts + 1
  | .iface _ d => uptoBulk d + 1
  | .map entries => uptoBulkEntries entries + 1
  | .held _ => 1
def uptoBulkAll {H : Type} : List (DataW H) → Nat
  | [] => 0
  | d :: r => uptoBulk d + uptoBulkAll r
def uptoBulkEntries {H : Type} : List (Lit × DataW H) → Nat
  | [] => 0
  | x :: r => uptoBulkEntry x + uptoBulkEntries r
def uptoBulkEntry {H : Type} : Lit × DataW H → Nat
  | (.string bytes, d) => bytes.length + uptoBulk d + 1
  | (_, d) => uptoBulk d + 1
 end
def uptoSmall : (H : Type) → List (DataW H) → Bool := fun _ ds => decide (uptoBulkAll ds ≤ 1048576)
def OpenSpec.upto (s : _root_.Go.ChangeSpec) : _root_.Go.OpenSpec := { _root_.Go.OpenSpec.ofChange s with cond := some uptoSmall }

/-- 'gabionlaw09.FlatAlike', WHERE WHAT IT READS IS OF BULK AT MOST 1048576: true; the input reads as it did. -/
def flatAlikeUptoRow : OpenClaim := { program := "ytjdleeamgmkbkaagreat", sum := "3a7b88f1cba2baf8249044c6739cef5d90f984d13b49b7881508ea45879b1a0f", func := "gabion/gabionlaw09.FlatAlike", spec := "flatAlike", inPlace := ["internal/abi.NoEscape", "internal/bytealg.MakeNoZero"], unfollowed := true, recurses := true, plainKeys := false, apart := false, narrowed := true }
def FlatAlikeUptoSaid : Prop := flatAlikeUptoRow.holds Tryz.pinned (OpenSpec.upto flatAlikeSpec)

/-- 'gabionlaw09.FlatKeeps', WHERE WHAT IT READS IS OF BULK AT MOST 1048576: true; the input reads as it did. -/
def flatKeepsUptoRow : OpenClaim := { program := "ytjdleeamgmkbkaagreat", sum := "3a7b88f1cba2baf8249044c6739cef5d90f984d13b49b7881508ea45879b1a0f", func := "gabion/gabionlaw09.FlatKeeps", spec := "flatKeeps", inPlace := ["internal/abi.NoEscape", "internal/bytealg.MakeNoZero"], unfollowed := true, recurses := true, plainKeys := false, apart := false, narrowed := true }
def FlatKeepsUptoSaid : Prop := flatKeepsUptoRow.holds Tryz.pinned (OpenSpec.upto flatKeepsSpec)

/-- 'gabionlaw09.FlatTorn', WHERE WHAT IT READS IS OF BULK AT MOST 1048576: true; the input reads as it did. -/
def flatTornUptoRow : OpenClaim := { program := "ytjdleeamgmkbkaagreat", sum := "3a7b88f1cba2baf8249044c6739cef5d90f984d13b49b7881508ea45879b1a0f", func := "gabion/gabionlaw09.FlatTorn", spec := "flatTorn", inPlace := ["internal/abi.NoEscape", "internal/bytealg.MakeNoZero"], unfollowed := true, recurses := true, plainKeys := false, apart := false, narrowed := true }
def FlatTornUptoSaid : Prop := flatTornUptoRow.holds Tryz.pinned (OpenSpec.upto flatTornSpec)

/-- 'gabionlaw09.FlatMakes', WHERE WHAT IT READS IS OF BULK AT MOST 1048576: true; the input reads as it did. -/
def flatMakesUptoRow : OpenClaim := { program := "ytjdleeamgmkbkaagreat", sum := "3a7b88f1cba2baf8249044c6739cef5d90f984d13b49b7881508ea45879b1a0f", func := "gabion/gabionlaw09.FlatMakes", spec := "flatMakes", inPlace := ["internal/abi.NoEscape", "internal/bytealg.MakeNoZero"], unfollowed := true, recurses := true, plainKeys := false, apart := false, narrowed := true }
def FlatMakesUptoSaid : Prop := flatMakesUptoRow.holds Tryz.pinned (OpenSpec.upto flatMakesSpec)

/-- 'gabionlaw09.FlatPlays', WHERE WHAT IT READS IS OF BULK AT MOST 1048576: true; the input reads as it did. -/
def flatPlaysUptoRow : OpenClaim := { program := "ytjdleeamgmkbkaagreat", sum := "3a7b88f1cba2baf8249044c6739cef5d90f984d13b49b7881508ea45879b1a0f", func := "gabion/gabionlaw09.FlatPlays", spec := "flatPlays", inPlace := ["internal/abi.NoEscape", "internal/bytealg.MakeNoZero"], unfollowed := true, recurses := true, plainKeys := false, apart := false, narrowed := true }
def FlatPlaysUptoSaid : Prop := flatPlaysUptoRow.holds Tryz.pinned (OpenSpec.upto flatPlaysSpec)

/-- 'gabionlaw10.HotCounts', WHERE WHAT IT READS IS OF BULK AT MOST 1048576: true; the input reads as it did. -/
def hotCountsUptoRow : OpenClaim := { program := "ytjdleeamgmkbkaagreat", sum := "3a7b88f1cba2baf8249044c6739cef5d90f984d13b49b7881508ea45879b1a0f", func := "gabion/gabionlaw10.HotCounts", spec := "hotCounts", inPlace := ["internal/abi.NoEscape", "internal/bytealg.MakeNoZero"], unfollowed := true, recurses := true, plainKeys := false, apart := false, narrowed := true }
def HotCountsUptoSaid : Prop := hotCountsUptoRow.holds Tryz.pinned (OpenSpec.upto hotCountsSpec)

/-- 'gabionlaw10.HotAlike', WHERE WHAT IT READS IS OF BULK AT MOST 1048576: true; the input reads as it did. -/
def hotAlikeUptoRow : OpenClaim := { program := "ytjdleeamgmkbkaagreat", sum := "3a7b88f1cba2baf8249044c6739cef5d90f984d13b49b7881508ea45879b1a0f", func := "gabion/gabionlaw10.HotAlike", spec := "hotAlike", inPlace := ["internal/abi.NoEscape", "internal/bytealg.MakeNoZero"], unfollowed := true, recurses := true, plainKeys := false, apart := false, narrowed := true }
def HotAlikeUptoSaid : Prop := hotAlikeUptoRow.holds Tryz.pinned (OpenSpec.upto hotAlikeSpec)

/-- 'gabionlaw10.HotMakes', WHERE WHAT IT READS IS OF BULK AT MOST 1048576: true; the input reads as it did. -/
def hotMakesUptoRow : OpenClaim := { program := "ytjdleeamgmkbkaagreat", sum := "3a7b88f1cba2baf8249044c6739cef5d90f984d13b49b7881508ea45879b1a0f", func := "gabion/gabionlaw10.HotMakes", spec := "hotMakes", inPlace := ["internal/abi.NoEscape", "internal/bytealg.MakeNoZero"], unfollowed := true, recurses := true, plainKeys := false, apart := false, narrowed := true }
def HotMakesUptoSaid : Prop := hotMakesUptoRow.holds Tryz.pinned (OpenSpec.upto hotMakesSpec)

/-- 'gabionlaw10.HotTorn', WHERE WHAT IT READS IS OF BULK AT MOST 1048576: true; the input reads as it did. -/
def hotTornUptoRow : OpenClaim := { program := "ytjdleeamgmkbkaagreat", sum := "3a7b88f1cba2baf8249044c6739cef5d90f984d13b49b7881508ea45879b1a0f", func := "gabion/gabionlaw10.HotTorn", spec := "hotTorn", inPlace := ["internal/abi.NoEscape", "internal/bytealg.MakeNoZero"], unfollowed := true, recurses := true, plainKeys := false, apart := false, narrowed := true }
def HotTornUptoSaid : Prop := hotTornUptoRow.holds Tryz.pinned (OpenSpec.upto hotTornSpec)

/-- 'gabionlaw10.HotKeeps', WHERE WHAT IT READS IS OF BULK AT MOST 1048576: true; the input reads as it did. -/
def hotKeepsUptoRow : OpenClaim := { program := "ytjdleeamgmkbkaagreat", sum := "3a7b88f1cba2baf8249044c6739cef5d90f984d13b49b7881508ea45879b1a0f", func := "gabion/gabionlaw10.HotKeeps", spec := "hotKeeps", inPlace := ["internal/abi.NoEscape", "internal/bytealg.MakeNoZero"], unfollowed := true, recurses := true, plainKeys := false, apart := false, narrowed := true }
def HotKeepsUptoSaid : Prop := hotKeepsUptoRow.holds Tryz.pinned (OpenSpec.upto hotKeepsSpec)

/-- 'gabionlaw10.HotPlays', WHERE WHAT IT READS IS OF BULK AT MOST 1048576: true; the input reads as it did. -/
def hotPlaysUptoRow : OpenClaim := { program := "ytjdleeamgmkbkaagreat", sum := "3a7b88f1cba2baf8249044c6739cef5d90f984d13b49b7881508ea45879b1a0f", func := "gabion/gabionlaw10.HotPlays", spec := "hotPlays", inPlace := ["internal/abi.NoEscape", "internal/bytealg.MakeNoZero"], unfollowed := true, recurses := true, plainKeys := false, apart := false, narrowed := true }
def HotPlaysUptoSaid : Prop := hotPlaysUptoRow.holds Tryz.pinned (OpenSpec.upto hotPlaysSpec)

end Rows
end Go.Proofs.YtjdleeamgmkbkaaGreat
