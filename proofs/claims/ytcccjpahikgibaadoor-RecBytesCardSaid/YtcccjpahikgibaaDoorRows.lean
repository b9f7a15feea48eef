/-
  NARROWER THAN 'FOR EVERY INPUT', by the rows' own cells (each row's printed sentence says how): PathParses: laid · PathBack: laid · PathNames: laid · PathJoins: laid · RecBytes: laid · RecFollows: laid · RecBack: laid · RecWords: laid.
  DERIVED. THE GIVEN ROWS OF THIS SEAT. 8 by the template 'for every input the law returns true; each argument reads behind the call as it read before'; 0 by the template 'total and deterministic' (their statements: YtcccjpahikgibaaDoorTotals.lean).
  GIVEN WITH THE SEED: the statements are not yours to turn. If you find one false, say at which input.
  Laid BY PROGRAM, IN A SANDBOX (cutbox-rows.mjs): the forced cells as the released guide's own fill.sh prints them over the translation ef724522e49cbab5… (all of the seat's roots in one cut). By AI agents, Wed Nov 11 2026. No macro, syntax, notation, axiom, sorry.
-/
import Derived.Test.YtcccjpahikgibaaDoorChecked
import GoSem.PinnedTables
import GoSem.Claim
import GoSem.ClaimJoined
import GoSem.ClaimMapViews
import Derived.JoinedTies
import Derived.KernelRfl
namespace Go.Proofs.YtcccjpahikgibaaDoor
/- THE CELL 'sum', in the pinned program and in every row, IS THE sha256 OF THE DUMP (.gsa) THAT YtcccjpahikgibaaDoorProg.lean LOADS. Nothing in Lean hashes anything: it is a label: what it is worth is what the hold of that sum in a sandbox is worth. -/
noncomputable def Tryd.pinned : Pinned := { name := "ytcccjpahikgibaadoor", sum := "ef724522e49cbab52783024d31dc7dea5e7466ec97025c1fd7f06ca3fb476cf2", checked := Tryd.checked }
namespace Rows
def none {H : Type} : Left H := { results := [], args := [] }

/- WHAT THE LISTED PACKAGE-LEVEL VARIABLES READ AS WHEN THE CALL BEGINS. Each datum BY PROGRAM (the guide's laid-datum.mjs) off the statement by which the dump's own 'gosem.cut.vars' lays the variable. In a bare row this is a premise. The card (YtcccjpahikgibaaDoorCards.lean) ties it to the program's text. -/
def laid_unicode_utf8_acceptRanges {H : Type} : DataW H := .agg [.agg [.lit (.int .u8 128), .lit (.int .u8 191)], .agg [.lit (.int .u8 160), .lit (.int .u8 191)], .agg [.lit (.int .u8 128), .lit (.int .u8 159)], .agg [.lit (.int .u8 144), .lit (.int .u8 191)], .agg [.lit (.int .u8 128), .lit (.int .u8 143)], .agg [.lit (.int .u8 0), .lit (.int .u8 0)], .agg [.lit (.int .u8 0), .lit (.int .u8 0)], .agg [.lit (.int .u8 0), .lit (.int .u8 0)], .agg [.lit (.int .u8 0), .lit (.int .u8 0)], .agg [.lit (.int .u8 0), .lit (.int .u8 0)], .agg [.lit (.int .u8 0), .lit (.int .u8 0)], .agg [.lit (.int .u8 0), .lit (.int .u8 0)], .agg [.lit (.int .u8 0), .lit (.int .u8 0)], .agg [.lit (.int .u8 0), .lit (.int .u8 0)], .agg [.lit (.int .u8 0), .lit (.int .u8 0)], .agg [.lit (.int .u8 0), .lit (.int .u8 0)]]
/-- One of Go's own tables, pinned by name: the form's constant. -/
def laid_unicode_utf8_first : DataW Unit := Go.Pinned.utf8First

/-- 'gabionlaw18.PathParses': WHATEVER THE INPUT: true; the input reads as it did. -/
def pathParsesSpec : ChangeSpec := { name := "pathParses", fn := fun _ => fun
  | [d] => { results := [.lit (.bool true)], args := [d] }
  | _ => none }
def pathParsesRow : OpenClaim := { program := "ytcccjpahikgibaadoor", sum := "ef724522e49cbab52783024d31dc7dea5e7466ec97025c1fd7f06ca3fb476cf2", func := "gabion/gabionlaw18.PathParses", spec := "pathParses", inPlace := ["internal/bytealg.IndexByteString", "internal/bytealg.IndexString", "internal/abi.NoEscape", "internal/bytealg.MakeNoZero"], unfollowed := true, recurses := true, named := ["unicode/utf8.first", "unicode/utf8.acceptRanges", "internal/bytealg.MaxLen"], apart := false, laid := [("unicode/utf8.acceptRanges", laid_unicode_utf8_acceptRanges), ("unicode/utf8.first", laid_unicode_utf8_first)] }
def PathParsesSaid : Prop := pathParsesRow.holds Tryd.pinned (OpenSpec.ofChange pathParsesSpec)

/-- ITS FALSE NEIGHBOUR: 'it returns false'. Refute it at one input. -/
def pathParsesWrong : ChangeSpec := { name := "pathParses", fn := fun _ => fun
  | [d] => { results := [.lit (.bool false)], args := [d] }
  | _ => none }
def PathParsesWrongFalsely : Prop := pathParsesRow.holds Tryd.pinned (OpenSpec.ofChange pathParsesWrong)

/-- 'gabionlaw18.PathBack': WHATEVER THE INPUT: true; the input reads as it did. -/
def pathBackSpec : ChangeSpec := { name := "pathBack", fn := fun _ => fun
  | [d] => { results := [.lit (.bool true)], args := [d] }
  | _ => none }
def pathBackRow : OpenClaim := { program := "ytcccjpahikgibaadoor", sum := "ef724522e49cbab52783024d31dc7dea5e7466ec97025c1fd7f06ca3fb476cf2", func := "gabion/gabionlaw18.PathBack", spec := "pathBack", inPlace := ["internal/bytealg.IndexByteString", "internal/bytealg.IndexString", "internal/abi.NoEscape", "internal/bytealg.MakeNoZero"], unfollowed := true, recurses := true, named := ["unicode/utf8.first", "unicode/utf8.acceptRanges", "internal/bytealg.MaxLen"], apart := false, laid := [("unicode/utf8.acceptRanges", laid_unicode_utf8_acceptRanges), ("unicode/utf8.first", laid_unicode_utf8_first)] }
def PathBackSaid : Prop := pathBackRow.holds Tryd.pinned (OpenSpec.ofChange pathBackSpec)

/-- ITS FALSE NEIGHBOUR: 'it returns false'. Refute it at one input. -/
def pathBackWrong : ChangeSpec := { name := "pathBack", fn := fun _ => fun
  | [d] => { results := [.lit (.bool false)], args := [d] }
  | _ => none }
def PathBackWrongFalsely : Prop := pathBackRow.holds Tryd.pinned (OpenSpec.ofChange pathBackWrong)

/-- 'gabionlaw18.PathNames': WHATEVER THE INPUT: true; the input reads as it did. -/
def pathNamesSpec : ChangeSpec := { name := "pathNames", fn := fun _ => fun
  | [d1, d2] => { results := [.lit (.bool true)], args := [d1, d2] }
  | _ => none }
def pathNamesRow : OpenClaim := { program := "ytcccjpahikgibaadoor", sum := "ef724522e49cbab52783024d31dc7dea5e7466ec97025c1fd7f06ca3fb476cf2", func := "gabion/gabionlaw18.PathNames", spec := "pathNames", inPlace := ["internal/bytealg.IndexByteString", "internal/bytealg.IndexString", "internal/abi.NoEscape", "internal/bytealg.MakeNoZero"], unfollowed := true, recurses := true, named := ["unicode/utf8.first", "unicode/utf8.acceptRanges", "internal/bytealg.MaxLen"], apart := false, laid := [("unicode/utf8.acceptRanges", laid_unicode_utf8_acceptRanges), ("unicode/utf8.first", laid_unicode_utf8_first)] }
def PathNamesSaid : Prop := pathNamesRow.holds Tryd.pinned (OpenSpec.ofChange pathNamesSpec)

/-- ITS FALSE NEIGHBOUR: 'it returns false'. Refute it at one input. -/
def pathNamesWrong : ChangeSpec := { name := "pathNames", fn := fun _ => fun
  | [d1, d2] => { results := [.lit (.bool false)], args := [d1, d2] }
  | _ => none }
def PathNamesWrongFalsely : Prop := pathNamesRow.holds Tryd.pinned (OpenSpec.ofChange pathNamesWrong)

/-- 'gabionlaw18.PathJoins': WHATEVER THE INPUT: true; the input reads as it did. -/
def pathJoinsSpec : ChangeSpec := { name := "pathJoins", fn := fun _ => fun
  | [d1, d2] => { results := [.lit (.bool true)], args := [d1, d2] }
  | _ => none }
def pathJoinsRow : OpenClaim := { program := "ytcccjpahikgibaadoor", sum := "ef724522e49cbab52783024d31dc7dea5e7466ec97025c1fd7f06ca3fb476cf2", func := "gabion/gabionlaw18.PathJoins", spec := "pathJoins", inPlace := ["internal/bytealg.IndexByteString", "internal/bytealg.IndexString", "internal/abi.NoEscape", "internal/bytealg.MakeNoZero"], unfollowed := true, recurses := true, named := ["unicode/utf8.first", "unicode/utf8.acceptRanges", "internal/bytealg.MaxLen"], apart := false, laid := [("unicode/utf8.acceptRanges", laid_unicode_utf8_acceptRanges), ("unicode/utf8.first", laid_unicode_utf8_first)] }
def PathJoinsSaid : Prop := pathJoinsRow.holds Tryd.pinned (OpenSpec.ofChange pathJoinsSpec)

/-- ITS FALSE NEIGHBOUR: 'it returns false'. Refute it at one input. -/
def pathJoinsWrong : ChangeSpec := { name := "pathJoins", fn := fun _ => fun
  | [d1, d2] => { results := [.lit (.bool false)], args := [d1, d2] }
  | _ => none }
def PathJoinsWrongFalsely : Prop := pathJoinsRow.holds Tryd.pinned (OpenSpec.ofChange pathJoinsWrong)

/-- 'gabionlaw12.RecBytes': WHATEVER THE INPUT: true; the input reads as it did. -/
def recBytesSpec : ChangeSpec := { name := "recBytes", fn := fun _ => fun
  | [d1, d2, d3] => { results := [.lit (.bool true)], args := [d1, d2, d3] }
  | _ => none }
def recBytesRow : OpenClaim := { program := "ytcccjpahikgibaadoor", sum := "ef724522e49cbab52783024d31dc7dea5e7466ec97025c1fd7f06ca3fb476cf2", func := "gabion/gabionlaw12.RecBytes", spec := "recBytes", inPlace := ["internal/abi.NoEscape", "internal/bytealg.MakeNoZero", "internal/bytealg.IndexByteString", "internal/bytealg.IndexString"], named := ["unicode/utf8.first", "unicode/utf8.acceptRanges", "internal/bytealg.MaxLen"], apart := false, laid := [("unicode/utf8.acceptRanges", laid_unicode_utf8_acceptRanges), ("unicode/utf8.first", laid_unicode_utf8_first)] }
def RecBytesSaid : Prop := recBytesRow.holds Tryd.pinned (OpenSpec.ofChange recBytesSpec)

/-- ITS FALSE NEIGHBOUR: 'it returns false'. Refute it at one input. -/
def recBytesWrong : ChangeSpec := { name := "recBytes", fn := fun _ => fun
  | [d1, d2, d3] => { results := [.lit (.bool false)], args := [d1, d2, d3] }
  | _ => none }
def RecBytesWrongFalsely : Prop := recBytesRow.holds Tryd.pinned (OpenSpec.ofChange recBytesWrong)

/-- 'gabionlaw12.RecFollows': WHATEVER THE INPUT: true; the input reads as it did. -/
def recFollowsSpec : ChangeSpec := { name := "recFollows", fn := fun _ => fun
  | [d1, d2] => { results := [.lit (.bool true)], args := [d1, d2] }
  | _ => none }
def recFollowsRow : OpenClaim := { program := "ytcccjpahikgibaadoor", sum := "ef724522e49cbab52783024d31dc7dea5e7466ec97025c1fd7f06ca3fb476cf2", func := "gabion/gabionlaw12.RecFollows", spec := "recFollows", inPlace := ["internal/abi.NoEscape", "internal/bytealg.MakeNoZero", "internal/bytealg.IndexByteString", "internal/bytealg.IndexString"], named := ["unicode/utf8.first", "unicode/utf8.acceptRanges", "internal/bytealg.MaxLen"], apart := false, laid := [("unicode/utf8.acceptRanges", laid_unicode_utf8_acceptRanges), ("unicode/utf8.first", laid_unicode_utf8_first)] }
def RecFollowsSaid : Prop := recFollowsRow.holds Tryd.pinned (OpenSpec.ofChange recFollowsSpec)

/-- ITS FALSE NEIGHBOUR: 'it returns false'. Refute it at one input. -/
def recFollowsWrong : ChangeSpec := { name := "recFollows", fn := fun _ => fun
  | [d1, d2] => { results := [.lit (.bool false)], args := [d1, d2] }
  | _ => none }
def RecFollowsWrongFalsely : Prop := recFollowsRow.holds Tryd.pinned (OpenSpec.ofChange recFollowsWrong)

/-- 'gabionlaw12.RecBack': WHATEVER THE INPUT: true; the input reads as it did. -/
def recBackSpec : ChangeSpec := { name := "recBack", fn := fun _ => fun
  | [d1, d2, d3] => { results := [.lit (.bool true)], args := [d1, d2, d3] }
  | _ => none }
def recBackRow : OpenClaim := { program := "ytcccjpahikgibaadoor", sum := "ef724522e49cbab52783024d31dc7dea5e7466ec97025c1fd7f06ca3fb476cf2", func := "gabion/gabionlaw12.RecBack", spec := "recBack", inPlace := ["internal/abi.NoEscape", "internal/bytealg.MakeNoZero", "internal/bytealg.IndexByteString", "internal/bytealg.IndexString"], named := ["unicode/utf8.first", "unicode/utf8.acceptRanges", "internal/bytealg.MaxLen"], apart := false, laid := [("unicode/utf8.acceptRanges", laid_unicode_utf8_acceptRanges), ("unicode/utf8.first", laid_unicode_utf8_first)] }
def RecBackSaid : Prop := recBackRow.holds Tryd.pinned (OpenSpec.ofChange recBackSpec)

/-- ITS FALSE NEIGHBOUR: 'it returns false'. Refute it at one input. -/
def recBackWrong : ChangeSpec := { name := "recBack", fn := fun _ => fun
  | [d1, d2, d3] => { results := [.lit (.bool false)], args := [d1, d2, d3] }
  | _ => none }
def RecBackWrongFalsely : Prop := recBackRow.holds Tryd.pinned (OpenSpec.ofChange recBackWrong)

/-- 'gabionlaw12.RecWords': WHATEVER THE INPUT: true; the input reads as it did. -/
def recWordsSpec : ChangeSpec := { name := "recWords", fn := fun _ => fun
  | [d1, d2, d3] => { results := [.lit (.bool true)], args := [d1, d2, d3] }
  | _ => none }
def recWordsRow : OpenClaim := { program := "ytcccjpahikgibaadoor", sum := "ef724522e49cbab52783024d31dc7dea5e7466ec97025c1fd7f06ca3fb476cf2", func := "gabion/gabionlaw12.RecWords", spec := "recWords", inPlace := ["internal/abi.NoEscape", "internal/bytealg.MakeNoZero", "internal/bytealg.IndexByteString", "internal/bytealg.IndexString"], named := ["unicode/utf8.first", "unicode/utf8.acceptRanges", "internal/bytealg.MaxLen"], apart := false, laid := [("unicode/utf8.acceptRanges", laid_unicode_utf8_acceptRanges), ("unicode/utf8.first", laid_unicode_utf8_first)] }
def RecWordsSaid : Prop := recWordsRow.holds Tryd.pinned (OpenSpec.ofChange recWordsSpec)

/-- ITS FALSE NEIGHBOUR: 'it returns false'. Refute it at one input. -/
def recWordsWrong : ChangeSpec := { name := "recWords", fn := fun _ => fun
  | [d1, d2, d3] => { results := [.lit (.bool false)], args := [d1, d2, d3] }
  | _ => none }
def RecWordsWrongFalsely : Prop := recWordsRow.holds Tryd.pinned (OpenSpec.ofChange recWordsWrong)

/- THE SECOND FORM. 'bulk': how many values and letters a reading holds, each counted each time it is reached (what is shared counts as often as it is met; a slice's spare places count too). A statement '..UptoSaid' is the law's where the arguments, and the package variables that the reading takes, are together of bulk at most 1048576: NARROWER than '..Said'. Prove '..Said' where nothing that the law and all that it calls make is longer than what came in: it says more and counts as full. Else prove '..UptoSaid'. A law counts once. -/
mutual
def uptoBulk {H : Type} : DataW H → Nat
  | .lit (.string bytes) => bytes.length + 1
  | .lit _ => 1
  | .nil => 1
  | .ptr d => uptoBulk d + 1
  | .slice elems spare => uptoBulkAll elems + uptoBulkAll spare + 1
  | .agg parts => uptoBulkAll parts + 1
  | .iface _ d => uptoBulk d + 1
  | .map entries => uptoBulkEntries entries + 1
  | .held _ => 1
def uptoBulkAll {H : Type} : List (DataW H) → Nat
  | [] => 0
  | d :: r => uptoBulk d + uptoBulkAll r
def uptoBulkEntries {H : Type} : List (Lit × DataW H) → Nat
  | [] => 0
  | x :: r => uptoBulkEntry x + uptoBulkEntries r
def uptoBulkEntry {H : Type} : Lit × DataW H → Nat
  | (.string bytes, d) => bytes.length + uptoBulk d + 1
  | (_, d) => uptoBulk d + 1
 end
def uptoSmall : (H : Type) → List (DataW H) → Bool := fun _ ds => decide (uptoBulkAll ds ≤ 1048576)
def OpenSpec.upto (s : _root_.Go.ChangeSpec) : _root_.Go.OpenSpec := { _root_.Go.OpenSpec.ofChange s with cond := some uptoSmall }

/-- 'gabionlaw18.PathParses', WHERE WHAT IT READS IS OF BULK AT MOST 1048576: true; the input reads as it did. -/
def pathParsesUptoRow : OpenClaim := { program := "ytcccjpahikgibaadoor", sum := "ef724522e49cbab52783024d31dc7dea5e7466ec97025c1fd7f06ca3fb476cf2", func := "gabion/gabionlaw18.PathParses", spec := "pathParses", inPlace := ["internal/bytealg.IndexByteString", "internal/bytealg.IndexString", "internal/abi.NoEscape", "internal/bytealg.MakeNoZero"], unfollowed := true, recurses := true, named := ["unicode/utf8.first", "unicode/utf8.acceptRanges", "internal/bytealg.MaxLen"], apart := false, laid := [("unicode/utf8.acceptRanges", laid_unicode_utf8_acceptRanges), ("unicode/utf8.first", laid_unicode_utf8_first)], narrowed := true }
def PathParsesUptoSaid : Prop := pathParsesUptoRow.holds Tryd.pinned (OpenSpec.upto pathParsesSpec)

/-- 'gabionlaw18.PathBack', WHERE WHAT IT READS IS OF BULK AT MOST 1048576: true; the input reads as it did. -/
def pathBackUptoRow : OpenClaim := { program := "ytcccjpahikgibaadoor", sum := "ef724522e49cbab52783024d31dc7dea5e7466ec97025c1fd7f06ca3fb476cf2", func := "gabion/gabionlaw18.PathBack", spec := "pathBack", inPlace := ["internal/bytealg.IndexByteString", "internal/bytealg.IndexString", "internal/abi.NoEscape", "internal/bytealg.MakeNoZero"], unfollowed := true, recurses := true, named := ["unicode/utf8.first", "unicode/utf8.acceptRanges", "internal/bytealg.MaxLen"], apart := false, laid := [("unicode/utf8.acceptRanges", laid_unicode_utf8_acceptRanges), ("unicode/utf8.first", laid_unicode_utf8_first)], narrowed := true }
def PathBackUptoSaid : Prop := pathBackUptoRow.holds Tryd.pinned (OpenSpec.upto pathBackSpec)

/-- 'gabionlaw18.PathNames', WHERE WHAT IT READS IS OF BULK AT MOST 1048576: true; the input reads as it did. -/
def pathNamesUptoRow : OpenClaim := { program := "ytcccjpahikgibaadoor", sum := "ef724522e49cbab52783024d31dc7dea5e7466ec97025c1fd7f06ca3fb476cf2", func := "gabion/gabionlaw18.PathNames", spec := "pathNames", inPlace := ["internal/bytealg.IndexByteString", "internal/bytealg.IndexString", "internal/abi.NoEscape", "internal/bytealg.MakeNoZero"], unfollowed := true, recurses := true, named := ["unicode/utf8.first", "unicode/utf8.acceptRanges", "internal/bytealg.MaxLen"], apart := false, laid := [("unicode/utf8.acceptRanges", laid_unicode_utf8_acceptRanges), ("unicode/utf8.first", laid_unicode_utf8_first)], narrowed := true }
def PathNamesUptoSaid : Prop := pathNamesUptoRow.holds Tryd.pinned (OpenSpec.upto pathNamesSpec)

/-- 'gabionlaw18.PathJoins', WHERE WHAT IT READS IS OF BULK AT MOST 1048576: true; the input reads as it did. -/
def pathJoinsUptoRow : OpenClaim := { program := "ytcccjpahikgibaadoor", sum := "ef724522e49cbab52783024d31dc7dea5e7466ec97025c1fd7f06ca3fb476cf2", func := "gabion/gabionlaw18.PathJoins", spec := "pathJoins", inPlace := ["internal/bytealg.IndexByteString", "internal/bytealg.IndexString", "internal/abi.NoEscape", "internal/bytealg.MakeNoZero"], unfollowed := true, recurses := true, named := ["unicode/utf8.first", "unicode/utf8.acceptRanges", "internal/bytealg.MaxLen"], apart := false, laid := [("unicode/utf8.acceptRanges", laid_unicode_utf8_acceptRanges), ("unicode/utf8.first", laid_unicode_utf8_first)], narrowed := true }
def PathJoinsUptoSaid : Prop := pathJoinsUptoRow.holds Tryd.pinned (OpenSpec.upto pathJoinsSpec)

/-- 'gabionlaw12.RecBytes', WHERE WHAT IT READS IS OF BULK AT MOST 1048576: true; the input reads as it did. -/
def recBytesUptoRow : OpenClaim := { program := "ytcccjpahikgibaadoor", sum := "ef724522e49cbab52783024d31dc7dea5e7466ec97025c1fd7f06ca3fb476cf2", func := "gabion/gabionlaw12.RecBytes", spec := "recBytes", inPlace := ["internal/abi.NoEscape", "internal/bytealg.MakeNoZero", "internal/bytealg.IndexByteString", "internal/bytealg.IndexString"], named := ["unicode/utf8.first", "unicode/utf8.acceptRanges", "internal/bytealg.MaxLen"], apart := false, laid := [("unicode/utf8.acceptRanges", laid_unicode_utf8_acceptRanges), ("unicode/utf8.first", laid_unicode_utf8_first)], narrowed := true }
def RecBytesUptoSaid : Prop := recBytesUptoRow.holds Tryd.pinned (OpenSpec.upto recBytesSpec)

/-- 'gabionlaw12.RecFollows', WHERE WHAT IT READS IS OF BULK AT MOST 1048576: true; the input reads as it did. -/
def recFollowsUptoRow : OpenClaim := { program := "ytcccjpahikgibaadoor", sum := "ef724522e49cbab52783024d31dc7dea5e7466ec97025c1fd7f06ca3fb476cf2", func := "gabion/gabionlaw12.RecFollows", spec := "recFollows", inPlace := ["internal/abi.NoEscape", "internal/bytealg.MakeNoZero", "internal/bytealg.IndexByteString", "internal/bytealg.IndexString"], named := ["unicode/utf8.first", "unicode/utf8.acceptRanges", "internal/bytealg.MaxLen"], apart := false, laid := [("unicode/utf8.acceptRanges", laid_unicode_utf8_acceptRanges), ("unicode/utf8.first", laid_unicode_utf8_first)], narrowed := true }
def RecFollowsUptoSaid : Prop := recFollowsUptoRow.holds Tryd.pinned (OpenSpec.upto recFollowsSpec)

/-- 'gabionlaw12.RecBack', WHERE WHAT IT READS IS OF BULK AT MOST 1048576: true; the input reads as it did. -/
def recBackUptoRow : OpenClaim := { program := "ytcccjpahikgibaadoor", sum := "ef724522e49cbab52783024d31dc7dea5e7466ec97025c1fd7f06ca3fb476cf2", func := "gabion/gabionlaw12.RecBack", spec := "recBack", inPlace := ["internal/abi.NoEscape", "internal/bytealg.MakeNoZero", "internal/bytealg.IndexByteString", "internal/bytealg.IndexString"], named := ["unicode/utf8.first", "unicode/utf8.acceptRanges", "internal/bytealg.MaxLen"], apart := false, laid := [("unicode/utf8.acceptRanges", laid_unicode_utf8_acceptRanges), ("unicode/utf8.first", laid_unicode_utf8_first)], narrowed := true }
def RecBackUptoSaid : Prop := recBackUptoRow.holds Tryd.pinned (OpenSpec.upto recBackSpec)

/-- 'gabionlaw12.RecWords', WHERE WHAT IT READS IS OF BULK AT MOST 1048576: true; the input reads as it did. -/
def recWordsUptoRow : OpenClaim := { program := "ytcccjpahikgibaadoor", sum := "ef724522e49cbab52783024d31dc7dea5e7466ec97025c1fd7f06ca3fb476cf2", func := "gabion/gabionlaw12.RecWords", spec := "recWords", inPlace := ["internal/abi.NoEscape", "internal/bytealg.MakeNoZero", "internal/bytealg.IndexByteString", "internal/bytealg.IndexString"], named := ["unicode/utf8.first", "unicode/utf8.acceptRanges", "internal/bytealg.MaxLen"], apart := false, laid := [("unicode/utf8.acceptRanges", laid_unicode_utf8_acceptRanges), ("unicode/utf8.first", laid_unicode_utf8_first)], narrowed := true }
def RecWordsUptoSaid : Prop := recWordsUptoRow.holds Tryd.pinned (OpenSpec.upto recWordsSpec)

end Rows
end Go.Proofs.YtcccjpahikgibaaDoor
