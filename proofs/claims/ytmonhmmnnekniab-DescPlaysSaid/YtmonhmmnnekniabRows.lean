/-
  No cell of these rows narrows 'for every input' (looked for: loops, veiled, ifaces, maps, wideKeys, modest, calm, conditions, laid).
  DERIVED. THE GIVEN ROWS OF THIS SEAT. 8 by the template 'for every input the law returns true; each argument reads behind the call as it read before'; 0 by the template 'total and deterministic' (their statements: YtmonhmmnnekniabTotals.lean).
  GIVEN WITH THE SEED: the statements are not yours to turn. If you find one false, say at which input.
  Laid BY PROGRAM, IN A SANDBOX (cutbox-rows.mjs): the forced cells as the released guide's own fill.sh prints them over the translation 56cb51332187178b… (all of the seat's roots in one cut). By AI agents, Wed Nov 11 2026. No macro, syntax, notation, axiom, sorry.
-/
import Derived.Test.YtmonhmmnnekniabChecked
import GoSem.Claim
import GoSem.ClaimJoined
import GoSem.ClaimMapViews
import Derived.JoinedTies
import Derived.KernelRfl
namespace Go.Proofs.Ytmonhmmnnekniab
/- THE CELL 'sum', in the pinned program and in every row, IS THE sha256 OF THE DUMP (.gsa) THAT YtmonhmmnnekniabProg.lean LOADS. Nothing in Lean hashes anything: it is a label: what it is worth is what the hold of that sum in a sandbox is worth. -/
noncomputable def Try.pinned : Pinned := { name := "ytmonhmmnnekniab", sum := "56cb51332187178b9d91cfb2d894f106a57a2e4cf15e330be868f8b06c70bd09", checked := Try.checked }
namespace Rows
def none {H : Type} : Left H := { results := [], args := [] }

/-- 'gabionlaw02.CrcSums': WHATEVER THE INPUT: true; the input reads as it did. -/
def crcSumsSpec : ChangeSpec := { name := "crcSums", fn := fun _ => fun
  | [d] => { results := [.lit (.bool true)], args := [d] }
  | _ => none }
def crcSumsRow : OpenClaim := { program := "ytmonhmmnnekniab", sum := "56cb51332187178b9d91cfb2d894f106a57a2e4cf15e330be868f8b06c70bd09", func := "gabion/gabionlaw02.CrcSums", spec := "crcSums", apart := false }
def CrcSumsSaid : Prop := crcSumsRow.holds Try.pinned (OpenSpec.ofChange crcSumsSpec)

/-- ITS FALSE NEIGHBOUR: 'it returns false'. Refute it at one input. -/
def crcSumsWrong : ChangeSpec := { name := "crcSums", fn := fun _ => fun
  | [d] => { results := [.lit (.bool false)], args := [d] }
  | _ => none }
def CrcSumsWrongFalsely : Prop := crcSumsRow.holds Try.pinned (OpenSpec.ofChange crcSumsWrong)

/-- 'gabionlaw02.CrcGuards': WHATEVER THE INPUT: true; the input reads as it did. -/
def crcGuardsSpec : ChangeSpec := { name := "crcGuards", fn := fun _ => fun
  | [d1, d2] => { results := [.lit (.bool true)], args := [d1, d2] }
  | _ => none }
def crcGuardsRow : OpenClaim := { program := "ytmonhmmnnekniab", sum := "56cb51332187178b9d91cfb2d894f106a57a2e4cf15e330be868f8b06c70bd09", func := "gabion/gabionlaw02.CrcGuards", spec := "crcGuards", apart := false }
def CrcGuardsSaid : Prop := crcGuardsRow.holds Try.pinned (OpenSpec.ofChange crcGuardsSpec)

/-- ITS FALSE NEIGHBOUR: 'it returns false'. Refute it at one input. -/
def crcGuardsWrong : ChangeSpec := { name := "crcGuards", fn := fun _ => fun
  | [d1, d2] => { results := [.lit (.bool false)], args := [d1, d2] }
  | _ => none }
def CrcGuardsWrongFalsely : Prop := crcGuardsRow.holds Try.pinned (OpenSpec.ofChange crcGuardsWrong)

/-- 'gabionlaw02.CrcTells': WHATEVER THE INPUT: true; the input reads as it did. -/
def crcTellsSpec : ChangeSpec := { name := "crcTells", fn := fun _ => fun
  | [d1, d2, d3] => { results := [.lit (.bool true)], args := [d1, d2, d3] }
  | _ => none }
def crcTellsRow : OpenClaim := { program := "ytmonhmmnnekniab", sum := "56cb51332187178b9d91cfb2d894f106a57a2e4cf15e330be868f8b06c70bd09", func := "gabion/gabionlaw02.CrcTells", spec := "crcTells", apart := false }
def CrcTellsSaid : Prop := crcTellsRow.holds Try.pinned (OpenSpec.ofChange crcTellsSpec)

/-- ITS FALSE NEIGHBOUR: 'it returns false'. Refute it at one input. -/
def crcTellsWrong : ChangeSpec := { name := "crcTells", fn := fun _ => fun
  | [d1, d2, d3] => { results := [.lit (.bool false)], args := [d1, d2, d3] }
  | _ => none }
def CrcTellsWrongFalsely : Prop := crcTellsRow.holds Try.pinned (OpenSpec.ofChange crcTellsWrong)

/-- 'gabionlaw02.CrcMixes': WHATEVER THE INPUT: true; the input reads as it did. -/
def crcMixesSpec : ChangeSpec := { name := "crcMixes", fn := fun _ => fun
  | [d1, d2, d3] => { results := [.lit (.bool true)], args := [d1, d2, d3] }
  | _ => none }
def crcMixesRow : OpenClaim := { program := "ytmonhmmnnekniab", sum := "56cb51332187178b9d91cfb2d894f106a57a2e4cf15e330be868f8b06c70bd09", func := "gabion/gabionlaw02.CrcMixes", spec := "crcMixes", apart := false }
def CrcMixesSaid : Prop := crcMixesRow.holds Try.pinned (OpenSpec.ofChange crcMixesSpec)

/-- ITS FALSE NEIGHBOUR: 'it returns false'. Refute it at one input. -/
def crcMixesWrong : ChangeSpec := { name := "crcMixes", fn := fun _ => fun
  | [d1, d2, d3] => { results := [.lit (.bool false)], args := [d1, d2, d3] }
  | _ => none }
def CrcMixesWrongFalsely : Prop := crcMixesRow.holds Try.pinned (OpenSpec.ofChange crcMixesWrong)

/-- 'gabionlaw23.DescLeast': WHATEVER THE INPUT: true; the input reads as it did. -/
def descLeastSpec : ChangeSpec := { name := "descLeast", fn := fun _ => fun
  | [d] => { results := [.lit (.bool true)], args := [d] }
  | _ => none }
def descLeastRow : OpenClaim := { program := "ytmonhmmnnekniab", sum := "56cb51332187178b9d91cfb2d894f106a57a2e4cf15e330be868f8b06c70bd09", func := "gabion/gabionlaw23.DescLeast", spec := "descLeast", apart := false }
def DescLeastSaid : Prop := descLeastRow.holds Try.pinned (OpenSpec.ofChange descLeastSpec)

/-- ITS FALSE NEIGHBOUR: 'it returns false'. Refute it at one input. -/
def descLeastWrong : ChangeSpec := { name := "descLeast", fn := fun _ => fun
  | [d] => { results := [.lit (.bool false)], args := [d] }
  | _ => none }
def DescLeastWrongFalsely : Prop := descLeastRow.holds Try.pinned (OpenSpec.ofChange descLeastWrong)

/-- 'gabionlaw23.DescApart': WHATEVER THE INPUT: true; the input reads as it did. -/
def descApartSpec : ChangeSpec := { name := "descApart", fn := fun _ => fun
  | [d1, d2] => { results := [.lit (.bool true)], args := [d1, d2] }
  | _ => none }
def descApartRow : OpenClaim := { program := "ytmonhmmnnekniab", sum := "56cb51332187178b9d91cfb2d894f106a57a2e4cf15e330be868f8b06c70bd09", func := "gabion/gabionlaw23.DescApart", spec := "descApart", apart := false }
def DescApartSaid : Prop := descApartRow.holds Try.pinned (OpenSpec.ofChange descApartSpec)

/-- ITS FALSE NEIGHBOUR: 'it returns false'. Refute it at one input. -/
def descApartWrong : ChangeSpec := { name := "descApart", fn := fun _ => fun
  | [d1, d2] => { results := [.lit (.bool false)], args := [d1, d2] }
  | _ => none }
def DescApartWrongFalsely : Prop := descApartRow.holds Try.pinned (OpenSpec.ofChange descApartWrong)

/-- 'gabionlaw23.DescPlays': WHATEVER THE INPUT: true; the input reads as it did. -/
def descPlaysSpec : ChangeSpec := { name := "descPlays", fn := fun _ => fun
  | [d1, d2] => { results := [.lit (.bool true)], args := [d1, d2] }
  | _ => none }
def descPlaysRow : OpenClaim := { program := "ytmonhmmnnekniab", sum := "56cb51332187178b9d91cfb2d894f106a57a2e4cf15e330be868f8b06c70bd09", func := "gabion/gabionlaw23.DescPlays", spec := "descPlays", apart := false }
def DescPlaysSaid : Prop := descPlaysRow.holds Try.pinned (OpenSpec.ofChange descPlaysSpec)

/-- ITS FALSE NEIGHBOUR: 'it returns false'. Refute it at one input. -/
def descPlaysWrong : ChangeSpec := { name := "descPlays", fn := fun _ => fun
  | [d1, d2] => { results := [.lit (.bool false)], args := [d1, d2] }
  | _ => none }
def DescPlaysWrongFalsely : Prop := descPlaysRow.holds Try.pinned (OpenSpec.ofChange descPlaysWrong)

/-- 'gabionlaw23.DescMakes': WHATEVER THE INPUT: true; the input reads as it did. -/
def descMakesSpec : ChangeSpec := { name := "descMakes", fn := fun _ => fun
  | [d1, d2] => { results := [.lit (.bool true)], args := [d1, d2] }
  | _ => none }
def descMakesRow : OpenClaim := { program := "ytmonhmmnnekniab", sum := "56cb51332187178b9d91cfb2d894f106a57a2e4cf15e330be868f8b06c70bd09", func := "gabion/gabionlaw23.DescMakes", spec := "descMakes", apart := false }
def DescMakesSaid : Prop := descMakesRow.holds Try.pinned (OpenSpec.ofChange descMakesSpec)

/-- ITS FALSE NEIGHBOUR: 'it returns false'. Refute it at one input. -/
def descMakesWrong : ChangeSpec := { name := "descMakes", fn := fun _ => fun
  | [d1, d2] => { results := [.lit (.bool false)], args := [d1, d2] }
  | _ => none }
def DescMakesWrongFalsely : Prop := descMakesRow.holds Try.pinned (OpenSpec.ofChange descMakesWrong)

/- THE SECOND FORM. 'bulk': how many values and letters a reading holds, each counted each time it is reached (what is shared counts as often as it is met; a slice's spare places count too). A statement '..UptoSaid' is the law's where the arguments, and the package variables that the reading takes, are together of bulk at most 1048576: NARROWER than '..Said'. Prove '..Said' where nothing that the law and all that it calls make is longer than what came in: it says more and counts as full. Else prove '..UptoSaid'. A law counts once. -/
mutual
def uptoBulk {H : Type} : DataW H → Nat
  | .lit (.string bytes) => bytes.length + 1
  | .lit _ => 1
  | .nil => 1
  | .ptr d => uptoBulk d + 1
  | .slice elems spare => uptoBulkAll elems + uptoBulkAll spare + 1
  | .agg parts => uptoBulkAll parts + 1
  | .iface _ d => uptoBulk d + 1
  | .map entries => uptoBulkEntries entries + 1
  | .held _ => 1
def uptoBulkAll {H : Type} : List (DataW H) → Nat
  | [] => 0
  | d :: r => uptoBulk d + uptoBulkAll r
def uptoBulkEntries {H : Type} : List (Lit × DataW H) → Nat
  | [] => 0
  | x :: r => uptoBulkEntry x + uptoBulkEntries r
def uptoBulkEntry {H : Type} : Lit × DataW H → Nat
  | (.string bytes, d) => bytes.length + uptoBulk d + 1
  | (_, d) => uptoBulk d + 1
 end
def uptoSmall : (H : Type) → List (DataW H) → Bool := fun _ ds => decide (uptoBulkAll ds ≤ 1048576)
def OpenSpec.upto (s : _root_.Go.ChangeSpec) : _root_.Go.OpenSpec := { _root_.Go.OpenSpec.ofChange s with cond := some uptoSmall }

/-- 'gabionlaw02.CrcSums', WHERE WHAT IT READS IS OF BULK AT MOST 1048576: true; the input reads as it did. -/
def crcSumsUptoRow : OpenClaim := { program := "ytmonhmmnnekniab", sum := "56cb51332187178b9d91cfb2d894f106a57a2e4cf15e330be868f8b06c70bd09", func := "gabion/gabionlaw02.CrcSums", spec := "crcSums", apart := false, narrowed := true }
def CrcSumsUptoSaid : Prop := crcSumsUptoRow.holds Try.pinned (OpenSpec.upto crcSumsSpec)

/-- 'gabionlaw02.CrcGuards', WHERE WHAT IT READS IS OF BULK AT MOST 1048576: true; the input reads as it did. -/
def crcGuardsUptoRow : OpenClaim := { program := "ytmonhmmnnekniab", sum := "56cb51332187178b9d91cfb2d894f106a57a2e4cf15e330be868f8b06c70bd09", func := "gabion/gabionlaw02.CrcGuards", spec := "crcGuards", apart := false, narrowed := true }
def CrcGuardsUptoSaid : Prop := crcGuardsUptoRow.holds Try.pinned (OpenSpec.upto crcGuardsSpec)

/-- 'gabionlaw02.CrcTells', WHERE WHAT IT READS IS OF BULK AT MOST 1048576: true; the input reads as it did. -/
def crcTellsUptoRow : OpenClaim := { program := "ytmonhmmnnekniab", sum := "56cb51332187178b9d91cfb2d894f106a57a2e4cf15e330be868f8b06c70bd09", func := "gabion/gabionlaw02.CrcTells", spec := "crcTells", apart := false, narrowed := true }
def CrcTellsUptoSaid : Prop := crcTellsUptoRow.holds Try.pinned (OpenSpec.upto crcTellsSpec)

/-- 'gabionlaw02.CrcMixes', WHERE WHAT IT READS IS OF BULK AT MOST 1048576: true; the input reads as it did. -/
def crcMixesUptoRow : OpenClaim := { program := "ytmonhmmnnekniab", sum := "56cb51332187178b9d91cfb2d894f106a57a2e4cf15e330be868f8b06c70bd09", func := "gabion/gabionlaw02.CrcMixes", spec := "crcMixes", apart := false, narrowed := true }
def CrcMixesUptoSaid : Prop := crcMixesUptoRow.holds Try.pinned (OpenSpec.upto crcMixesSpec)

/-- 'gabionlaw23.DescLeast', WHERE WHAT IT READS IS OF BULK AT MOST 1048576: true; the input reads as it did. -/
def descLeastUptoRow : OpenClaim := { program := "ytmonhmmnnekniab", sum := "56cb51332187178b9d91cfb2d894f106a57a2e4cf15e330be868f8b06c70bd09", func := "gabion/gabionlaw23.DescLeast", spec := "descLeast", apart := false, narrowed := true }
def DescLeastUptoSaid : Prop := descLeastUptoRow.holds Try.pinned (OpenSpec.upto descLeastSpec)

/-- 'gabionlaw23.DescApart', WHERE WHAT IT READS IS OF BULK AT MOST 1048576: true; the input reads as it did. -/
def descApartUptoRow : OpenClaim := { program := "ytmonhmmnnekniab", sum := "56cb51332187178b9d91cfb2d894f106a57a2e4cf15e330be868f8b06c70bd09", func := "gabion/gabionlaw23.DescApart", spec := "descApart", apart := false, narrowed := true }
def DescApartUptoSaid : Prop := descApartUptoRow.holds Try.pinned (OpenSpec.upto descApartSpec)

/-- 'gabionlaw23.DescPlays', WHERE WHAT IT READS IS OF BULK AT MOST 1048576: true; the input reads as it did. -/
def descPlaysUptoRow : OpenClaim := { program := "ytmonhmmnnekniab", sum := "56cb51332187178b9d91cfb2d894f106a57a2e4cf15e330be868f8b06c70bd09", func := "gabion/gabionlaw23.DescPlays", spec := "descPlays", apart := false, narrowed := true }
def DescPlaysUptoSaid : Prop := descPlaysUptoRow.holds Try.pinned (OpenSpec.upto descPlaysSpec)

/-- 'gabionlaw23.DescMakes', WHERE WHAT IT READS IS OF BULK AT MOST 1048576: true; the input reads as it did. -/
def descMakesUptoRow : OpenClaim := { program := "ytmonhmmnnekniab", sum := "56cb51332187178b9d91cfb2d894f106a57a2e4cf15e330be868f8b06c70bd09", func := "gabion/gabionlaw23.DescMakes", spec := "descMakes", apart := false, narrowed := true }
def DescMakesUptoSaid : Prop := descMakesUptoRow.holds Try.pinned (OpenSpec.upto descMakesSpec)

end Rows
end Go.Proofs.Ytmonhmmnnekniab
