/-
  No cell of these rows narrows 'for every input' (looked for: loops, veiled, ifaces, maps, wideKeys, modest, calm, conditions, laid).
  DERIVED. THE GIVEN ROWS OF THIS SEAT. 12 by the template 'for every input the law returns true; each argument reads behind the call as it read before'; 0 by the template 'total and deterministic' (their statements: YtmonhmmnnekniaaTotals.lean).
  GIVEN WITH THE SEED: the statements are not yours to turn. If you find one false, say at which input.
  Laid BY PROGRAM, IN A SANDBOX (cutbox-rows.mjs): the forced cells as the released guide's own fill.sh prints them over the translation e65bb0f061bf912b… (all of the seat's roots in one cut). By AI agents, Wed Nov 11 2026. No macro, syntax, notation, axiom, sorry.
-/
import Derived.Test.YtmonhmmnnekniaaChecked
import GoSem.Claim
import GoSem.ClaimJoined
import GoSem.ClaimMapViews
import Derived.JoinedTies
import Derived.KernelRfl
namespace Go.Proofs.Ytmonhmmnnekniaa
/- THE CELL 'sum', in the pinned program and in every row, IS THE sha256 OF THE DUMP (.gsa) THAT YtmonhmmnnekniaaProg.lean LOADS. Nothing in Lean hashes anything: it is a label: what it is worth is what the hold of that sum in a sandbox is worth. -/
noncomputable def Try.pinned : Pinned := { name := "ytmonhmmnnekniaa", sum := "e65bb0f061bf912bd29150f7397d3fb5dcf1a255e2af06ce5c6156a9367fe1e1", checked := Try.checked }
namespace Rows
def none {H : Type} : Left H := { results := [], args := [] }

/-- 'gabionlaw06.GapMoves': WHATEVER THE INPUT: true; the input reads as it did. -/
def gapMovesSpec : ChangeSpec := { name := "gapMoves", fn := fun _ => fun
  | [d] => { results := [.lit (.bool true)], args := [d] }
  | _ => none }
def gapMovesRow : OpenClaim := { program := "ytmonhmmnnekniaa", sum := "e65bb0f061bf912bd29150f7397d3fb5dcf1a255e2af06ce5c6156a9367fe1e1", func := "gabion/gabionlaw06.GapMoves", spec := "gapMoves", apart := false }
def GapMovesSaid : Prop := gapMovesRow.holds Try.pinned (OpenSpec.ofChange gapMovesSpec)

/-- ITS FALSE NEIGHBOUR: 'it returns false'. Refute it at one input. -/
def gapMovesWrong : ChangeSpec := { name := "gapMoves", fn := fun _ => fun
  | [d] => { results := [.lit (.bool false)], args := [d] }
  | _ => none }
def GapMovesWrongFalsely : Prop := gapMovesRow.holds Try.pinned (OpenSpec.ofChange gapMovesWrong)

/-- 'gabionlaw06.GapLater': WHATEVER THE INPUT: true; the input reads as it did. -/
def gapLaterSpec : ChangeSpec := { name := "gapLater", fn := fun _ => fun
  | [d1, d2] => { results := [.lit (.bool true)], args := [d1, d2] }
  | _ => none }
def gapLaterRow : OpenClaim := { program := "ytmonhmmnnekniaa", sum := "e65bb0f061bf912bd29150f7397d3fb5dcf1a255e2af06ce5c6156a9367fe1e1", func := "gabion/gabionlaw06.GapLater", spec := "gapLater", apart := false }
def GapLaterSaid : Prop := gapLaterRow.holds Try.pinned (OpenSpec.ofChange gapLaterSpec)

/-- ITS FALSE NEIGHBOUR: 'it returns false'. Refute it at one input. -/
def gapLaterWrong : ChangeSpec := { name := "gapLater", fn := fun _ => fun
  | [d1, d2] => { results := [.lit (.bool false)], args := [d1, d2] }
  | _ => none }
def GapLaterWrongFalsely : Prop := gapLaterRow.holds Try.pinned (OpenSpec.ofChange gapLaterWrong)

/-- 'gabionlaw01.LeBytes': WHATEVER THE INPUT: true; the input reads as it did. -/
def leBytesSpec : ChangeSpec := { name := "leBytes", fn := fun _ => fun
  | [d1, d2, d3] => { results := [.lit (.bool true)], args := [d1, d2, d3] }
  | _ => none }
def leBytesRow : OpenClaim := { program := "ytmonhmmnnekniaa", sum := "e65bb0f061bf912bd29150f7397d3fb5dcf1a255e2af06ce5c6156a9367fe1e1", func := "gabion/gabionlaw01.LeBytes", spec := "leBytes", apart := false }
def LeBytesSaid : Prop := leBytesRow.holds Try.pinned (OpenSpec.ofChange leBytesSpec)

/-- ITS FALSE NEIGHBOUR: 'it returns false'. Refute it at one input. -/
def leBytesWrong : ChangeSpec := { name := "leBytes", fn := fun _ => fun
  | [d1, d2, d3] => { results := [.lit (.bool false)], args := [d1, d2, d3] }
  | _ => none }
def LeBytesWrongFalsely : Prop := leBytesRow.holds Try.pinned (OpenSpec.ofChange leBytesWrong)

/-- 'gabionlaw01.LeFields': WHATEVER THE INPUT: true; the input reads as it did. -/
def leFieldsSpec : ChangeSpec := { name := "leFields", fn := fun _ => fun
  | [d1, d2, d3] => { results := [.lit (.bool true)], args := [d1, d2, d3] }
  | _ => none }
def leFieldsRow : OpenClaim := { program := "ytmonhmmnnekniaa", sum := "e65bb0f061bf912bd29150f7397d3fb5dcf1a255e2af06ce5c6156a9367fe1e1", func := "gabion/gabionlaw01.LeFields", spec := "leFields", apart := false }
def LeFieldsSaid : Prop := leFieldsRow.holds Try.pinned (OpenSpec.ofChange leFieldsSpec)

/-- ITS FALSE NEIGHBOUR: 'it returns false'. Refute it at one input. -/
def leFieldsWrong : ChangeSpec := { name := "leFields", fn := fun _ => fun
  | [d1, d2, d3] => { results := [.lit (.bool false)], args := [d1, d2, d3] }
  | _ => none }
def LeFieldsWrongFalsely : Prop := leFieldsRow.holds Try.pinned (OpenSpec.ofChange leFieldsWrong)

/-- 'gabionlaw01.LeParts': WHATEVER THE INPUT: true; the input reads as it did. -/
def lePartsSpec : ChangeSpec := { name := "leParts", fn := fun _ => fun
  | [d1, d2, d3] => { results := [.lit (.bool true)], args := [d1, d2, d3] }
  | _ => none }
def lePartsRow : OpenClaim := { program := "ytmonhmmnnekniaa", sum := "e65bb0f061bf912bd29150f7397d3fb5dcf1a255e2af06ce5c6156a9367fe1e1", func := "gabion/gabionlaw01.LeParts", spec := "leParts", apart := false }
def LePartsSaid : Prop := lePartsRow.holds Try.pinned (OpenSpec.ofChange lePartsSpec)

/-- ITS FALSE NEIGHBOUR: 'it returns false'. Refute it at one input. -/
def lePartsWrong : ChangeSpec := { name := "leParts", fn := fun _ => fun
  | [d1, d2, d3] => { results := [.lit (.bool false)], args := [d1, d2, d3] }
  | _ => none }
def LePartsWrongFalsely : Prop := lePartsRow.holds Try.pinned (OpenSpec.ofChange lePartsWrong)

/-- 'gabionlaw01.LeJoins': WHATEVER THE INPUT: true; the input reads as it did. -/
def leJoinsSpec : ChangeSpec := { name := "leJoins", fn := fun _ => fun
  | [d1, d2, d3] => { results := [.lit (.bool true)], args := [d1, d2, d3] }
  | _ => none }
def leJoinsRow : OpenClaim := { program := "ytmonhmmnnekniaa", sum := "e65bb0f061bf912bd29150f7397d3fb5dcf1a255e2af06ce5c6156a9367fe1e1", func := "gabion/gabionlaw01.LeJoins", spec := "leJoins", apart := false }
def LeJoinsSaid : Prop := leJoinsRow.holds Try.pinned (OpenSpec.ofChange leJoinsSpec)

/-- ITS FALSE NEIGHBOUR: 'it returns false'. Refute it at one input. -/
def leJoinsWrong : ChangeSpec := { name := "leJoins", fn := fun _ => fun
  | [d1, d2, d3] => { results := [.lit (.bool false)], args := [d1, d2, d3] }
  | _ => none }
def LeJoinsWrongFalsely : Prop := leJoinsRow.holds Try.pinned (OpenSpec.ofChange leJoinsWrong)

/-- 'gabionlaw06.GapSlots': WHATEVER THE INPUT: true; the input reads as it did. -/
def gapSlotsSpec : ChangeSpec := { name := "gapSlots", fn := fun _ => fun
  | [d1, d2] => { results := [.lit (.bool true)], args := [d1, d2] }
  | _ => none }
def gapSlotsRow : OpenClaim := { program := "ytmonhmmnnekniaa", sum := "e65bb0f061bf912bd29150f7397d3fb5dcf1a255e2af06ce5c6156a9367fe1e1", func := "gabion/gabionlaw06.GapSlots", spec := "gapSlots", apart := false }
def GapSlotsSaid : Prop := gapSlotsRow.holds Try.pinned (OpenSpec.ofChange gapSlotsSpec)

/-- ITS FALSE NEIGHBOUR: 'it returns false'. Refute it at one input. -/
def gapSlotsWrong : ChangeSpec := { name := "gapSlots", fn := fun _ => fun
  | [d1, d2] => { results := [.lit (.bool false)], args := [d1, d2] }
  | _ => none }
def GapSlotsWrongFalsely : Prop := gapSlotsRow.holds Try.pinned (OpenSpec.ofChange gapSlotsWrong)

/-- 'gabionlaw06.GapTurns': WHATEVER THE INPUT: true; the input reads as it did. -/
def gapTurnsSpec : ChangeSpec := { name := "gapTurns", fn := fun _ => fun
  | [d1, d2] => { results := [.lit (.bool true)], args := [d1, d2] }
  | _ => none }
def gapTurnsRow : OpenClaim := { program := "ytmonhmmnnekniaa", sum := "e65bb0f061bf912bd29150f7397d3fb5dcf1a255e2af06ce5c6156a9367fe1e1", func := "gabion/gabionlaw06.GapTurns", spec := "gapTurns", apart := false }
def GapTurnsSaid : Prop := gapTurnsRow.holds Try.pinned (OpenSpec.ofChange gapTurnsSpec)

/-- ITS FALSE NEIGHBOUR: 'it returns false'. Refute it at one input. -/
def gapTurnsWrong : ChangeSpec := { name := "gapTurns", fn := fun _ => fun
  | [d1, d2] => { results := [.lit (.bool false)], args := [d1, d2] }
  | _ => none }
def GapTurnsWrongFalsely : Prop := gapTurnsRow.holds Try.pinned (OpenSpec.ofChange gapTurnsWrong)

/-- 'gabionlaw01.LeWords': WHATEVER THE INPUT: true; the input reads as it did. -/
def leWordsSpec : ChangeSpec := { name := "leWords", fn := fun _ => fun
  | [d1, d2] => { results := [.lit (.bool true)], args := [d1, d2] }
  | _ => none }
def leWordsRow : OpenClaim := { program := "ytmonhmmnnekniaa", sum := "e65bb0f061bf912bd29150f7397d3fb5dcf1a255e2af06ce5c6156a9367fe1e1", func := "gabion/gabionlaw01.LeWords", spec := "leWords", apart := false }
def LeWordsSaid : Prop := leWordsRow.holds Try.pinned (OpenSpec.ofChange leWordsSpec)

/-- ITS FALSE NEIGHBOUR: 'it returns false'. Refute it at one input. -/
def leWordsWrong : ChangeSpec := { name := "leWords", fn := fun _ => fun
  | [d1, d2] => { results := [.lit (.bool false)], args := [d1, d2] }
  | _ => none }
def LeWordsWrongFalsely : Prop := leWordsRow.holds Try.pinned (OpenSpec.ofChange leWordsWrong)

/-- 'gabionlaw08.FeistelGoes': WHATEVER THE INPUT: true; the input reads as it did. -/
def feistelGoesSpec : ChangeSpec := { name := "feistelGoes", fn := fun _ => fun
  | [d1, d2, d3] => { results := [.lit (.bool true)], args := [d1, d2, d3] }
  | _ => none }
def feistelGoesRow : OpenClaim := { program := "ytmonhmmnnekniaa", sum := "e65bb0f061bf912bd29150f7397d3fb5dcf1a255e2af06ce5c6156a9367fe1e1", func := "gabion/gabionlaw08.FeistelGoes", spec := "feistelGoes", unfollowed := true, recurses := true, apart := false }
def FeistelGoesSaid : Prop := feistelGoesRow.holds Try.pinned (OpenSpec.ofChange feistelGoesSpec)

/-- ITS FALSE NEIGHBOUR: 'it returns false'. Refute it at one input. -/
def feistelGoesWrong : ChangeSpec := { name := "feistelGoes", fn := fun _ => fun
  | [d1, d2, d3] => { results := [.lit (.bool false)], args := [d1, d2, d3] }
  | _ => none }
def FeistelGoesWrongFalsely : Prop := feistelGoesRow.holds Try.pinned (OpenSpec.ofChange feistelGoesWrong)

/-- 'gabionlaw08.FeistelOnce': WHATEVER THE INPUT: true; the input reads as it did. -/
def feistelOnceSpec : ChangeSpec := { name := "feistelOnce", fn := fun _ => fun
  | [d1, d2] => { results := [.lit (.bool true)], args := [d1, d2] }
  | _ => none }
def feistelOnceRow : OpenClaim := { program := "ytmonhmmnnekniaa", sum := "e65bb0f061bf912bd29150f7397d3fb5dcf1a255e2af06ce5c6156a9367fe1e1", func := "gabion/gabionlaw08.FeistelOnce", spec := "feistelOnce", unfollowed := true, recurses := true, apart := false }
def FeistelOnceSaid : Prop := feistelOnceRow.holds Try.pinned (OpenSpec.ofChange feistelOnceSpec)

/-- ITS FALSE NEIGHBOUR: 'it returns false'. Refute it at one input. -/
def feistelOnceWrong : ChangeSpec := { name := "feistelOnce", fn := fun _ => fun
  | [d1, d2] => { results := [.lit (.bool false)], args := [d1, d2] }
  | _ => none }
def FeistelOnceWrongFalsely : Prop := feistelOnceRow.holds Try.pinned (OpenSpec.ofChange feistelOnceWrong)

/-- 'gabionlaw06.GapPacks': WHATEVER THE INPUT: true; the input reads as it did. -/
def gapPacksSpec : ChangeSpec := { name := "gapPacks", fn := fun _ => fun
  | [d1, d2] => { results := [.lit (.bool true)], args := [d1, d2] }
  | _ => none }
def gapPacksRow : OpenClaim := { program := "ytmonhmmnnekniaa", sum := "e65bb0f061bf912bd29150f7397d3fb5dcf1a255e2af06ce5c6156a9367fe1e1", func := "gabion/gabionlaw06.GapPacks", spec := "gapPacks", apart := false }
def GapPacksSaid : Prop := gapPacksRow.holds Try.pinned (OpenSpec.ofChange gapPacksSpec)

/-- ITS FALSE NEIGHBOUR: 'it returns false'. Refute it at one input. -/
def gapPacksWrong : ChangeSpec := { name := "gapPacks", fn := fun _ => fun
  | [d1, d2] => { results := [.lit (.bool false)], args := [d1, d2] }
  | _ => none }
def GapPacksWrongFalsely : Prop := gapPacksRow.holds Try.pinned (OpenSpec.ofChange gapPacksWrong)

/- THE SECOND FORM. 'bulk': how many values and letters a reading holds, each counted each time it is reached (what is shared counts as often as it is met; a slice's spare places count too). A statement '..UptoSaid' is the law's where the arguments, and the package variables that the reading takes, are together of bulk at most 1048576: NARROWER than '..Said'. Prove '..Said' where nothing that the law and all that it calls make is longer than what came in: it says more and counts as full. Else prove '..UptoSaid'. A law counts once. -/
mutual
def uptoBulk {H : Type} : DataW H → Nat
  | .lit (.string bytes) => bytes.length + 1
  | .lit _ => 1
  | .nil => 1
  | .ptr d => uptoBulk d + 1
  | .slice elems spare => uptoBulkAll elems + uptoBulkAll spare + 1
  | .agg parts => uptoBulkAll parts + 1
  | .iface _ d => uptoBulk d + 1
  | .map entries => uptoBulkEntries entries + 1
  | .held _ => 1
def uptoBulkAll {H : Type} : List (DataW H) → Nat
  | [] => 0
  | d :: r => uptoBulk d + uptoBulkAll r
def uptoBulkEntries {H : Type} : List (Lit × DataW H) → Nat
  | [] => 0
  | x :: r => uptoBulkEntry x + uptoBulkEntries r
def uptoBulkEntry {H : Type} : Lit × DataW H → Nat
  | (.string bytes, d) => bytes.length + uptoBulk d + 1
  | (_, d) => uptoBulk d + 1
 end
def uptoSmall : (H : Type) → List (DataW H) → Bool := fun _ ds => decide (uptoBulkAll ds ≤ 1048576)
def OpenSpec.upto (s : _root_.Go.ChangeSpec) : _root_.Go.OpenSpec := { _root_.Go.OpenSpec.ofChange s with cond := some uptoSmall }

/-- 'gabionlaw06.GapMoves', WHERE WHAT IT READS IS OF BULK AT MOST 1048576: true; the input reads as it did. -/
def gapMovesUptoRow : OpenClaim := { program := "ytmonhmmnnekniaa", sum := "e65bb0f061bf912bd29150f7397d3fb5dcf1a255e2af06ce5c6156a9367fe1e1", func := "gabion/gabionlaw06.GapMoves", spec := "gapMoves", apart := false, narrowed := true }
def GapMovesUptoSaid : Prop := gapMovesUptoRow.holds Try.pinned (OpenSpec.upto gapMovesSpec)

/-- 'gabionlaw06.GapLater', WHERE WHAT IT READS IS OF BULK AT MOST 1048576: true; the input reads as it did. -/
def gapLaterUptoRow : OpenClaim := { program := "ytmonhmmnnekniaa", sum := "e65bb0f061bf912bd29150f7397d3fb5dcf1a255e2af06ce5c6156a9367fe1e1", func := "gabion/gabionlaw06.GapLater", spec := "gapLater", apart := false, narrowed := true }
def GapLaterUptoSaid : Prop := gapLaterUptoRow.holds Try.pinned (OpenSpec.upto gapLaterSpec)

/-- 'gabionlaw01.LeBytes', WHERE WHAT IT READS IS OF BULK AT MOST 1048576: true; the input reads as it did. -/
def leBytesUptoRow : OpenClaim := { program := "ytmonhmmnnekniaa", sum := "e65bb0f061bf912bd29150f7397d3fb5dcf1a255e2af06ce5c6156a9367fe1e1", func := "gabion/gabionlaw01.LeBytes", spec := "leBytes", apart := false, narrowed := true }
def LeBytesUptoSaid : Prop := leBytesUptoRow.holds Try.pinned (OpenSpec.upto leBytesSpec)

/-- 'gabionlaw01.LeFields', WHERE WHAT IT READS IS OF BULK AT MOST 1048576: true; the input reads as it did. -/
def leFieldsUptoRow : OpenClaim := { program := "ytmonhmmnnekniaa", sum := "e65bb0f061bf912bd29150f7397d3fb5dcf1a255e2af06ce5c6156a9367fe1e1", func := "gabion/gabionlaw01.LeFields", spec := "leFields", apart := false, narrowed := true }
def LeFieldsUptoSaid : Prop := leFieldsUptoRow.holds Try.pinned (OpenSpec.upto leFieldsSpec)

/-- 'gabionlaw01.LeParts', WHERE WHAT IT READS IS OF BULK AT MOST 1048576: true; the input reads as it did. -/
def lePartsUptoRow : OpenClaim := { program := "ytmonhmmnnekniaa", sum := "e65bb0f061bf912bd29150f7397d3fb5dcf1a255e2af06ce5c6156a9367fe1e1", func := "gabion/gabionlaw01.LeParts", spec := "leParts", apart := false, narrowed := true }
def LePartsUptoSaid : Prop := lePartsUptoRow.holds Try.pinned (OpenSpec.upto lePartsSpec)

/-- 'gabionlaw01.LeJoins', WHERE WHAT IT READS IS OF BULK AT MOST 1048576: true; the input reads as it did. -/
def leJoinsUptoRow : OpenClaim := { program := "ytmonhmmnnekniaa", sum := "e65bb0f061bf912bd29150f7397d3fb5dcf1a255e2af06ce5c6156a9367fe1e1", func := "gabion/gabionlaw01.LeJoins", spec := "leJoins", apart := false, narrowed := true }
def LeJoinsUptoSaid : Prop := leJoinsUptoRow.holds Try.pinned (OpenSpec.upto leJoinsSpec)

/-- 'gabionlaw06.GapSlots', WHERE WHAT IT READS IS OF BULK AT MOST 1048576: true; the input reads as it did. -/
def gapSlotsUptoRow : OpenClaim := { program := "ytmonhmmnnekniaa", sum := "e65bb0f061bf912bd29150f7397d3fb5dcf1a255e2af06ce5c6156a9367fe1e1", func := "gabion/gabionlaw06.GapSlots", spec := "gapSlots", apart := false, narrowed := true }
def GapSlotsUptoSaid : Prop := gapSlotsUptoRow.holds Try.pinned (OpenSpec.upto gapSlotsSpec)

/-- 'gabionlaw06.GapTurns', WHERE WHAT IT READS IS OF BULK AT MOST 1048576: true; the input reads as it did. -/
def gapTurnsUptoRow : OpenClaim := { program := "ytmonhmmnnekniaa", sum := "e65bb0f061bf912bd29150f7397d3fb5dcf1a255e2af06ce5c6156a9367fe1e1", func := "gabion/gabionlaw06.GapTurns", spec := "gapTurns", apart := false, narrowed := true }
def GapTurnsUptoSaid : Prop := gapTurnsUptoRow.holds Try.pinned (OpenSpec.upto gapTurnsSpec)

/-- 'gabionlaw01.LeWords', WHERE WHAT IT READS IS OF BULK AT MOST 1048576: true; the input reads as it did. -/
def leWordsUptoRow : OpenClaim := { program := "ytmonhmmnnekniaa", sum := "e65bb0f061bf912bd29150f7397d3fb5dcf1a255e2af06ce5c6156a9367fe1e1", func := "gabion/gabionlaw01.LeWords", spec := "leWords", apart := false, narrowed := true }
def LeWordsUptoSaid : Prop := leWordsUptoRow.holds Try.pinned (OpenSpec.upto leWordsSpec)

/-- 'gabionlaw08.FeistelGoes', WHERE WHAT IT READS IS OF BULK AT MOST 1048576: true; the input reads as it did. -/
def feistelGoesUptoRow : OpenClaim := { program := "ytmonhmmnnekniaa", sum := "e65bb0f061bf912bd29150f7397d3fb5dcf1a255e2af06ce5c6156a9367fe1e1", func := "gabion/gabionlaw08.FeistelGoes", spec := "feistelGoes", unfollowed := true, recurses := true, apart := false, narrowed := true }
def FeistelGoesUptoSaid : Prop := feistelGoesUptoRow.holds Try.pinned (OpenSpec.upto feistelGoesSpec)

/-- 'gabionlaw08.FeistelOnce', WHERE WHAT IT READS IS OF BULK AT MOST 1048576: true; the input reads as it did. -/
def feistelOnceUptoRow : OpenClaim := { program := "ytmonhmmnnekniaa", sum := "e65bb0f061bf912bd29150f7397d3fb5dcf1a255e2af06ce5c6156a9367fe1e1", func := "gabion/gabionlaw08.FeistelOnce", spec := "feistelOnce", unfollowed := true, recurses := true, apart := false, narrowed := true }
def FeistelOnceUptoSaid : Prop := feistelOnceUptoRow.holds Try.pinned (OpenSpec.upto feistelOnceSpec)

/-- 'gabionlaw06.GapPacks', WHERE WHAT IT READS IS OF BULK AT MOST 1048576: true; the input reads as it did. -/
def gapPacksUptoRow : OpenClaim := { program := "ytmonhmmnnekniaa", sum := "e65bb0f061bf912bd29150f7397d3fb5dcf1a255e2af06ce5c6156a9367fe1e1", func := "gabion/gabionlaw06.GapPacks", spec := "gapPacks", apart := false, narrowed := true }
def GapPacksUptoSaid : Prop := gapPacksUptoRow.holds Try.pinned (OpenSpec.upto gapPacksSpec)

end Rows
end Go.Proofs.Ytmonhmmnnekniaa
