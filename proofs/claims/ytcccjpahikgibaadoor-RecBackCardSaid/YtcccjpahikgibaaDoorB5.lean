/- Own texts for the seat: Pa1 Pa2 Pa3 Pa4. -/
import Derived.Test.YtcccjpahikgibaaDoorLayI
import Derived.Test.YtcccjpahikgibaaDoorLayA
import Derived.Test.YtcccjpahikgibaaDoorA12
import Derived.Test.YtcccjpahikgibaaDoorA7
import Derived.Test.YtcccjpahikgibaaDoorA9
import Derived.Laws.RangeAny
import Derived.Test.YtcccjpahikgibaaDoorB3
import Derived.Test.YtcccjpahikgibaaDoorW
import Derived.Test.YtcccjpahikgibaaDoorA11
set_option linter.unusedVariables false
set_option linter.unusedSimpArgs false
set_option linter.unnecessarySimpa false
set_option linter.deprecated false
namespace Go.Gb
open Go.Proofs Go.RowKit Go.Shelf IntWalk

/-! ## Names: strings.ContainsAny of a slash and a zero, for any bytes -/

theorem bytes_len (s : ByteArray) : s.data.toList.length = s.size := Array.length_toList

end Go.Gb
namespace Go.Gb
open Go.Proofs IntWalk

/-! ## The pieces of a path; strings.SplitSeq -/

abbrev slashB : ByteArray := ⟨#[UInt8.ofNat 47]⟩
abbrev mkB (l : List UInt8) : ByteArray := ⟨l.toArray⟩
theorem sext_mk (s : ByteArray) {a b : Nat} : sext s (a : Int) (b : Int) = mkB ((s.data.toList.take b).drop a) := by
  unfold sext mkB
  apply ByteArray.ext
  apply Array.ext'
  rw [ByteArray.data_extract, Array.toList_extract]
  show List.extract _ _ _ = _
  rw [List.extract_eq_take_drop, List.drop_take]
  rfl

end Go.Gb
namespace Go.Gb
open Go.Proofs IntWalk

/-! ## path.Parse -/

structure Wy where
  abs : Bool
  parts : List ByteArray
  dir : Bool

/-- A way's parts in memory, which nobody changes. -/
structure Pts (h : Heap) (a : Option Addr) (n c : Nat) (l : List ByteArray) : Prop where
  len : l.length = n
  le : n ≤ c
  reads : readsAt h a (l.map Value.string)

theorem Pts.part {h h' : Heap} {a : Option Addr} {n c : Nat} {l : List ByteArray} (p : Pts h a n c l) (q : Part h h') : Pts h' a n c l := ⟨p.len, p.le, readsAt_part p.reads q⟩
theorem Pts.nil (h : Heap) : Pts h none 0 0 [] := ⟨rfl, Nat.le_refl _, (Sl.nil (fun _ => False) h 0 1).reads⟩

end Go.Gb
namespace Go.Gb
open Go.Proofs IntWalk


end Go.Gb
