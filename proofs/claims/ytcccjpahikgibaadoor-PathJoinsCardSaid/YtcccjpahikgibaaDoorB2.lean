/- Own texts for the seat: G2. -/
import Derived.Test.YtcccjpahikgibaaDoorW
import Derived.Test.YtcccjpahikgibaaDoorA12
import Derived.Test.YtcccjpahikgibaaDoorA7
set_option linter.unusedVariables false
set_option linter.unusedSimpArgs false
set_option linter.unnecessarySimpa false
set_option linter.deprecated false
namespace Go.Gb
open Go.Proofs IntWalk


/-! ## le: the plain functions -/

/-- Of a slice of bytes that the call owns: its string. -/
theorem Own.str {h0 h : Heap} {T : TypeId} {a : Option Addr} {n c : Nat} {bs : List UInt8} {K : ByteArray → Prop} (w : Own h0 h T 1 a n c (byteVals bs)) (hk : K ⟨bs.toArray⟩) : xsStr h a n K :=
  ⟨bs, by have := w.len; simpa [byteVals] using this, w.reads, hk⟩

end Go.Gb
