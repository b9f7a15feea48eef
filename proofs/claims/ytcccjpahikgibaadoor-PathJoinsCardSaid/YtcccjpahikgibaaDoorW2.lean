/- Own text for the seat: W2. -/
import Derived.Test.YtcccjpahikgibaaDoorW1
set_option linter.unusedVariables false
set_option linter.unusedSimpArgs false
set_option linter.unnecessarySimpa false
set_option linter.deprecated false
set_option maxRecDepth 100000
namespace Go.Gb
open Go.Proofs

/-! gabion/gabionref02.Sum -/
/-! gabion/gabionref02.number -/
/-! gabion/gabionref02.Sum32 -/
/-! gabion/gabionref12.Encode -/
/-! gabion/rec.plain -/
/-! gabion/le.Get -/
/-! strings.trimRightByte -/
/-! strings.trimLeftByte -/
/-! strings.trimRightASCII -/
/-! strings.trimLeftASCII -/
/-! unicode/utf8.RuneStart -/
/-! unicode/utf8.DecodeLastRuneInString -/
/-! strings.ContainsRune -/
/-! strings.trimRightUnicode -/
/-! strings.trimLeftUnicode -/
/-! strings.Trim -/
/-! gabion/rec.number -/
/-! gabion/rec.begins -/
/-! gabion/rec.words -/
/-! gabion/rec.Decode -/
/-! (gabion/rec.Record).Size -/
/-! (gabion/rec.Stamp).Follows -/
/-! gabion/gabionlaw12.wakes -/
/-! gabion/gabionref12.Size -/
/-! gabion/gabionref01.Get -/
/-! gabion/gabionref12.Decode -/
/-! gabion/gabionlaw12.RecBytes -/
/-! gabion/gabionref12.Follows -/
/-! gabion/gabionlaw12.RecFollows -/
/-! gabion/gabionlaw12.RecBack -/
/-! gabion/gabionlaw12.RecWords -/
end Go.Gb
