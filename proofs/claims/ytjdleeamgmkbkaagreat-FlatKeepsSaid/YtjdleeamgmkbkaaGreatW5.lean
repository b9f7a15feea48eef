/- Own text for the seat: W5. -/
import Derived.Test.YtjdleeamgmkbkaaGreatW4
set_option linter.unusedVariables false
set_option linter.unusedSimpArgs false
set_option linter.unnecessarySimpa false
set_option linter.deprecated false
set_option maxRecDepth 100000
namespace Go.Gb
open Go.Proofs

/-! gabion/gabionref02.number -/
/-! gabion/gabionref02.Sum16 -/
/-! gabion/gabionref02.Guard -/
/-! gabion/gabionref05.Entries -/
/-! gabion/gabionref05.Where -/
/-! gabion/gabionref04.Get -/
/-! gabion/gabionref04.PutWord -/
/-! gabion/gabionref04.Media -/
/-! gabion/gabionref05.retire -/
/-! gabion/gabionref05.WriteWord -/
/-! gabion/gabionref07.Format -/
/-! gabion/gabionref02.Sum32 -/
/-! gabion/gabionref09.Head -/
/-! gabion/gabionref09.Make -/
/-! gabion/gabionlaw09.media -/
/-! gabion/gabionref09.Open -/
/-! gabion/gabionref08.Half -/
/-! gabion/gabionref08.power -/
/-! gabion/gabionref08.xor -/
/-! gabion/gabionref08.mix -/
/-! gabion/gabionref08.turn -/
/-! gabion/gabionref08.To -/
/-! gabion/gabionref09.place -/
/-! gabion/gabionref07.line -/
/-! gabion/gabionref06.Right -/
/-! gabion/gabionref07.State -/
/-! gabion/gabionref06.Next -/
/-! gabion/gabionref05.Write -/
/-! gabion/gabionref07.move -/
/-! gabion/gabionref06.Slots -/
/-! gabion/gabionref07.slot -/
/-! gabion/gabionref07.Write -/
/-! gabion/gabionref09.Write -/
/-! gabion/gabionref07.Where -/
/-! gabion/gabionref07.Read -/
/-! gabion/gabionref09.Read -/
/-! gabion/gabionref03.Boot -/
/-! gabion/gabionref09.Where -/
/-! gabion/gabionlaw09.FlatPlays -/
end Go.Gb
