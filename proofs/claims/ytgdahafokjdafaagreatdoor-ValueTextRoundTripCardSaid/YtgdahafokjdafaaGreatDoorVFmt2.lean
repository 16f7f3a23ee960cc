/-
  The contract of ref6.Format, but for values of type Bytes.
-/
import Derived.Test.YtgdahafokjdafaaGreatDoorVFmt1
namespace Go.Proofs.YtgdahafokjdafaaGreatDoor
open Go.RowKit Go.Sort
set_option linter.unusedVariables false
end Go.Proofs.YtgdahafokjdafaaGreatDoor
