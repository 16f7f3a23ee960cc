/-
  The contract of ref1.FormatDecimal.
-/
import Derived.Test.YtgdahafokjdafaaGreatDoorRDigits
import Derived.Test.YtgdahafokjdafaaGreatDoorDecSplit
namespace Go.Proofs.YtgdahafokjdafaaGreatDoor
open Go.RowKit
end Go.Proofs.YtgdahafokjdafaaGreatDoor
