/-
 The contract of keep.value: it draws a valid value of a column.
-/
import Derived.Test.YtjnamjkdjcndiaaGreatDoorSrc
import Derived.Test.YtjnamjkdjcndiaaGreatDoorM2
import Derived.Deep.DeepCutAuto
import Derived.Deep.CutBlock
import Derived.Laws.BytesArg
namespace Go.Proofs.YtjnamjkdjcndiaaGreatDoor
open Go.RowKit
end Go.Proofs.YtjnamjkdjcndiaaGreatDoor
