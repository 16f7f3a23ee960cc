/-
 The contracts of keep.From and of Source.Next.
-/
import Derived.Test.YtjnamjkdjcndiaaGreatDoorM4
import Derived.Test.YtjnamjkdjcndiaaGreatDoorM1
import Derived.Deep.QuietTactic
import Derived.BigQuiet
namespace Go.Proofs.YtjnamjkdjcndiaaGreatDoor
open Go.RowKit
end Go.Proofs.YtjnamjkdjcndiaaGreatDoor
