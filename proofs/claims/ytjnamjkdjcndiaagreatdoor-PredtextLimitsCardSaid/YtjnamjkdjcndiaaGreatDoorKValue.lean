/-
 The contract of keep.Value.
-/
import Derived.Test.YtjnamjkdjcndiaaGreatDoorVGen
import Derived.Deep.RegionWith
namespace Go.Proofs.YtjnamjkdjcndiaaGreatDoor
open Go.RowKit
end Go.Proofs.YtjnamjkdjcndiaaGreatDoor
