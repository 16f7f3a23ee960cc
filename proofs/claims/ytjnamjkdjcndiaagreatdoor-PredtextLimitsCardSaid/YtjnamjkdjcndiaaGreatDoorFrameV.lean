/-
 Arguments of a law that are values or columns,opened.
-/
import Derived.Test.YtjnamjkdjcndiaaGreatDoorFrame
import Derived.Lib.SmallJoins
namespace Go.Proofs.YtjnamjkdjcndiaaGreatDoor
open Go.ChangeShapes Go.WideShapes Go.ChangeAt Go.RowKit
section
variable {H:Type} {enc:TypeId×Value→H} {W:World} {b0:Nat}
end
end Go.Proofs.YtjnamjkdjcndiaaGreatDoor
