/-
 Arguments of a law,opened: what the walk is told of each.
-/
import Derived.Test.YtncnhcmkhgfodaaRows
import Derived.Test.YtncnhcmkhgfodaaM1
import Derived.WalkKit
import Derived.ProofKit
import Derived.OpenShut
import Derived.ShutString
import Derived.ChangeOld
import Derived.JoinedCond
namespace Go.Proofs.Ytncnhcmkhgfodaa
open Go.ChangeShapes Go.WideShapes Go.ChangeAt Go.RowKit
section
variable {H:Type} {enc:TypeId×Value→H} {P:Program} {W:World} {base:Nat} {b0:Nat}
end
end Go.Proofs.Ytncnhcmkhgfodaa
