/-
 Words for memory: slices of strings.
-/
import Derived.Test.YtjnamjkdjcndiaaGreatDoorM1
import Derived.SliceStrings
import Derived.WalkKit
import Derived.ProofKit
import Derived.OpenShut
namespace Go.Proofs.YtjnamjkdjcndiaaGreatDoor
open Go.RowKit Go.ChangeShapes Go.WideShapes Go.ChangeAt
def strV (l:List ByteArray):List Value:=l.map Value.string
theorem strV_snoc (l:List ByteArray) (x:ByteArray):strV (l ++ [x])=strV l ++ [.string x]:=by simp[strV]
theorem oneStr (x:ByteArray):∀ u ∈ (#[Value.string x]:Array Value).toList,u.oneCell'=true:=by intro u hu;simp at hu;subst hu;rfl
section
variable {H:Type} {enc:TypeId×Value→H} {P:Program} {W:World} {b0:Nat}
end
end Go.Proofs.YtjnamjkdjcndiaaGreatDoor
