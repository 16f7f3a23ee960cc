/-
 Arguments of a law that are values or columns,opened.
-/
import Derived.Test.YtncnhcmkhgfodaaFrame
import Derived.Lib.SmallJoins
namespace Go.Proofs.Ytncnhcmkhgfodaa
open Go.ChangeShapes Go.WideShapes Go.ChangeAt Go.RowKit
section
variable {H:Type} {enc:TypeId×Value→H} {W:World} {b0:Nat}
theorem wf_bd {a:Int} (h:(Lit.int .i64 a).wf=true):-9223372036854775808≤a∧a≤9223372036854775807:=by
 simp[Lit.wf,IntKind.min,IntKind.max,IntKind.signed,IntKind.bits]at h;omega
end
end Go.Proofs.Ytncnhcmkhgfodaa
