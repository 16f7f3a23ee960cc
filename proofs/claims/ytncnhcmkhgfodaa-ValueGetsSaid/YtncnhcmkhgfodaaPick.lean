/-
 The contract of keep.Pick.
-/
import Derived.Test.YtncnhcmkhgfodaaProg
import Derived.Test.YtncnhcmkhgfodaaM1
namespace Go.Proofs.Ytncnhcmkhgfodaa
open Go.RowKit
def pick (v n:Int):Int:=(v % 18446744073709551616) % n
theorem pick_lo (v n:Int) (h:0<n):0≤pick v n:=Int.emod_nonneg _ (by omega)
theorem pick_hi (v n:Int) (h:0<n):pick v n<n:=Int.emod_lt_of_pos _ h
end Go.Proofs.Ytncnhcmkhgfodaa
