/-
 The contract of keep.Pick.
-/
import Derived.Test.YtncnhcmkhgfodaaProg
import Derived.Test.YtncnhcmkhgfodaaM1
namespace Go.Proofs.Ytncnhcmkhgfodaa
open Go.RowKit
def pick (v n:Int):Int:=(v % 18446744073709551616) % n
theorem pick_lo (v n:Int) (h:0<n):0≤pick v n:=Int.emod_nonneg _ (by omega)
theorem pick_hi (v n:Int) (h:0<n):pick v n<n:=Int.emod_lt_of_pos _ h
theorem pick_eq (v n:Int) (h0:0<n) (h1:n≤4294967296):wrap64 ((IntKind.u64.wrap v).tmod n)=pick v n:=by
 have a:0≤IntKind.u64.wrap v:=by rw[IntKind.wrap_u64];omega
 rw[Int.tmod_eq_emod_of_nonneg a,IntKind.wrap_u64];have:=pick_lo v n h0
 have:=pick_hi v n h0
 exact IntWalk.wrap64_in _ ⟨by show _≤pick v n;omega,by show pick v n≤_;omega⟩
set_option maxHeartbeats 400000 in
theorem pick_any (v n:Int) (w:World) (h0:0<n) (h1:n≤4294967296) :
  Calls Try.prog 5 #[.int .i64 v,.int .i64 n] w fun e w'=>e=.returned (.int .i64 (pick v n))∧w=w':=by
 go_enter Try.func5,Try.ntmps5
 go_wp2;go_ret;exact ⟨ret_int (pick_eq v n h0 h1),rfl⟩
end Go.Proofs.Ytncnhcmkhgfodaa
