/-
 The contracts of varint.Zag and ref1.Zag.
-/
import Derived.Test.YtncnhcmkhgfodaaVarPut
import Derived.Test.YtncnhcmkhgfodaaM2
import Derived.Lib.VarintDec
namespace Go.Proofs.Ytncnhcmkhgfodaa
open Go.RowKit
theorem xor_even (y:Nat) (hy:y<9223372036854775808):bits .xor .i64 (y:Int) 0=(y:Int):=by
 show IntKind.i64.wrap ((BitVec.ofInt 64 (y:Int) ^^^ BitVec.ofInt 64 0).toNat:Int)=_
 have h2:(BitVec.ofInt 64 (y:Int)).toNat=y:=by
  rw[BitVec.ofInt_natCast,BitVec.toNat_ofNat];exact Nat.mod_eq_of_lt (by omega)
 have h1:(BitVec.ofInt 64 0).toNat=0:=by decide
 rw[BitVec.toNat_xor,h1,h2,Nat.xor_zero,IntKind.wrap_i64];omega
theorem xor_odd (y:Nat) (hy:y<9223372036854775808):bits .xor .i64 (y:Int) (-1)=-(y:Int) - 1:=by
 rw[←Lib.i64_not y hy];show IntKind.i64.wrap ((BitVec.ofInt 64 (y:Int) ^^^ BitVec.ofInt 64 (-1)).toNat:Int)=IntKind.i64.wrap ((BitVec.ofInt 64 (-1) ^^^ BitVec.ofInt 64 (y:Int)).toNat:Int)
 rw[BitVec.xor_comm]
set_option maxRecDepth 100000 in
theorem zag_any (v:Nat) (hv:v<18446744073709551616) (w:World):Calls Try.prog 13 #[.int .u64 v] w (RetI0 w (Lib.unzigzag v)):=by
 have hand:=Lib.u64_and1 (v:Int) (by omega) (by omega);by_cases hodd:v % 2=0
 ·have h0:bits .and .u64 (v:Int) 1=0:=by rw[hand];omega
  have H:=Lib.hid (show Lib.unzigzag v=(v:Int) / 2 by simp[Lib.unzigzag,hodd]);have HX:=Lib.hid (show bits .xor .i64 ((v:Int) / 2) 0=(v:Int) / 2 by have:=xor_even (v / 2) (by omega);rw[show (((v / 2:Nat)):Int)=(v:Int) / 2 by omega]at this;exact this);clear hand;go_enter Try.func13,Try.ntmps13
  go_wp2;go_ret;trace_state
  exact RetI0.mk_ (by rw[H.out];first | exact HX.out.symm | simp[HX.out])
 ·have h0:bits .and .u64 (v:Int) 1=1:=by rw[hand];omega
  have H:=Lib.hid (show Lib.unzigzag v=-((v:Int) / 2) - 1 by simp[Lib.unzigzag,hodd]);have HX:=Lib.hid (show bits .xor .i64 ((v:Int) / 2) (-1)=-((v:Int) / 2) - 1 by have:=xor_odd (v / 2) (by omega);rw[show (((v / 2:Nat)):Int)=(v:Int) / 2 by omega]at this;exact this);clear hand;go_enter Try.func13,Try.ntmps13
  go_wp2;go_ret;exact RetI0.mk_ (by rw[H.out];first | exact HX.out.symm | simp[HX.out])
end Go.Proofs.Ytncnhcmkhgfodaa
