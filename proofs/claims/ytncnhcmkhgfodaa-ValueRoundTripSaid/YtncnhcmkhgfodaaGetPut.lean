/-
 Get undoes Put,in plain Lean.
-/
import Derived.Test.YtncnhcmkhgfodaaValGet
import Derived.Test.YtncnhcmkhgfodaaValPut
import Derived.Lib.Strings
namespace Go.Proofs.Ytncnhcmkhgfodaa
theorem toUInt8_toNat {v:Nat} (h:v<256):(v.toUInt8).toNat=v:=by
 show (UInt8.ofNat v).toNat=v
 rw[UInt8.toNat_ofNat'];exact Nat.mod_eq_of_lt h
theorem vgetFrom_uvarint:∀ (v i acc:Nat) (r:List UInt8),i≤9→v * 2 ^ (7 * i)<18446744073709551616→(0<i→0<v) →
  vgetFrom i acc (Lib.uvarint v++r)=(acc+v * 2 ^ (7 * i),i+(Lib.uvarint v).length,0):=by
 intro v
 induction v using Nat.strongRecOn with
 | ind v ih =>
  intro i acc r hi hv h0
  have h9:i=9→v<2:=by rintro rfl;simp at hv;omega
  by_cases hlt:v<128
  ·rw[Lib.uvarint_small hlt];simp only[List.cons_append,List.nil_append,List.length_cons,List.length_nil];unfold vgetFrom
   rw[toUInt8_toNat (by omega),if_neg (by omega),if_neg (by omega),if_pos hlt,if_neg (by omega)]
  ·have hi8:i≠9:=fun e=>by have:=h9 e;omega
   rw[Lib.uvarint_big (by omega)];simp only[List.cons_append,List.length_cons];unfold vgetFrom
   rw[toUInt8_toNat (show v % 128+128<256 by omega),if_neg (by omega),if_neg (by omega),if_neg (by omega)];have e1:2 ^ (7 * (i+1))=128 * 2 ^ (7 * i):=by rw[show 7 * (i+1)=7 * i+7 by omega,Nat.pow_add,Nat.mul_comm]
   have e2:v / 128 * 2 ^ (7 * (i+1))=v / 128 * 128 * 2 ^ (7 * i):=by rw[e1,Nat.mul_assoc]
   have e3:v / 128 * 128 * 2 ^ (7 * i)≤v * 2 ^ (7 * i):=Nat.mul_le_mul_right _ (by omega);rw[ih (v / 128) (by omega) (i+1) _ r (by omega) (by omega) (by omega)];have e4:(v % 128+128) % 128=v % 128:=by omega
   have e5:v % 128 * 2 ^ (7 * i)+v / 128 * 128 * 2 ^ (7 * i)=v * 2 ^ (7 * i):=by rw[←Nat.add_mul];congr 1;omega
   rw[e4,e2];refine Prod.ext ?_ (Prod.ext ?_ rfl)
   ·show acc+v % 128 * 2 ^ (7 * i)+v / 128 * 128 * 2 ^ (7 * i)=acc+v * 2 ^ (7 * i)
    omega
   ·show i+1+(Lib.uvarint (v / 128)).length=i+((Lib.uvarint (v / 128)).length+1)
    omega
theorem vgetAt_uvarint {l r:List UInt8} {k v:Nat} (h:l.drop k=Lib.uvarint v++r) (hk:k≤l.length) (hv:v<18446744073709551616) :
  vgetAt l (k:Int)=((v:Int),(k:Int)+(Lib.uvarint v).length,0):=by
 unfold vgetAt
 rw[if_neg (by omega)];simp only[Int.toNat_natCast,h];rw[vgetFrom_uvarint v 0 0 r (by omega) (by simpa using hv) (by omega)];simp
theorem unzigzag_zigzag (n:Int):Lib.unzigzag (Lib.zigzag n)=n:=by
 unfold Lib.unzigzag Lib.zigzag
 split <;> split <;> omega
theorem extract_eq {S s:ByteArray} {q:Nat} {r:List UInt8} (h:S.data.toList.drop q=s.data.toList++r):S.extract q (q+s.size)=s:=by
 have e:(S.extract q (q+s.size)).data.toList=s.data.toList:=by
  rw[Lib.extract_data,h,show q+s.size - q=s.data.toList.length by rw[Array.length_toList];show q+s.size - q=s.size;omega];simp
 rw[str_eq e]
theorem getV_put {S:ByteArray} {k:Nat} {b:Bool} {n:Int} {s:ByteArray} {r:List UInt8} (h:S.data.toList.drop k=putV b n s++r) (h0:-9223372036854775808≤n) (h1:n≤9223372036854775807) (hs:s.size≤9223372036854775807) (hb:b=true→n=0∧s.size=0) :
  getV S k=(aggV b n s,(k:Int)+(putV b n s).length,0):=by
 have hlen:S.data.toList.length=S.size:=by rw[Array.length_toList];rfl
 have hp:0<(putV b n s).length:=by unfold putV;split <;> simp
 have hdl:(S.data.toList.drop k).length=S.size - k:=by rw[List.length_drop,hlen]
 have hk:k<S.size:=by
  have:=congrArg List.length h
  rw[hdl,List.length_append]at this;omega
 have hge:∀ x,(putV b n s).head?=some x→S.data.toList.getD (k:Int).toNat 0=x:=by
  intro x hx
  rw[Int.toNat_natCast,List.getD_eq_getElem?_getD];have:S.data.toList[k]?=(S.data.toList.drop k)[0]?:=by rw[List.getElem?_drop];simp
  rw[this,h,List.getElem?_append_left hp,←List.head?_eq_getElem?,hx];rfl
 cases b with
 | true =>
  obtain ⟨rfl,hs0⟩:=hb rfl;have es:s={ data:=#[] }:=by
   have:s.data.toList=[]:=by apply List.eq_nil_of_length_eq_zero;rw[Array.length_toList];exact hs0
   rw[str_eq this]
  subst es;have:=hge 0 rfl
  unfold getV
  rw[if_neg (by omega),if_neg (by omega),this,if_neg (by decide),if_pos (by decide)];simp[putV]
 | false =>
  have hx:=hge 1 rfl;have hz:=Lib.zigzag_lt h0 h1;have d1:S.data.toList.drop (k+1)=Lib.uvarint (Lib.zigzag n)++(Lib.uvarint s.size++s.data.toList++r):=by
   rw[←List.drop_drop,h];simp[putV]
  have a1:=vgetAt_uvarint d1 (by omega) hz;have d2:S.data.toList.drop (k+1+(Lib.uvarint (Lib.zigzag n)).length)=Lib.uvarint s.size++(s.data.toList++r):=by
   rw[←List.drop_drop,d1];simp
  have hl1:=congrArg List.length d2;rw[List.length_drop,hlen,List.length_append]at hl1;have hu2:=Lib.uvarint_pos s.size;have a2:=vgetAt_uvarint d2 (by omega) (show s.size<18446744073709551616 by omega);have d3:S.data.toList.drop (k+1+(Lib.uvarint (Lib.zigzag n)).length+(Lib.uvarint s.size).length)=s.data.toList++r:=by
   rw[←List.drop_drop,d2];simp
  have hl3:=congrArg List.length d3;simp only[List.length_drop,List.length_append,Array.length_toList]at hl3;have hSS:S.data.size=S.size:=rfl;have hss:s.data.size=s.size:=rfl;have e3:=extract_eq d3;unfold getV
  rw[if_neg (by omega),if_neg (by omega),hx,if_neg (by decide),if_neg (by decide)];rw[show ((k:Int)+1)=((k+1:Nat):Int) by omega,a1];simp only
  rw[if_neg (by simp),show (((k+1:Nat):Int)+(Lib.uvarint (Lib.zigzag n)).length)=((k+1+(Lib.uvarint (Lib.zigzag n)).length:Nat):Int) by omega,a2];simp only
  rw[if_neg (by simp),if_neg (by omega)];rw[show (((k+1+(Lib.uvarint (Lib.zigzag n)).length:Nat):Int)+(Lib.uvarint s.size).length)=((k+1+(Lib.uvarint (Lib.zigzag n)).length+(Lib.uvarint s.size).length:Nat):Int) by omega];rw[Int.toNat_natCast,Int.toNat_natCast,show (((k+1+(Lib.uvarint (Lib.zigzag n)).length+(Lib.uvarint s.size).length:Nat):Int)+(s.size:Int)).toNat=k+1+(Lib.uvarint (Lib.zigzag n)).length+(Lib.uvarint s.size).length+s.size by omega,e3,unzigzag_zigzag];refine Prod.ext rfl (Prod.ext ?_ rfl)
  have el:(putV false n s).length=1+(Lib.uvarint (Lib.zigzag n)).length+(Lib.uvarint s.size).length+s.size:=by
   simp[putV];omega
  rw[el];show (((k+1+(Lib.uvarint (Lib.zigzag n)).length+(Lib.uvarint s.size).length:Nat):Int)+(s.size:Int))=(k:Int)+((1+(Lib.uvarint (Lib.zigzag n)).length+(Lib.uvarint s.size).length+s.size:Nat):Int)
  omega
end Go.Proofs.Ytncnhcmkhgfodaa
