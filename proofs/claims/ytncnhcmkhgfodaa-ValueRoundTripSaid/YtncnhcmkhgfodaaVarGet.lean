/-
 The contracts of varint.Get and ref1.Get.
-/
import Derived.Test.YtncnhcmkhgfodaaVarPut
import Derived.Test.YtncnhcmkhgfodaaM1
import Derived.Lib.VarintBits
namespace Go.Proofs.Ytncnhcmkhgfodaa
open Go.RowKit
def vgetFrom (i acc:Nat):List UInt8→Nat×Nat×Int
 | []=>if i=10 then (0,0,8) else (0,0,10)
 | b::r =>
  if i=10 then (0,0,8) else if i=9∧1<b.toNat then (0,0,8)
  else if b.toNat<128 then (if b.toNat=0∧0<i then (0,0,2) else (acc+b.toNat * 2 ^ (7 * i),i+1,0))
  else vgetFrom (i+1) (acc+b.toNat % 128 * 2 ^ (7 * i)) r
def vgetAt (l:List UInt8) (n:Int):Int×Int×Int :=
 if n<0∨(l.length:Int)<n then (0,0,4) else
  let r:=vgetFrom 0 0 (l.drop n.toNat)
  ((r.1:Int),if r.2.2=0 then n+r.2.1 else 0,r.2.2)
def RetG (w:World) (r:Int×Int×Int) (e:Ending) (w':World):Prop:=e=.returned (.tuple #[.int .u64 r.1,.int .i64 r.2.1,.int .i64 r.2.2])∧w=w'
theorem RetG.mk_ {w:World} {r:Int×Int×Int} {a b c:Int} (h:r=(a,b,c)):RetG w r (.returned (.tuple #[.int .u64 a,.int .i64 b,.int .i64 c])) w:=by subst h;exact ⟨rfl,rfl⟩
theorem mask_not (b:Nat) (hb:b<256):bits .andNot .u8 (b:Int) 128=((b % 128:Nat):Int):=by
 have h:∀ c:Fin 256,bits .andNot .u8 (c.val:Int) 128=((c.val % 128:Nat):Int):=by decide +kernel
 exact h ⟨b,hb⟩
theorem wrap_in (y:Int) (h0:0≤y) (h1:y<18446744073709551616):IntKind.u64.wrap y=y:=IntWalk.u64_in _ ⟨h0,by omega⟩
theorem or_at0 (X b:Nat) (hX:X<2 ^ (7 * 0)) (y:Int) (hy:y=((b % 128:Nat):Int)) :
  bits .or .u64 (X:Int) (IntKind.u64.wrap (IntKind.u64.wrap y))=((X+b % 128 * 1:Nat):Int):=by
 subst hy;rw[show (2:Nat) ^ (7 * 0)=1 by decide]at hX;rw[wrap_in ((b % 128:Nat):Int) (by omega) (by omega),wrap_in _ (by omega) (by omega),u64_orv0 _ _ (by omega) (by omega) (by omega) (by omega) (by omega)];omega
theorem or_at1 (X b:Nat) (hX:X<2 ^ (7 * 1)) (hb:b % 128 * 128<18446744073709551616) (y:Int) (hy:y=((b % 128:Nat):Int)) :
  bits .or .u64 (X:Int) (IntKind.u64.wrap (IntKind.u64.wrap y * 128))=((X+b % 128 * 128:Nat):Int):=by
 subst hy;rw[show (2:Nat) ^ (7 * 1)=128 by decide]at hX;rw[wrap_in ((b % 128:Nat):Int) (by omega) (by omega),wrap_in _ (by omega) (by omega),u64_orv7 _ _ (by omega) (by omega) (by omega) (by omega) (by omega)];omega
theorem or_at2 (X b:Nat) (hX:X<2 ^ (7 * 2)) (hb:b % 128 * 16384<18446744073709551616) (y:Int) (hy:y=((b % 128:Nat):Int)) :
  bits .or .u64 (X:Int) (IntKind.u64.wrap (IntKind.u64.wrap y * 16384))=((X+b % 128 * 16384:Nat):Int):=by
 subst hy;rw[show (2:Nat) ^ (7 * 2)=16384 by decide]at hX;rw[wrap_in ((b % 128:Nat):Int) (by omega) (by omega),wrap_in _ (by omega) (by omega),u64_orv14 _ _ (by omega) (by omega) (by omega) (by omega) (by omega)];omega
theorem or_at3 (X b:Nat) (hX:X<2 ^ (7 * 3)) (hb:b % 128 * 2097152<18446744073709551616) (y:Int) (hy:y=((b % 128:Nat):Int)) :
  bits .or .u64 (X:Int) (IntKind.u64.wrap (IntKind.u64.wrap y * 2097152))=((X+b % 128 * 2097152:Nat):Int):=by
 subst hy;rw[show (2:Nat) ^ (7 * 3)=2097152 by decide]at hX;rw[wrap_in ((b % 128:Nat):Int) (by omega) (by omega),wrap_in _ (by omega) (by omega),u64_orv21 _ _ (by omega) (by omega) (by omega) (by omega) (by omega)];omega
theorem or_at4 (X b:Nat) (hX:X<2 ^ (7 * 4)) (hb:b % 128 * 268435456<18446744073709551616) (y:Int) (hy:y=((b % 128:Nat):Int)) :
  bits .or .u64 (X:Int) (IntKind.u64.wrap (IntKind.u64.wrap y * 268435456))=((X+b % 128 * 268435456:Nat):Int):=by
 subst hy;rw[show (2:Nat) ^ (7 * 4)=268435456 by decide]at hX;rw[wrap_in ((b % 128:Nat):Int) (by omega) (by omega),wrap_in _ (by omega) (by omega),u64_orv28 _ _ (by omega) (by omega) (by omega) (by omega) (by omega)];omega
theorem or_at5 (X b:Nat) (hX:X<2 ^ (7 * 5)) (hb:b % 128 * 34359738368<18446744073709551616) (y:Int) (hy:y=((b % 128:Nat):Int)) :
  bits .or .u64 (X:Int) (IntKind.u64.wrap (IntKind.u64.wrap y * 34359738368))=((X+b % 128 * 34359738368:Nat):Int):=by
 subst hy;rw[show (2:Nat) ^ (7 * 5)=34359738368 by decide]at hX;rw[wrap_in ((b % 128:Nat):Int) (by omega) (by omega),wrap_in _ (by omega) (by omega),u64_orv35 _ _ (by omega) (by omega) (by omega) (by omega) (by omega)];omega
theorem or_at6 (X b:Nat) (hX:X<2 ^ (7 * 6)) (hb:b % 128 * 4398046511104<18446744073709551616) (y:Int) (hy:y=((b % 128:Nat):Int)) :
  bits .or .u64 (X:Int) (IntKind.u64.wrap (IntKind.u64.wrap y * 4398046511104))=((X+b % 128 * 4398046511104:Nat):Int):=by
 subst hy;rw[show (2:Nat) ^ (7 * 6)=4398046511104 by decide]at hX;rw[wrap_in ((b % 128:Nat):Int) (by omega) (by omega),wrap_in _ (by omega) (by omega),u64_orv42 _ _ (by omega) (by omega) (by omega) (by omega) (by omega)];omega
theorem or_at7 (X b:Nat) (hX:X<2 ^ (7 * 7)) (hb:b % 128 * 562949953421312<18446744073709551616) (y:Int) (hy:y=((b % 128:Nat):Int)) :
  bits .or .u64 (X:Int) (IntKind.u64.wrap (IntKind.u64.wrap y * 562949953421312))=((X+b % 128 * 562949953421312:Nat):Int):=by
 subst hy;rw[show (2:Nat) ^ (7 * 7)=562949953421312 by decide]at hX;rw[wrap_in ((b % 128:Nat):Int) (by omega) (by omega),wrap_in _ (by omega) (by omega),u64_orv49 _ _ (by omega) (by omega) (by omega) (by omega) (by omega)];omega
theorem or_at8 (X b:Nat) (hX:X<2 ^ (7 * 8)) (hb:b % 128 * 72057594037927936<18446744073709551616) (y:Int) (hy:y=((b % 128:Nat):Int)) :
  bits .or .u64 (X:Int) (IntKind.u64.wrap (IntKind.u64.wrap y * 72057594037927936))=((X+b % 128 * 72057594037927936:Nat):Int):=by
 subst hy;rw[show (2:Nat) ^ (7 * 8)=72057594037927936 by decide]at hX;rw[wrap_in ((b % 128:Nat):Int) (by omega) (by omega),wrap_in _ (by omega) (by omega),u64_orv56 _ _ (by omega) (by omega) (by omega) (by omega) (by omega)];omega
theorem or_at9 (X b:Nat) (hX:X<2 ^ (7 * 9)) (hb:b % 128 * 9223372036854775808<18446744073709551616) (y:Int) (hy:y=((b % 128:Nat):Int)) :
  bits .or .u64 (X:Int) (IntKind.u64.wrap (IntKind.u64.wrap y * 9223372036854775808))=((X+b % 128 * 9223372036854775808:Nat):Int):=by
 subst hy;rw[show (2:Nat) ^ (7 * 9)=9223372036854775808 by decide]at hX;rw[wrap_in ((b % 128:Nat):Int) (by omega) (by omega),wrap_in _ (by omega) (by omega),u64_orv63 _ _ (by omega) (by omega) (by omega) (by omega) (by omega)];omega
set_option maxRecDepth 100000 in
set_option maxHeartbeats 8000000 in
theorem vget_any (s:ByteArray) (n:Int) (w:World) (hs:s.size≤9223372036854775807) (h0:-9223372036854775808≤n) (h1:n≤9223372036854775807) :
  Calls Try.prog 12 #[.string s,.int .i64 n] w (RetG w (vgetAt s.data.toList n)):=by
 have hsz:s.data.toList.length=s.size:=by rw[Array.length_toList];rfl
 by_cases hneg:n<0
 ·have H:=Lib.hid (show vgetAt s.data.toList n=(0,0,4) by unfold vgetAt;rw[if_pos (.inl hneg)]);go_enter Try.func12,Try.ntmps12
  go_wp2;go_ret3
  exact RetG.mk_ H.out
 by_cases hbig:(s.size:Int)<n
 ·have H:=Lib.hid (show vgetAt s.data.toList n=(0,0,4) by unfold vgetAt;rw[if_pos (.inr (by omega))]);go_enter Try.func12,Try.ntmps12
  go_wp2;go_ret3
  exact RetG.mk_ H.out
 obtain ⟨m,rfl⟩:=Int.eq_ofNat_of_zero_le (Int.not_lt.1 hneg);have hm:m≤s.size:=by omega
 have HV:=Lib.hid (show vgetAt s.data.toList (m:Int)=(((vgetFrom 0 0 (s.data.toList.drop m)).1:Int),if (vgetFrom 0 0 (s.data.toList.drop m)).2.2=0 then (m:Int)+(vgetFrom 0 0 (s.data.toList.drop m)).2.1 else 0,(vgetFrom 0 0 (s.data.toList.drop m)).2.2) by
  unfold vgetAt;rw[if_neg (by omega)];simp)
 have t1:decide ((m:Int)<0)=false:=by simp
 have t2:decide ((s.size:Int)<(m:Int))=false:=by simp;omega
 have t3:decide (s.size<m)=false:=by simp;omega
 clear hneg hbig h0 h1;go_enter Try.func12,Try.ntmps12
 go_wp2;go_loop [7,18] (fun v i=>∃ (k X:Nat),k≤10∧i=.int .i64 k∧v=.int .u64 X∧X<2 ^ (7 * k)∧m+k≤s.size∧Hid (vgetFrom 0 0 (s.data.toList.drop m)=vgetFrom k X (s.data.toList.drop (m+k)))) (fun _ i=>10 - (intOf i).toNat)
 case atStart=>exact ⟨0,0,by omega,rfl,rfl,by simp,by omega,Lib.hid rfl⟩
 case round =>
  obtain ⟨k,X,hk,rfl,rfl,hX,hmk,hd⟩:=hrel;rcases (show k=10∨k<10 by omega) with rfl|hk
  ·have hd':vgetFrom 0 0 (s.data.toList.drop m)=(0,0,8):=by rw[hd.out];cases s.data.toList.drop (m+10) <;> simp[vgetFrom]
   have H:=Lib.hid hd';clear hd hd';go_wp2;go_ret3
   exact RetG.mk_ (by rw[HV.out,H.out];rfl)
  ·rcases (show m+k=s.size∨m+k<s.size by omega) with he | hlt
   ·have hd':vgetFrom 0 0 (s.data.toList.drop m)=(0,0,10):=by rw[hd.out,List.drop_eq_nil_of_le (by omega)];simp[vgetFrom];omega
    have H:=Lib.hid hd';clear hd hd';go_wp2;go_ret3
    exact RetG.mk_ (by rw[HV.out,H.out];rfl)
   ·have hb:=s[m+k].toNat_lt;have hdr:s.data.toList.drop (m+k)=s[m+k]::s.data.toList.drop (m+(k+1)):=by
     rw[List.drop_eq_getElem_cons (by omega)];rfl
    rw[hdr]at hd;have HD:=hd;clear hd hdr;by_cases h9:k=9∧1<s[m+k].toNat
    ·obtain ⟨rfl,h9b⟩:=h9;have H:=Lib.hid (show vgetFrom 0 0 (s.data.toList.drop m)=(0,0,8) by rw[HD.out];simp[vgetFrom,h9b]);clear HD;go_wp2;go_ret3
     exact RetG.mk_ (by rw[HV.out,H.out];rfl)
    have hs:k=0∨k=1∨k=2∨k=3∨k=4∨k=5∨k=6∨k=7∨k=8∨k=9:=by omega
    rcases hs with rfl|rfl|rfl|rfl|rfl|rfl|rfl|rfl|rfl|rfl
    ·have hlt0:m<s.size:=hlt;replace hb:s[m].toNat<2 ^ 8:=hb
     replace HD:Hid (vgetFrom 0 0 (s.data.toList.drop m)=vgetFrom 0 X (s[m]::s.data.toList.drop (m+(0+1)))):=HD
     have HO:=Lib.hid (or_at0 X s[m].toNat hX _ (mask_not _ hb));rcases (show ((s[m].toNat:Int)==0)=true∨((s[m].toNat:Int)==0)=false by cases ((s[m].toNat:Int)==0) <;> simp) with hz1|hz1
     ·by_cases h128:s[m].toNat<128
      ·have H:=Lib.hid (show vgetFrom 0 0 (s.data.toList.drop m)=(X+s[m].toNat % 128 * 1,1,0) by
        rw[HD.out];unfold vgetFrom
        rw[if_neg (by decide),if_neg (by omega),if_pos h128,if_neg (by omega),Nat.mod_eq_of_lt h128])
       clear HD;go_wp2
       all_goals (go_ret3;exact RetG.mk_ (by rw[HV.out,H.out,HO.out];simp))
      ·have H:=Lib.hid (show vgetFrom 0 0 (s.data.toList.drop m)=vgetFrom 1 (X+s[m].toNat % 128 * 1) (s.data.toList.drop (m+1)) by
        rw[HD.out];conv=>lhs;unfold vgetFrom
        rw[if_neg (by decide),if_neg (by omega),if_neg h128])
       have hX':X+s[m].toNat % 128 * 1<2 ^ (7 * 1):=by
        rw[show (2:Nat) ^ (7 * 0)=1 by decide]at hX;rw[show (2:Nat) ^ (7 * 1)=128 by decide];omega
       clear HD;go_wp2;go_round
       case rel=>exact ⟨1,_,by omega,rfl,congrArg (Value.int .u64) HO.out,hX',by omega,H⟩
       case measure=>simp[intOf]
     ·by_cases h128:s[m].toNat<128
      ·have H:=Lib.hid (show vgetFrom 0 0 (s.data.toList.drop m)=(X+s[m].toNat % 128 * 1,1,0) by
        rw[HD.out];unfold vgetFrom
        rw[if_neg (by decide),if_neg (by omega),if_pos h128,if_neg (by omega),Nat.mod_eq_of_lt h128])
       clear HD;go_wp2
       all_goals (go_ret3;exact RetG.mk_ (by rw[HV.out,H.out,HO.out];simp))
      ·have H:=Lib.hid (show vgetFrom 0 0 (s.data.toList.drop m)=vgetFrom 1 (X+s[m].toNat % 128 * 1) (s.data.toList.drop (m+1)) by
        rw[HD.out];conv=>lhs;unfold vgetFrom
        rw[if_neg (by decide),if_neg (by omega),if_neg h128])
       have hX':X+s[m].toNat % 128 * 1<2 ^ (7 * 1):=by
        rw[show (2:Nat) ^ (7 * 0)=1 by decide]at hX;rw[show (2:Nat) ^ (7 * 1)=128 by decide];omega
       clear HD;go_wp2;go_round
       case rel=>exact ⟨1,_,by omega,rfl,congrArg (Value.int .u64) HO.out,hX',by omega,H⟩
       case measure=>simp[intOf]
    ·have HO:=Lib.hid (or_at1 X s[m+1].toNat hX (by omega) _ (mask_not _ hb));rcases (show s[m+1].toNat=0∨0<s[m+1].toNat by omega) with hz|hz
     ·have H:=Lib.hid (show vgetFrom 0 0 (s.data.toList.drop m)=(0,0,2) by rw[HD.out];simp[vgetFrom,hz]);have hz1:((s[m+1].toNat:Int)==0)=true:=by simp[hz]
      have hz2:(s[m+1].toNat:Int)<128:=by omega
      clear HD HO;go_wp2;go_ret3
      exact RetG.mk_ (by rw[HV.out,H.out];rfl)
     have hz1:((s[m+1].toNat:Int)==0)=false:=by simp;omega
     by_cases h128:s[m+1].toNat<128
     ·have H:=Lib.hid (show vgetFrom 0 0 (s.data.toList.drop m)=(X+s[m+1].toNat % 128 * 128,2,0) by
       rw[HD.out];unfold vgetFrom
       rw[if_neg (by decide),if_neg (by omega),if_pos h128,if_neg (by omega),Nat.mod_eq_of_lt h128])
      clear HD;go_wp2
      all_goals (go_ret3;exact RetG.mk_ (by rw[HV.out,H.out];first | (rw[HO.out];simp;omega) | (have:=HO.out;simp at this;simp[this];omega)))
     ·have H:=Lib.hid (show vgetFrom 0 0 (s.data.toList.drop m)=vgetFrom 2 (X+s[m+1].toNat % 128 * 128) (s.data.toList.drop (m+2)) by
       rw[HD.out];conv=>lhs;unfold vgetFrom
       rw[if_neg (by decide),if_neg (by omega),if_neg h128])
      have hX':X+s[m+1].toNat % 128 * 128<2 ^ (7 * 2):=by
       rw[show (2:Nat) ^ (7 * 1)=128 by decide]at hX;rw[show (2:Nat) ^ (7 * 2)=16384 by decide];omega
      clear HD;go_wp2;go_round
      case rel=>exact ⟨2,_,by omega,rfl,(by first | exact congrArg (Value.int .u64) HO.out | (have:=HO.out;simp at this;simp[this])),hX',by omega,H⟩
      case measure=>simp[intOf]
    ·have HO:=Lib.hid (or_at2 X s[m+2].toNat hX (by omega) _ (mask_not _ hb));rcases (show s[m+2].toNat=0∨0<s[m+2].toNat by omega) with hz|hz
     ·have H:=Lib.hid (show vgetFrom 0 0 (s.data.toList.drop m)=(0,0,2) by rw[HD.out];simp[vgetFrom,hz]);have hz1:((s[m+2].toNat:Int)==0)=true:=by simp[hz]
      have hz2:(s[m+2].toNat:Int)<128:=by omega
      clear HD HO;go_wp2;go_ret3
      exact RetG.mk_ (by rw[HV.out,H.out];rfl)
     have hz1:((s[m+2].toNat:Int)==0)=false:=by simp;omega
     by_cases h128:s[m+2].toNat<128
     ·have H:=Lib.hid (show vgetFrom 0 0 (s.data.toList.drop m)=(X+s[m+2].toNat % 128 * 16384,3,0) by
       rw[HD.out];unfold vgetFrom
       rw[if_neg (by decide),if_neg (by omega),if_pos h128,if_neg (by omega),Nat.mod_eq_of_lt h128])
      clear HD;go_wp2
      all_goals (go_ret3;exact RetG.mk_ (by rw[HV.out,H.out];first | (rw[HO.out];simp;omega) | (have:=HO.out;simp at this;simp[this];omega)))
     ·have H:=Lib.hid (show vgetFrom 0 0 (s.data.toList.drop m)=vgetFrom 3 (X+s[m+2].toNat % 128 * 16384) (s.data.toList.drop (m+3)) by
       rw[HD.out];conv=>lhs;unfold vgetFrom
       rw[if_neg (by decide),if_neg (by omega),if_neg h128])
      have hX':X+s[m+2].toNat % 128 * 16384<2 ^ (7 * 3):=by
       rw[show (2:Nat) ^ (7 * 2)=16384 by decide]at hX;rw[show (2:Nat) ^ (7 * 3)=2097152 by decide];omega
      clear HD;go_wp2;go_round
      case rel=>exact ⟨3,_,by omega,rfl,(by first | exact congrArg (Value.int .u64) HO.out | (have:=HO.out;simp at this;simp[this])),hX',by omega,H⟩
      case measure=>simp[intOf]
    ·have HO:=Lib.hid (or_at3 X s[m+3].toNat hX (by omega) _ (mask_not _ hb));rcases (show s[m+3].toNat=0∨0<s[m+3].toNat by omega) with hz|hz
     ·have H:=Lib.hid (show vgetFrom 0 0 (s.data.toList.drop m)=(0,0,2) by rw[HD.out];simp[vgetFrom,hz]);have hz1:((s[m+3].toNat:Int)==0)=true:=by simp[hz]
      have hz2:(s[m+3].toNat:Int)<128:=by omega
      clear HD HO;go_wp2;go_ret3
      exact RetG.mk_ (by rw[HV.out,H.out];rfl)
     have hz1:((s[m+3].toNat:Int)==0)=false:=by simp;omega
     by_cases h128:s[m+3].toNat<128
     ·have H:=Lib.hid (show vgetFrom 0 0 (s.data.toList.drop m)=(X+s[m+3].toNat % 128 * 2097152,4,0) by
       rw[HD.out];unfold vgetFrom
       rw[if_neg (by decide),if_neg (by omega),if_pos h128,if_neg (by omega),Nat.mod_eq_of_lt h128])
      clear HD;go_wp2
      all_goals (go_ret3;exact RetG.mk_ (by rw[HV.out,H.out];first | (rw[HO.out];simp;omega) | (have:=HO.out;simp at this;simp[this];omega)))
     ·have H:=Lib.hid (show vgetFrom 0 0 (s.data.toList.drop m)=vgetFrom 4 (X+s[m+3].toNat % 128 * 2097152) (s.data.toList.drop (m+4)) by
       rw[HD.out];conv=>lhs;unfold vgetFrom
       rw[if_neg (by decide),if_neg (by omega),if_neg h128])
      have hX':X+s[m+3].toNat % 128 * 2097152<2 ^ (7 * 4):=by
       rw[show (2:Nat) ^ (7 * 3)=2097152 by decide]at hX;rw[show (2:Nat) ^ (7 * 4)=268435456 by decide];omega
      clear HD;go_wp2;go_round
      case rel=>exact ⟨4,_,by omega,rfl,(by first | exact congrArg (Value.int .u64) HO.out | (have:=HO.out;simp at this;simp[this])),hX',by omega,H⟩
      case measure=>simp[intOf]
    ·have HO:=Lib.hid (or_at4 X s[m+4].toNat hX (by omega) _ (mask_not _ hb));rcases (show s[m+4].toNat=0∨0<s[m+4].toNat by omega) with hz|hz
     ·have H:=Lib.hid (show vgetFrom 0 0 (s.data.toList.drop m)=(0,0,2) by rw[HD.out];simp[vgetFrom,hz]);have hz1:((s[m+4].toNat:Int)==0)=true:=by simp[hz]
      have hz2:(s[m+4].toNat:Int)<128:=by omega
      clear HD HO;go_wp2;go_ret3
      exact RetG.mk_ (by rw[HV.out,H.out];rfl)
     have hz1:((s[m+4].toNat:Int)==0)=false:=by simp;omega
     by_cases h128:s[m+4].toNat<128
     ·have H:=Lib.hid (show vgetFrom 0 0 (s.data.toList.drop m)=(X+s[m+4].toNat % 128 * 268435456,5,0) by
       rw[HD.out];unfold vgetFrom
       rw[if_neg (by decide),if_neg (by omega),if_pos h128,if_neg (by omega),Nat.mod_eq_of_lt h128])
      clear HD;go_wp2
      all_goals (go_ret3;exact RetG.mk_ (by rw[HV.out,H.out];first | (rw[HO.out];simp;omega) | (have:=HO.out;simp at this;simp[this];omega)))
     ·have H:=Lib.hid (show vgetFrom 0 0 (s.data.toList.drop m)=vgetFrom 5 (X+s[m+4].toNat % 128 * 268435456) (s.data.toList.drop (m+5)) by
       rw[HD.out];conv=>lhs;unfold vgetFrom
       rw[if_neg (by decide),if_neg (by omega),if_neg h128])
      have hX':X+s[m+4].toNat % 128 * 268435456<2 ^ (7 * 5):=by
       rw[show (2:Nat) ^ (7 * 4)=268435456 by decide]at hX;rw[show (2:Nat) ^ (7 * 5)=34359738368 by decide];omega
      clear HD;go_wp2;go_round
      case rel=>exact ⟨5,_,by omega,rfl,(by first | exact congrArg (Value.int .u64) HO.out | (have:=HO.out;simp at this;simp[this])),hX',by omega,H⟩
      case measure=>simp[intOf]
    ·have HO:=Lib.hid (or_at5 X s[m+5].toNat hX (by omega) _ (mask_not _ hb));rcases (show s[m+5].toNat=0∨0<s[m+5].toNat by omega) with hz|hz
     ·have H:=Lib.hid (show vgetFrom 0 0 (s.data.toList.drop m)=(0,0,2) by rw[HD.out];simp[vgetFrom,hz]);have hz1:((s[m+5].toNat:Int)==0)=true:=by simp[hz]
      have hz2:(s[m+5].toNat:Int)<128:=by omega
      clear HD HO;go_wp2;go_ret3
      exact RetG.mk_ (by rw[HV.out,H.out];rfl)
     have hz1:((s[m+5].toNat:Int)==0)=false:=by simp;omega
     by_cases h128:s[m+5].toNat<128
     ·have H:=Lib.hid (show vgetFrom 0 0 (s.data.toList.drop m)=(X+s[m+5].toNat % 128 * 34359738368,6,0) by
       rw[HD.out];unfold vgetFrom
       rw[if_neg (by decide),if_neg (by omega),if_pos h128,if_neg (by omega),Nat.mod_eq_of_lt h128])
      clear HD;go_wp2
      all_goals (go_ret3;exact RetG.mk_ (by rw[HV.out,H.out];first | (rw[HO.out];simp;omega) | (have:=HO.out;simp at this;simp[this];omega)))
     ·have H:=Lib.hid (show vgetFrom 0 0 (s.data.toList.drop m)=vgetFrom 6 (X+s[m+5].toNat % 128 * 34359738368) (s.data.toList.drop (m+6)) by
       rw[HD.out];conv=>lhs;unfold vgetFrom
       rw[if_neg (by decide),if_neg (by omega),if_neg h128])
      have hX':X+s[m+5].toNat % 128 * 34359738368<2 ^ (7 * 6):=by
       rw[show (2:Nat) ^ (7 * 5)=34359738368 by decide]at hX;rw[show (2:Nat) ^ (7 * 6)=4398046511104 by decide];omega
      clear HD;go_wp2;go_round
      case rel=>exact ⟨6,_,by omega,rfl,(by first | exact congrArg (Value.int .u64) HO.out | (have:=HO.out;simp at this;simp[this])),hX',by omega,H⟩
      case measure=>simp[intOf]
    ·have HO:=Lib.hid (or_at6 X s[m+6].toNat hX (by omega) _ (mask_not _ hb));rcases (show s[m+6].toNat=0∨0<s[m+6].toNat by omega) with hz|hz
     ·have H:=Lib.hid (show vgetFrom 0 0 (s.data.toList.drop m)=(0,0,2) by rw[HD.out];simp[vgetFrom,hz]);have hz1:((s[m+6].toNat:Int)==0)=true:=by simp[hz]
      have hz2:(s[m+6].toNat:Int)<128:=by omega
      clear HD HO;go_wp2;go_ret3
      exact RetG.mk_ (by rw[HV.out,H.out];rfl)
     have hz1:((s[m+6].toNat:Int)==0)=false:=by simp;omega
     by_cases h128:s[m+6].toNat<128
     ·have H:=Lib.hid (show vgetFrom 0 0 (s.data.toList.drop m)=(X+s[m+6].toNat % 128 * 4398046511104,7,0) by
       rw[HD.out];unfold vgetFrom
       rw[if_neg (by decide),if_neg (by omega),if_pos h128,if_neg (by omega),Nat.mod_eq_of_lt h128])
      clear HD;go_wp2
      all_goals (go_ret3;exact RetG.mk_ (by rw[HV.out,H.out];first | (rw[HO.out];simp;omega) | (have:=HO.out;simp at this;simp[this];omega)))
     ·have H:=Lib.hid (show vgetFrom 0 0 (s.data.toList.drop m)=vgetFrom 7 (X+s[m+6].toNat % 128 * 4398046511104) (s.data.toList.drop (m+7)) by
       rw[HD.out];conv=>lhs;unfold vgetFrom
       rw[if_neg (by decide),if_neg (by omega),if_neg h128])
      have hX':X+s[m+6].toNat % 128 * 4398046511104<2 ^ (7 * 7):=by
       rw[show (2:Nat) ^ (7 * 6)=4398046511104 by decide]at hX;rw[show (2:Nat) ^ (7 * 7)=562949953421312 by decide];omega
      clear HD;go_wp2;go_round
      case rel=>exact ⟨7,_,by omega,rfl,(by first | exact congrArg (Value.int .u64) HO.out | (have:=HO.out;simp at this;simp[this])),hX',by omega,H⟩
      case measure=>simp[intOf]
    ·have HO:=Lib.hid (or_at7 X s[m+7].toNat hX (by omega) _ (mask_not _ hb));rcases (show s[m+7].toNat=0∨0<s[m+7].toNat by omega) with hz|hz
     ·have H:=Lib.hid (show vgetFrom 0 0 (s.data.toList.drop m)=(0,0,2) by rw[HD.out];simp[vgetFrom,hz]);have hz1:((s[m+7].toNat:Int)==0)=true:=by simp[hz]
      have hz2:(s[m+7].toNat:Int)<128:=by omega
      clear HD HO;go_wp2;go_ret3
      exact RetG.mk_ (by rw[HV.out,H.out];rfl)
     have hz1:((s[m+7].toNat:Int)==0)=false:=by simp;omega
     by_cases h128:s[m+7].toNat<128
     ·have H:=Lib.hid (show vgetFrom 0 0 (s.data.toList.drop m)=(X+s[m+7].toNat % 128 * 562949953421312,8,0) by
       rw[HD.out];unfold vgetFrom
       rw[if_neg (by decide),if_neg (by omega),if_pos h128,if_neg (by omega),Nat.mod_eq_of_lt h128])
      clear HD;go_wp2
      all_goals (go_ret3;exact RetG.mk_ (by rw[HV.out,H.out];first | (rw[HO.out];simp;omega) | (have:=HO.out;simp at this;simp[this];omega)))
     ·have H:=Lib.hid (show vgetFrom 0 0 (s.data.toList.drop m)=vgetFrom 8 (X+s[m+7].toNat % 128 * 562949953421312) (s.data.toList.drop (m+8)) by
       rw[HD.out];conv=>lhs;unfold vgetFrom
       rw[if_neg (by decide),if_neg (by omega),if_neg h128])
      have hX':X+s[m+7].toNat % 128 * 562949953421312<2 ^ (7 * 8):=by
       rw[show (2:Nat) ^ (7 * 7)=562949953421312 by decide]at hX;rw[show (2:Nat) ^ (7 * 8)=72057594037927936 by decide];omega
      clear HD;go_wp2;go_round
      case rel=>exact ⟨8,_,by omega,rfl,(by first | exact congrArg (Value.int .u64) HO.out | (have:=HO.out;simp at this;simp[this])),hX',by omega,H⟩
      case measure=>simp[intOf]
    ·have HO:=Lib.hid (or_at8 X s[m+8].toNat hX (by omega) _ (mask_not _ hb));rcases (show s[m+8].toNat=0∨0<s[m+8].toNat by omega) with hz|hz
     ·have H:=Lib.hid (show vgetFrom 0 0 (s.data.toList.drop m)=(0,0,2) by rw[HD.out];simp[vgetFrom,hz]);have hz1:((s[m+8].toNat:Int)==0)=true:=by simp[hz]
      have hz2:(s[m+8].toNat:Int)<128:=by omega
      clear HD HO;go_wp2;go_ret3
      exact RetG.mk_ (by rw[HV.out,H.out];rfl)
     have hz1:((s[m+8].toNat:Int)==0)=false:=by simp;omega
     by_cases h128:s[m+8].toNat<128
     ·have H:=Lib.hid (show vgetFrom 0 0 (s.data.toList.drop m)=(X+s[m+8].toNat % 128 * 72057594037927936,9,0) by
       rw[HD.out];unfold vgetFrom
       rw[if_neg (by decide),if_neg (by omega),if_pos h128,if_neg (by omega),Nat.mod_eq_of_lt h128])
      clear HD;go_wp2
      all_goals (go_ret3;exact RetG.mk_ (by rw[HV.out,H.out];first | (rw[HO.out];simp;omega) | (have:=HO.out;simp at this;simp[this];omega)))
     ·have H:=Lib.hid (show vgetFrom 0 0 (s.data.toList.drop m)=vgetFrom 9 (X+s[m+8].toNat % 128 * 72057594037927936) (s.data.toList.drop (m+9)) by
       rw[HD.out];conv=>lhs;unfold vgetFrom
       rw[if_neg (by decide),if_neg (by omega),if_neg h128])
      have hX':X+s[m+8].toNat % 128 * 72057594037927936<2 ^ (7 * 9):=by
       rw[show (2:Nat) ^ (7 * 8)=72057594037927936 by decide]at hX;rw[show (2:Nat) ^ (7 * 9)=9223372036854775808 by decide];omega
      clear HD;go_wp2;go_round
      case rel=>exact ⟨9,_,by omega,rfl,(by first | exact congrArg (Value.int .u64) HO.out | (have:=HO.out;simp at this;simp[this])),hX',by omega,H⟩
      case measure=>simp[intOf]
    ·have HO:=Lib.hid (or_at9 X s[m+9].toNat hX (by omega) _ (mask_not _ hb));have h9b:(s[m+9].toNat:Int)≤1:=by omega
     rcases (show s[m+9].toNat=0∨0<s[m+9].toNat by omega) with hz|hz
     ·have H:=Lib.hid (show vgetFrom 0 0 (s.data.toList.drop m)=(0,0,2) by rw[HD.out];simp[vgetFrom,hz]);have hz1:((s[m+9].toNat:Int)==0)=true:=by simp[hz]
      have hz2:(s[m+9].toNat:Int)<128:=by omega
      clear HD HO;go_wp2;go_ret3
      exact RetG.mk_ (by rw[HV.out,H.out];rfl)
     have hz1:((s[m+9].toNat:Int)==0)=false:=by simp;omega
     by_cases h128:s[m+9].toNat<128
     ·have H:=Lib.hid (show vgetFrom 0 0 (s.data.toList.drop m)=(X+s[m+9].toNat % 128 * 9223372036854775808,10,0) by
       rw[HD.out];unfold vgetFrom
       rw[if_neg (by decide),if_neg (by omega),if_pos h128,if_neg (by omega),Nat.mod_eq_of_lt h128])
      clear HD;go_wp2
      all_goals (go_ret3;exact RetG.mk_ (by rw[HV.out,H.out];first | (rw[HO.out];simp;omega) | (have:=HO.out;simp at this;simp[this];omega)))
     ·exfalso;omega
end Go.Proofs.Ytncnhcmkhgfodaa
