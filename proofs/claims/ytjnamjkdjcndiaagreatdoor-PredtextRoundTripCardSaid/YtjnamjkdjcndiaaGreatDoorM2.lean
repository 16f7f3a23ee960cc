/-
  Words, plain laws and contracts on which the walks lean, in one text.
-/
import Derived.Test.YtjnamjkdjcndiaaGreatDoorProg
import Derived.Test.YtjnamjkdjcndiaaGreatDoorM1
import Derived.WalkLawsBesides
import Derived.Test.YtjnamjkdjcndiaaGreatDoorM4
namespace Go.Proofs.YtjnamjkdjcndiaaGreatDoor
open Go.RowKit
def ordI (a b:Int):Int:=if a<b then -1 else if b<a then 1 else 0
def ordS (a b:List UInt8):Int:=if a<b then -1 else if a=b then 0 else 1
def cmpV (t:Int) (na:Bool) (xa:Int) (sa:ByteArray) (nb:Bool) (xb:Int) (sb:ByteArray):Int :=
 if na&&nb then 0 else if na then -1 else if nb then 1 else if t=3 then ordS sa.data.toList sb.data.toList else ordI xa xb
def RetI0 (w:World) (x:Int) (e:Ending) (w':World):Prop:=e=.returned (.int .i64 x)∧w=w'
theorem RetI0.mk_ {w:World} {x x':Int} (h:x=x'):RetI0 w x (.returned (.int .i64 x')) w:=by subst h;exact ⟨rfl,rfl⟩
def RetN (w:World) (x:Int) (e:Ending) (w':World):Prop:=e=.returned (.int .i64 x)∧Below w.heap.size w w'
theorem RetN.mk_ {w w':World} {x x':Int} (h:x=x') (hb:Below w.heap.size w w'):RetN w x (.returned (.int .i64 x')) w':=by subst h;exact ⟨rfl,hb⟩
theorem less_lex:∀ (x y:List UInt8),Op.bytesLess x y=decide (x<y)
 | [],[]=>by simp[Op.bytesLess]
 | _::_,[]=>by simp[Op.bytesLess]
 | [],_::_=>by simp[Op.bytesLess]
 | a::x,b::y=>by
  rw[Op.bytesLess,less_lex x y];simp only[List.cons_lt_cons_iff];by_cases h1:a<b <;> by_cases h2:a=b <;> by_cases h3:x<y <;> simp[h1,h2,h3]
theorem less_of (a b:ByteArray):Op.bytesLess a.toList b.toList=decide (a.data.toList<b.data.toList):=by
 rw[Go.ByteArray.toList_eq,Go.ByteArray.toList_eq];exact less_lex _ _
theorem ordS_eq (a b:List UInt8):(if decide (a<b) then (-1:Int) else if a==b then 0 else 1)=ordS a b:=by simp[ordS]
theorem ordI_eq (a b:Int):(if decide (a<b) then (-1:Int) else if a==b then 0 else 1)=ordI a b:=by
 unfold ordI
 by_cases h:a<b
 ·simp[h]
 ·by_cases h2:b<a
  ·have:a≠b:=by omega
   simp[h,h2,this]
  ·have:a=b:=by omega
   simp[this]
def permB (t n:Int) (s:ByteArray):Bool :=
 if t=2 then decide (n=0∨n=1) else if t=4 then decide (-719162≤n∧n≤2932896) else if t=5 then decide (-999999999999999999≤n∧n≤999999999999999999) else if t=3 then decide (s.size≤64) else true
def checkV (t:Int) (cn:Bool) (nul:Bool) (n:Int) (s:ByteArray):Int :=
 if t<1∨5<t then 1 else if (nul=true∨t≠3)∧s.size≠0 then 11 else if (nul=true∨t=3)∧n≠0 then 11 else if nul=true∧cn=false then 12 else if nul=false∧permB t n s=false then 4 else 0
def RetB1 (w:World) (b:Bool) (e:Ending) (w':World):Prop:=e=.returned (.bool b)∧Below w.heap.size w w'
theorem RetB1.mk_ {w w':World} {b b':Bool} (h:b=b') (hb:Below w.heap.size w w'):RetB1 w b (.returned (.bool b')) w':=by subst h;exact ⟨rfl,hb⟩
set_option maxHeartbeats 1000000 in
theorem perm_any (t n:Int) (nul:Bool) (s:ByteArray) (w:World) (hs:s.size≤9223372036854775807) :
  Calls Tryz.prog 95 #[.int .i64 t,.agg #[.bool nul,.int .i64 n,.string s]] w (RetB1 w (permB t n s)):=by
 have hb:=(Below.refl w.heap.size w).alloc (Nat.le_refl _) (.cells #[.bool nul,.int .i64 n,.string s] 64);by_cases h2:t=2
 ·subst h2;by_cases hn:n=0
  ·have H:=Lib.hid (show permB 2 n s=true by simp[permB,hn]);have hn0:(n==0)=true:=by simpa using hn
   clear hn;go_enter Tryz.func95,Tryz.ntmps95
   go_wp2;go_ret;exact RetB1.mk_ H.out hb
  ·have hn0:(n==0)=false:=by simpa using hn
   by_cases hn1:n=1
   ·have H:=Lib.hid (show permB 2 n s=true by simp[permB,hn1]);have hn1':(n==1)=true:=by simpa using hn1
    clear hn hn1;go_enter Tryz.func95,Tryz.ntmps95
    go_wp2;go_ret;exact RetB1.mk_ H.out hb
   ·have H:=Lib.hid (show permB 2 n s=false by simp[permB,hn,hn1]);have hn1':(n==1)=false:=by simpa using hn1
    clear hn hn1;go_enter Tryz.func95,Tryz.ntmps95
    go_wp2;go_ret;exact RetB1.mk_ H.out hb
 by_cases h4:t=4
 ·subst h4;by_cases hn:n < -719162
  ·have H:=Lib.hid (show permB 4 n s=false by simp[permB];omega);go_enter Tryz.func95,Tryz.ntmps95
   go_wp2;go_ret;exact RetB1.mk_ H.out hb
  ·by_cases hn1:2932896<n
   ·have H:=Lib.hid (show permB 4 n s=false by simp[permB];omega);have hd:decide (n≤2932896)=false:=by simp;omega
    go_enter Tryz.func95,Tryz.ntmps95
    go_wp2;go_ret;exact RetB1.mk_ H.out hb
   ·have H:=Lib.hid (show permB 4 n s=true by simp[permB];omega);have hd:decide (n≤2932896)=true:=by simp;omega
    go_enter Tryz.func95,Tryz.ntmps95
    go_wp2;go_ret;exact RetB1.mk_ H.out hb
 by_cases h5:t=5
 ·subst h5;by_cases hn:n < -999999999999999999
  ·have H:=Lib.hid (show permB 5 n s=false by simp[permB];omega);go_enter Tryz.func95,Tryz.ntmps95
   go_wp2;go_ret;exact RetB1.mk_ H.out hb
  ·by_cases hn1:999999999999999999<n
   ·have H:=Lib.hid (show permB 5 n s=false by simp[permB];omega);have hd:decide (n≤999999999999999999)=false:=by simp;omega
    go_enter Tryz.func95,Tryz.ntmps95
    go_wp2;go_ret;exact RetB1.mk_ H.out hb
   ·have H:=Lib.hid (show permB 5 n s=true by simp[permB];omega);have hd:decide (n≤999999999999999999)=true:=by simp;omega
    go_enter Tryz.func95,Tryz.ntmps95
    go_wp2;go_ret;exact RetB1.mk_ H.out hb
 by_cases h3:t=3
 ·subst h3;by_cases hn:s.size≤64
  ·have H:=Lib.hid (show permB 3 n s=true by simp[permB];omega);have hd:decide ((s.size:Int)≤64)=true:=by simp;omega
   go_enter Tryz.func95,Tryz.ntmps95
   go_wp2;go_ret;exact RetB1.mk_ H.out hb
  ·have H:=Lib.hid (show permB 3 n s=false by simp[permB];omega);have hd:decide ((s.size:Int)≤64)=false:=by simp;omega
   go_enter Tryz.func95,Tryz.ntmps95
   go_wp2;go_ret;exact RetB1.mk_ H.out hb
 have H:=Lib.hid (show permB t n s=true by simp[permB,h2,h3,h4,h5]);have e2:(t==2)=false:=by simpa using h2
 have e3:(t==3)=false:=by simpa using h3
 have e4:(t==4)=false:=by simpa using h4
 have e5:(t==5)=false:=by simpa using h5
 clear h2 h3 h4 h5;go_enter Tryz.func95,Tryz.ntmps95
 go_wp2;go_ret;exact RetB1.mk_ H.out hb
set_option maxHeartbeats 400000 in
theorem known_any (t:Int) (b:Bool) (hb:b=decide (1≤t∧t≤5)) (w:World):Calls Tryz.prog 94 #[.int .i64 t] w (Ret0 w b):=by
 by_cases h1:t<1
 ·have H:=Lib.hid (show b=false by rw[hb];simp;omega);clear hb;go_enter Tryz.func94,Tryz.ntmps94
  go_wp2;go_ret;exact Ret0.mk_ H.out
 ·by_cases h2:5<t
  ·have H:=Lib.hid (show b=false by rw[hb];simp;omega);have hd:decide (t≤5)=false:=by simp;omega
   clear hb;go_enter Tryz.func94,Tryz.ntmps94
   go_wp2;go_ret;exact Ret0.mk_ H.out
  ·have H:=Lib.hid (show b=true by rw[hb];simp;omega);have hd:decide (t≤5)=true:=by simp;omega
   clear hb;go_enter Tryz.func94,Tryz.ntmps94
   go_wp2;go_ret;exact Ret0.mk_ H.out
set_option maxHeartbeats 400000 in
theorem typed_any (t:Int) (b:Bool) (hb:b=decide (1≤t∧t≤5)) (w:World):Calls Tryz.prog 78 #[.int .i64 t] w (Ret0 w b):=by
 by_cases h1:t<1
 ·have H:=Lib.hid (show b=false by rw[hb];simp;omega);clear hb;go_enter Tryz.func78,Tryz.ntmps78
  go_wp2;go_ret;exact Ret0.mk_ H.out
 ·by_cases h2:5<t
  ·have H:=Lib.hid (show b=false by rw[hb];simp;omega);have hd:decide (t≤5)=false:=by simp;omega
   clear hb;go_enter Tryz.func78,Tryz.ntmps78
   go_wp2;go_ret;exact Ret0.mk_ H.out
  ·have H:=Lib.hid (show b=true by rw[hb];simp;omega);have hd:decide (t≤5)=true:=by simp;omega
   clear hb;go_enter Tryz.func78,Tryz.ntmps78
   go_wp2;go_ret;exact Ret0.mk_ H.out
set_option linter.unusedSimpArgs false
set_option maxHeartbeats 4000000 in
theorem vcheck_any (sc:ByteArray) (t k:Int) (cn:Bool) (nul:Bool) (n:Int) (s:ByteArray) (w:World) (hs:s.size≤9223372036854775807) :
  Calls Tryz.prog 73 #[.agg #[.string sc,.int .i64 t,.int .i64 k,.bool cn],.agg #[.bool nul,.int .i64 n,.string s]] w (RetN w (checkV t cn nul n s)):=by
 have hb:=((Below.refl w.heap.size w).alloc (Nat.le_refl _) (.cells #[.string sc,.int .i64 t,.int .i64 k,.bool cn] 56)).alloc (by simp) (.cells #[.bool nul,.int .i64 n,.string s] 64);by_cases ht:t<1∨5<t
 ·rcases ht with ht | ht
  ·have H:=Lib.hid (show checkV t cn nul n s=1 by simp[checkV,ht]);go_enter Tryz.func73,Tryz.ntmps73
   go_wp2_with fail
   refine (known_any _ false (by first | (simp;done) | (simp;omega)) _).mono ?_;rintro e w1 ⟨rfl,rfl⟩;go_wp2;go_ret;exact RetN.mk_ H.out hb
  ·have H:=Lib.hid (show checkV t cn nul n s=1 by simp[checkV,ht]);go_enter Tryz.func73,Tryz.ntmps73
   go_wp2_with fail
   refine (known_any _ false (by first | (simp;done) | (simp;omega)) _).mono ?_;rintro e w1 ⟨rfl,rfl⟩;go_wp2;go_ret;exact RetN.mk_ H.out hb
 have ht1:¬ t<1:=by omega
 have ht2:¬ 5<t:=by omega
 clear ht;cases nul
 ·by_cases h3:t=3
  ·have q1:(t==3)=true:=by simpa using h3
   have q2:(t != 3)=false:=by simpa using h3
   by_cases hn:n=0
   ·have z0:(n != 0)=false:=by simpa using hn
    have z1:(n==0)=true:=by simpa using hn
    by_cases hp:permB t n s=true
    ·have HP:=Lib.hid hp;have H:=Lib.hid (show checkV t cn false n s=0 by simp[checkV,ht1,ht2,h3,hn,show permB 3 0 s=true by rw[←h3,←hn];exact hp]);clear h3 hn hp;go_enter Tryz.func73,Tryz.ntmps73
     go_wp2_with fail
     refine (known_any _ true (by first | (simp;done) | (simp;omega)) _).mono ?_;rintro e w1 ⟨rfl,rfl⟩;go_wp2_with fail
     refine (perm_any _ _ _ _ _ hs).mono ?_;rw[HP.out];rintro e w2 ⟨rfl,hb3⟩;go_wp2;go_ret;exact RetN.mk_ H.out (bst hb hb3)
    ·have hp:permB t n s=false:=by simpa using hp
     have HP:=Lib.hid hp;have H:=Lib.hid (show checkV t cn false n s=4 by simp[checkV,ht1,ht2,h3,hn,show permB 3 0 s=false by rw[←h3,←hn];exact hp]);clear h3 hn hp;go_enter Tryz.func73,Tryz.ntmps73
     go_wp2_with fail
     refine (known_any _ true (by first | (simp;done) | (simp;omega)) _).mono ?_;rintro e w1 ⟨rfl,rfl⟩;go_wp2_with fail
     refine (perm_any _ _ _ _ _ hs).mono ?_;rw[HP.out];rintro e w2 ⟨rfl,hb3⟩;go_wp2;go_ret;exact RetN.mk_ H.out (bst hb hb3)
   ·have z0:(n != 0)=true:=by simpa using hn
    have z1:(n==0)=false:=by simpa using hn
    have H:=Lib.hid (show checkV t cn false n s=11 by simp[checkV,ht1,ht2,h3,hn]);clear h3 hn;go_enter Tryz.func73,Tryz.ntmps73
    go_wp2_with fail
    refine (known_any _ true (by first | (simp;done) | (simp;omega)) _).mono ?_;rintro e w1 ⟨rfl,rfl⟩;go_wp2;go_ret;exact RetN.mk_ H.out hb
  ·have q1:(t==3)=false:=by simpa using h3
   have q2:(t != 3)=true:=by simpa using h3
   by_cases hs0:s.size=0
   ·have e0:s.toList.isEmpty=true:=by rw[toList_nil hs0];rfl
    have e1:s.toList=[]:=toList_nil hs0;by_cases hp:permB t n s=true
    ·have HP:=Lib.hid hp;have H:=Lib.hid (show checkV t cn false n s=0 by simp[checkV,ht1,ht2,h3,hs0,hp]);clear h3 hs0 hp;go_enter Tryz.func73,Tryz.ntmps73
     go_wp2_with fail
     refine (known_any _ true (by first | (simp;done) | (simp;omega)) _).mono ?_;rintro e w1 ⟨rfl,rfl⟩;go_wp2_with fail
     refine (perm_any _ _ _ _ _ hs).mono ?_;rw[HP.out];rintro e w2 ⟨rfl,hb3⟩;go_wp2;go_ret;exact RetN.mk_ H.out (bst hb hb3)
    ·have hp:permB t n s=false:=by simpa using hp
     have HP:=Lib.hid hp;have H:=Lib.hid (show checkV t cn false n s=4 by simp[checkV,ht1,ht2,h3,hs0,hp]);clear h3 hs0 hp;go_enter Tryz.func73,Tryz.ntmps73
     go_wp2_with fail
     refine (known_any _ true (by first | (simp;done) | (simp;omega)) _).mono ?_;rintro e w1 ⟨rfl,rfl⟩;go_wp2_with fail
     refine (perm_any _ _ _ _ _ hs).mono ?_;rw[HP.out];rintro e w2 ⟨rfl,hb3⟩;go_wp2;go_ret;exact RetN.mk_ H.out (bst hb hb3)
   ·have e0:s.toList.isEmpty=false:=toList_ne (by omega);have H:=Lib.hid (show checkV t cn false n s=11 by simp[checkV,ht1,ht2,h3,hs0]);clear h3 hs0;go_enter Tryz.func73,Tryz.ntmps73
    go_wp2_with fail
    refine (known_any _ true (by first | (simp;done) | (simp;omega)) _).mono ?_;rintro e w1 ⟨rfl,rfl⟩;go_wp2;go_ret;exact RetN.mk_ H.out hb
 ·by_cases hs0:s.size=0
  ·have e0:s.toList.isEmpty=true:=by rw[toList_nil hs0];rfl
   have e1:s.toList=[]:=toList_nil hs0;by_cases hn:n=0
   ·have z0:(n != 0)=false:=by simpa using hn
    have z1:(n==0)=true:=by simpa using hn
    cases cn
    ·have H:=Lib.hid (show checkV t false true n s=12 by simp[checkV,ht1,ht2,hs0,hn]);clear hs0 hn;go_enter Tryz.func73,Tryz.ntmps73
     go_wp2_with fail
     refine (known_any _ true (by first | (simp;done) | (simp;omega)) _).mono ?_;rintro e w1 ⟨rfl,rfl⟩;go_wp2;go_ret;exact RetN.mk_ H.out hb
    ·have H:=Lib.hid (show checkV t true true n s=0 by simp[checkV,ht1,ht2,hs0,hn]);clear hs0 hn;go_enter Tryz.func73,Tryz.ntmps73
     go_wp2_with fail
     refine (known_any _ true (by first | (simp;done) | (simp;omega)) _).mono ?_;rintro e w1 ⟨rfl,rfl⟩;go_wp2;go_ret;exact RetN.mk_ H.out hb
   ·have z0:(n != 0)=true:=by simpa using hn
    have z1:(n==0)=false:=by simpa using hn
    have H:=Lib.hid (show checkV t cn true n s=11 by simp[checkV,ht1,ht2,hs0,hn]);clear hs0 hn;go_enter Tryz.func73,Tryz.ntmps73
    go_wp2_with fail
    refine (known_any _ true (by first | (simp;done) | (simp;omega)) _).mono ?_;rintro e w1 ⟨rfl,rfl⟩;go_wp2;go_ret;exact RetN.mk_ H.out hb
  ·have e0:s.toList.isEmpty=false:=toList_ne (by omega);have H:=Lib.hid (show checkV t cn true n s=11 by simp[checkV,ht1,ht2,hs0]);clear hs0;go_enter Tryz.func73,Tryz.ntmps73
   go_wp2_with fail
   refine (known_any _ true (by first | (simp;done) | (simp;omega)) _).mono ?_;rintro e w1 ⟨rfl,rfl⟩;go_wp2;go_ret;exact RetN.mk_ H.out hb
set_option maxHeartbeats 4000000 in
theorem rvcheck_any (sc:ByteArray) (t k:Int) (cn:Bool) (nul:Bool) (n:Int) (s:ByteArray) (w:World) (hs:s.size≤9223372036854775807) :
  Calls Tryz.prog 61 #[.agg #[.string sc,.int .i64 t,.int .i64 k,.bool cn],.agg #[.bool nul,.int .i64 n,.string s]] w (RetN w (checkV t cn nul n s)):=by
 have hb:=((Below.refl w.heap.size w).alloc (Nat.le_refl _) (.cells #[.string sc,.int .i64 t,.int .i64 k,.bool cn] 56)).alloc (by simp) (.cells #[.bool nul,.int .i64 n,.string s] 64);by_cases ht:t<1∨5<t
 ·rcases ht with ht | ht
  ·have H:=Lib.hid (show checkV t cn nul n s=1 by simp[checkV,ht]);go_enter Tryz.func61,Tryz.ntmps61
   go_wp2_with fail
   refine (typed_any _ false (by first | (simp;done) | (simp;omega)) _).mono ?_;rintro e w1 ⟨rfl,rfl⟩;go_wp2;go_ret;exact RetN.mk_ H.out hb
  ·have H:=Lib.hid (show checkV t cn nul n s=1 by simp[checkV,ht]);go_enter Tryz.func61,Tryz.ntmps61
   go_wp2_with fail
   refine (typed_any _ false (by first | (simp;done) | (simp;omega)) _).mono ?_;rintro e w1 ⟨rfl,rfl⟩;go_wp2;go_ret;exact RetN.mk_ H.out hb
 have ht1:¬ t<1:=by omega
 have ht2:¬ 5<t:=by omega
 clear ht;cases nul
 ·by_cases hs0:s.size=0
  ·have e0:s.toList.isEmpty=true:=by rw[toList_nil hs0];rfl
   have e1:s.toList=[]:=toList_nil hs0;have ht:t=1∨t=2∨t=3∨t=4∨t=5:=by omega
   rcases ht with rfl|rfl|rfl|rfl|rfl
   ·have H:=Lib.hid (show checkV 1 cn false n s=0 by simp[checkV,permB,hs0]);clear hs0;go_enter Tryz.func61,Tryz.ntmps61
    go_wp2_with fail
    refine (typed_any _ true (by first | (simp;done) | (simp;omega)) _).mono ?_;rintro e w1 ⟨rfl,rfl⟩;go_wp2;go_ret;exact RetN.mk_ H.out hb
   ·by_cases hn:n=0
    ·have z0:(n != 0)=false:=by simpa using hn
     have z1:(n==0)=true:=by simpa using hn
     have H:=Lib.hid (show checkV 2 cn false n s=0 by simp[checkV,permB,hs0,hn]);clear hs0 hn;go_enter Tryz.func61,Tryz.ntmps61
     go_wp2_with fail
     refine (typed_any _ true (by first | (simp;done) | (simp;omega)) _).mono ?_;rintro e w1 ⟨rfl,rfl⟩;go_wp2;go_ret;exact RetN.mk_ H.out hb
    ·have z0:(n != 0)=true:=by simpa using hn
     have z1:(n==0)=false:=by simpa using hn
     by_cases hn1:n=1
     ·have z2:(n==1)=true:=by simpa using hn1
      have H:=Lib.hid (show checkV 2 cn false n s=0 by simp[checkV,permB,hs0,hn1]);clear hs0 hn hn1;go_enter Tryz.func61,Tryz.ntmps61
      go_wp2_with fail
      refine (typed_any _ true (by first | (simp;done) | (simp;omega)) _).mono ?_;rintro e w1 ⟨rfl,rfl⟩;go_wp2;go_ret;exact RetN.mk_ H.out hb
     ·have z2:(n==1)=false:=by simpa using hn1
      have H:=Lib.hid (show checkV 2 cn false n s=4 by simp[checkV,permB,hs0,hn,hn1]);clear hs0 hn hn1;go_enter Tryz.func61,Tryz.ntmps61
      go_wp2_with fail
      refine (typed_any _ true (by first | (simp;done) | (simp;omega)) _).mono ?_;rintro e w1 ⟨rfl,rfl⟩;go_wp2;go_ret;exact RetN.mk_ H.out hb
   ·by_cases hn:n=0
    ·have z0:(n != 0)=false:=by simpa using hn
     have z1:(n==0)=true:=by simpa using hn
     have hd:decide ((s.size:Int)≤64)=true:=by simp;omega
     have H:=Lib.hid (show checkV 3 cn false n s=0 by simp[checkV,permB,hs0,hn]);clear hs0 hn;go_enter Tryz.func61,Tryz.ntmps61
     go_wp2_with fail
     refine (typed_any _ true (by first | (simp;done) | (simp;omega)) _).mono ?_;rintro e w1 ⟨rfl,rfl⟩;go_wp2;go_ret;exact RetN.mk_ H.out hb
    ·have z0:(n != 0)=true:=by simpa using hn
     have z1:(n==0)=false:=by simpa using hn
     have H:=Lib.hid (show checkV 3 cn false n s=11 by simp[checkV,permB,hs0,hn]);clear hs0 hn;go_enter Tryz.func61,Tryz.ntmps61
     go_wp2_with fail
     refine (typed_any _ true (by first | (simp;done) | (simp;omega)) _).mono ?_;rintro e w1 ⟨rfl,rfl⟩;go_wp2;go_ret;exact RetN.mk_ H.out hb
   ·by_cases r1:n < -719162
    ·have H:=Lib.hid (show checkV 4 cn false n s=4 by simp[checkV,permB,hs0,show ¬ (-719162≤n∧n≤2932896) by omega]);clear hs0;go_enter Tryz.func61,Tryz.ntmps61
     go_wp2_with fail
     refine (typed_any _ true (by first | (simp;done) | (simp;omega)) _).mono ?_;rintro e w1 ⟨rfl,rfl⟩;go_wp2;go_ret;exact RetN.mk_ H.out hb
    by_cases r2:2932896<n
    ·have hd:decide (n≤2932896)=false:=by simp;omega
     have H:=Lib.hid (show checkV 4 cn false n s=4 by simp[checkV,permB,hs0,show ¬ (-719162≤n∧n≤2932896) by omega]);clear hs0;go_enter Tryz.func61,Tryz.ntmps61
     go_wp2_with fail
     refine (typed_any _ true (by first | (simp;done) | (simp;omega)) _).mono ?_;rintro e w1 ⟨rfl,rfl⟩;go_wp2;go_ret;exact RetN.mk_ H.out hb
    ·have hd:decide (n≤2932896)=true:=by simp;omega
     have H:=Lib.hid (show checkV 4 cn false n s=0 by simp[checkV,permB,hs0,show (-719162≤n∧n≤2932896) by omega]);clear hs0;go_enter Tryz.func61,Tryz.ntmps61
     go_wp2_with fail
     refine (typed_any _ true (by first | (simp;done) | (simp;omega)) _).mono ?_;rintro e w1 ⟨rfl,rfl⟩;go_wp2;go_ret;exact RetN.mk_ H.out hb
   ·by_cases r1:n < -999999999999999999
    ·have H:=Lib.hid (show checkV 5 cn false n s=4 by simp[checkV,permB,hs0,show ¬ (-999999999999999999≤n∧n≤999999999999999999) by omega]);clear hs0;go_enter Tryz.func61,Tryz.ntmps61
     go_wp2_with fail
     refine (typed_any _ true (by first | (simp;done) | (simp;omega)) _).mono ?_;rintro e w1 ⟨rfl,rfl⟩;go_wp2;go_ret;exact RetN.mk_ H.out hb
    by_cases r2:999999999999999999<n
    ·have hd:decide (n≤999999999999999999)=false:=by simp;omega
     have H:=Lib.hid (show checkV 5 cn false n s=4 by simp[checkV,permB,hs0,show ¬ (-999999999999999999≤n∧n≤999999999999999999) by omega]);clear hs0;go_enter Tryz.func61,Tryz.ntmps61
     go_wp2_with fail
     refine (typed_any _ true (by first | (simp;done) | (simp;omega)) _).mono ?_;rintro e w1 ⟨rfl,rfl⟩;go_wp2;go_ret;exact RetN.mk_ H.out hb
    ·have hd:decide (n≤999999999999999999)=true:=by simp;omega
     have H:=Lib.hid (show checkV 5 cn false n s=0 by simp[checkV,permB,hs0,show (-999999999999999999≤n∧n≤999999999999999999) by omega]);clear hs0;go_enter Tryz.func61,Tryz.ntmps61
     go_wp2_with fail
     refine (typed_any _ true (by first | (simp;done) | (simp;omega)) _).mono ?_;rintro e w1 ⟨rfl,rfl⟩;go_wp2;go_ret;exact RetN.mk_ H.out hb
  ·have e0:s.toList.isEmpty=false:=toList_ne (by omega);by_cases h3:t=3
   ·subst h3;by_cases hn:n=0
    ·have z0:(n != 0)=false:=by simpa using hn
     have z1:(n==0)=true:=by simpa using hn
     by_cases h64:s.size≤64
     ·have hd:decide ((s.size:Int)≤64)=true:=by simp;omega
      have H:=Lib.hid (show checkV 3 cn false n s=0 by simp[checkV,permB,hs0,hn,h64]);clear hs0 hn;go_enter Tryz.func61,Tryz.ntmps61
      go_wp2_with fail
      refine (typed_any _ true (by first | (simp;done) | (simp;omega)) _).mono ?_;rintro e w1 ⟨rfl,rfl⟩;go_wp2;go_ret;exact RetN.mk_ H.out hb
     ·have hd:decide ((s.size:Int)≤64)=false:=by simp;omega
      have H:=Lib.hid (show checkV 3 cn false n s=4 by simp[checkV,permB,hs0,hn,h64]);clear hs0 hn;go_enter Tryz.func61,Tryz.ntmps61
      go_wp2_with fail
      refine (typed_any _ true (by first | (simp;done) | (simp;omega)) _).mono ?_;rintro e w1 ⟨rfl,rfl⟩;go_wp2;go_ret;exact RetN.mk_ H.out hb
    ·have z0:(n != 0)=true:=by simpa using hn
     have z1:(n==0)=false:=by simpa using hn
     have H:=Lib.hid (show checkV 3 cn false n s=11 by simp[checkV,permB,hs0,hn]);clear hs0 hn;go_enter Tryz.func61,Tryz.ntmps61
     go_wp2_with fail
     refine (typed_any _ true (by first | (simp;done) | (simp;omega)) _).mono ?_;rintro e w1 ⟨rfl,rfl⟩;go_wp2;go_ret;exact RetN.mk_ H.out hb
   ·have q1:(t==3)=false:=by simpa using h3
    have q2:(t != 3)=true:=by simpa using h3
    have H:=Lib.hid (show checkV t cn false n s=11 by simp[checkV,ht1,ht2,h3,hs0]);clear h3 hs0;go_enter Tryz.func61,Tryz.ntmps61
    go_wp2_with fail
    refine (typed_any _ true (by first | (simp;done) | (simp;omega)) _).mono ?_;rintro e w1 ⟨rfl,rfl⟩;go_wp2;go_ret;exact RetN.mk_ H.out hb
 ·by_cases hs0:s.size=0
  ·have e0:s.toList.isEmpty=true:=by rw[toList_nil hs0];rfl
   have e1:s.toList=[]:=toList_nil hs0;by_cases hn:n=0
   ·have z0:(n != 0)=false:=by simpa using hn
    have z1:(n==0)=true:=by simpa using hn
    cases cn
    ·have H:=Lib.hid (show checkV t false true n s=12 by simp[checkV,ht1,ht2,hs0,hn]);clear hs0 hn;go_enter Tryz.func61,Tryz.ntmps61
     go_wp2_with fail
     refine (typed_any _ true (by first | (simp;done) | (simp;omega)) _).mono ?_;rintro e w1 ⟨rfl,rfl⟩;go_wp2;go_ret;exact RetN.mk_ H.out hb
    ·have H:=Lib.hid (show checkV t true true n s=0 by simp[checkV,ht1,ht2,hs0,hn]);clear hs0 hn;go_enter Tryz.func61,Tryz.ntmps61
     go_wp2_with fail
     refine (typed_any _ true (by first | (simp;done) | (simp;omega)) _).mono ?_;rintro e w1 ⟨rfl,rfl⟩;go_wp2;go_ret;exact RetN.mk_ H.out hb
   ·have z0:(n != 0)=true:=by simpa using hn
    have z1:(n==0)=false:=by simpa using hn
    have H:=Lib.hid (show checkV t cn true n s=11 by simp[checkV,ht1,ht2,hs0,hn]);clear hs0 hn;go_enter Tryz.func61,Tryz.ntmps61
    go_wp2_with fail
    refine (typed_any _ true (by first | (simp;done) | (simp;omega)) _).mono ?_;rintro e w1 ⟨rfl,rfl⟩;go_wp2;go_ret;exact RetN.mk_ H.out hb
  ·have e0:s.toList.isEmpty=false:=toList_ne (by omega);by_cases hn:n=0
   ·have z0:(n != 0)=false:=by simpa using hn
    have z1:(n==0)=true:=by simpa using hn
    have H:=Lib.hid (show checkV t cn true n s=11 by simp[checkV,ht1,ht2,hs0,hn]);clear hs0 hn;go_enter Tryz.func61,Tryz.ntmps61
    go_wp2_with fail
    refine (typed_any _ true (by first | (simp;done) | (simp;omega)) _).mono ?_;rintro e w1 ⟨rfl,rfl⟩;go_wp2;go_ret;exact RetN.mk_ H.out hb
   ·have z0:(n != 0)=true:=by simpa using hn
    have z1:(n==0)=false:=by simpa using hn
    have H:=Lib.hid (show checkV t cn true n s=11 by simp[checkV,ht1,ht2,hs0,hn]);clear hs0 hn;go_enter Tryz.func61,Tryz.ntmps61
    go_wp2_with fail
    refine (typed_any _ true (by first | (simp;done) | (simp;omega)) _).mono ?_;rintro e w1 ⟨rfl,rfl⟩;go_wp2;go_ret;exact RetN.mk_ H.out hb
set_option maxHeartbeats 400000 in
theorem order_any (x y:Bool) (w:World):Calls Tryz.prog 108 #[.bool x,.bool y] w (RetI0 w (if x then -1 else if y then 0 else 1)):=by
 cases x <;> cases y
 all_goals
  go_enter Tryz.func108,Tryz.ntmps108
  go_wp2;go_ret;exact RetI0.mk_ (by simp)
set_option maxHeartbeats 1000000 in
theorem rcompare_any (t:Int) (na:Bool) (xa:Int) (sa:ByteArray) (nb:Bool) (xb:Int) (sb:ByteArray) (w:World) :
  Calls Tryz.prog 90 #[.int .i64 t,.agg #[.bool na,.int .i64 xa,.string sa],.agg #[.bool nb,.int .i64 xb,.string sb]] w (RetN w (cmpV t na xa sa nb xb sb)):=by
 have hb2:=((Below.refl w.heap.size w).alloc (Nat.le_refl _) (.cells #[.bool na,.int .i64 xa,.string sa] 64)).alloc (by simp) (.cells #[.bool nb,.int .i64 xb,.string sb] 64);cases na <;> cases nb
 ·by_cases ht:t=3
  ·have H:=Lib.hid (show (if Op.bytesLess sa.toList sb.toList then (-1:Int) else if sa.toList==sb.toList then 0 else 1)=cmpV t false xa sa false xb sb by
    rw[less_of,Go.ByteArray.toList_eq,Go.ByteArray.toList_eq,ordS_eq];simp[cmpV,ht])
   have ht':(t==3)=true:=by simpa using ht
   clear ht;go_enter Tryz.func90,Tryz.ntmps90
   go_wp2_with fail
   refine (order_any _ _ _).mono ?_;rintro e w1 ⟨rfl,rfl⟩;rw[H.out];go_wp2;go_ret;exact RetN.mk_ rfl hb2
  ·have H:=Lib.hid (show (if decide (xa<xb) then (-1:Int) else if xa==xb then 0 else 1)=cmpV t false xa sa false xb sb by rw[ordI_eq];simp[cmpV,ht]);have ht':(t==3)=false:=by simpa using ht
   clear ht;go_enter Tryz.func90,Tryz.ntmps90
   go_wp2_with fail
   refine (order_any _ _ _).mono ?_;rintro e w1 ⟨rfl,rfl⟩;rw[H.out];go_wp2;go_ret;exact RetN.mk_ rfl hb2
 all_goals
  go_enter Tryz.func90,Tryz.ntmps90
  go_wp2;go_ret;exact RetN.mk_ (by simp[cmpV]) hb2
end Go.Proofs.YtjnamjkdjcndiaaGreatDoor
