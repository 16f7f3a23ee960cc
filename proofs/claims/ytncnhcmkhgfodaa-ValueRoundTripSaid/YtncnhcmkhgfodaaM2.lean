/-
  Words, plain laws and contracts on which the walks lean, in one text.
-/
import Derived.Test.YtncnhcmkhgfodaaProg
import Derived.Test.YtncnhcmkhgfodaaM1
import Derived.WalkLawsBesides
import Derived.Test.YtncnhcmkhgfodaaPick
namespace Go.Proofs.Ytncnhcmkhgfodaa
open Go.RowKit
def ordI (a b:Int):Int:=if a<b then -1 else if b<a then 1 else 0
def ordS (a b:List UInt8):Int:=if a<b then -1 else if a=b then 0 else 1
def cmpV (t:Int) (na:Bool) (xa:Int) (sa:ByteArray) (nb:Bool) (xb:Int) (sb:ByteArray):Int :=
 if na&&nb then 0 else if na then -1 else if nb then 1 else if t=3 then ordS sa.data.toList sb.data.toList else ordI xa xb
def RetI0 (w:World) (x:Int) (e:Ending) (w':World):Prop:=e=.returned (.int .i64 x)∧w=w'
theorem RetI0.mk_ {w:World} {x x':Int} (h:x=x'):RetI0 w x (.returned (.int .i64 x')) w:=by subst h;exact ⟨rfl,rfl⟩
def RetN (w:World) (x:Int) (e:Ending) (w':World):Prop:=e=.returned (.int .i64 x)∧Below w.heap.size w w'
theorem RetN.mk_ {w w':World} {x x':Int} (h:x=x') (hb:Below w.heap.size w w'):RetN w x (.returned (.int .i64 x')) w':=by subst h;exact ⟨rfl,hb⟩
theorem less_lex:∀ (x y:List UInt8),Op.bytesLess x y=decide (x<y)
 | [],[]=>by simp[Op.bytesLess]
 | _::_,[]=>by simp[Op.bytesLess]
 | [],_::_=>by simp[Op.bytesLess]
 | a::x,b::y=>by
  rw[Op.bytesLess,less_lex x y];simp only[List.cons_lt_cons_iff];by_cases h1:a<b <;> by_cases h2:a=b <;> by_cases h3:x<y <;> simp[h1,h2,h3]
theorem less_of (a b:ByteArray):Op.bytesLess a.toList b.toList=decide (a.data.toList<b.data.toList):=by
 rw[Go.ByteArray.toList_eq,Go.ByteArray.toList_eq];exact less_lex _ _
set_option maxHeartbeats 400000 in
theorem cmpS_any (a b:ByteArray) (w:World):Calls Try.prog 21 #[.string a,.string b] w (RetI0 w (ordS a.data.toList b.data.toList)):=by
 by_cases h1:a.data.toList<b.data.toList
 ·have hl:Op.bytesLess a.toList b.toList=true:=by rw[less_of];simpa using h1
  have H:=Lib.hid (show ordS a.data.toList b.data.toList=-1 by unfold ordS;rw[if_pos h1]);clear h1;go_enter Try.func21,Try.ntmps21
  go_wp2;go_ret;exact RetI0.mk_ H.out
 ·have hl:Op.bytesLess a.toList b.toList=false:=by rw[less_of];simpa using h1
  by_cases h2:a.data.toList=b.data.toList
  ·have he:(a.toList==b.toList)=true:=by rw[Go.ByteArray.toList_eq,Go.ByteArray.toList_eq,h2];simp
   have H:=Lib.hid (show ordS a.data.toList b.data.toList=0 by unfold ordS;rw[if_neg h1,if_pos h2]);clear h1 h2;go_enter Try.func21,Try.ntmps21
   go_wp2;go_ret;exact RetI0.mk_ H.out
  ·have he:(a.toList==b.toList)=false:=by rw[Go.ByteArray.toList_eq,Go.ByteArray.toList_eq];simpa using h2
   have H:=Lib.hid (show ordS a.data.toList b.data.toList=1 by unfold ordS;rw[if_neg h1,if_neg h2]);clear h1 h2;go_enter Try.func21,Try.ntmps21
   go_wp2;go_ret;exact RetI0.mk_ H.out
set_option maxHeartbeats 400000 in
theorem cmpI_any (a b:Int) (w:World):Calls Try.prog 22 #[.int .i64 a,.int .i64 b] w (RetI0 w (ordI a b)):=by
 by_cases h1:a<b
 ·have H:=Lib.hid (show ordI a b=-1 by unfold ordI;rw[if_pos h1]);go_enter Try.func22,Try.ntmps22
  go_wp2;go_ret;exact RetI0.mk_ H.out
 ·by_cases h2:b<a
  ·have H:=Lib.hid (show ordI a b=1 by unfold ordI;rw[if_neg h1,if_pos h2]);go_enter Try.func22,Try.ntmps22
   go_wp2;go_ret;exact RetI0.mk_ H.out
  ·have H:=Lib.hid (show ordI a b=0 by unfold ordI;rw[if_neg h1,if_neg h2]);go_enter Try.func22,Try.ntmps22
   go_wp2;go_ret;exact RetI0.mk_ H.out
set_option maxHeartbeats 1000000 in
theorem compare_any (t:Int) (na:Bool) (xa:Int) (sa:ByteArray) (nb:Bool) (xb:Int) (sb:ByteArray) (w:World) :
  Calls Try.prog 16 #[.int .i64 t,.agg #[.bool na,.int .i64 xa,.string sa],.agg #[.bool nb,.int .i64 xb,.string sb]] w (RetN w (cmpV t na xa sa nb xb sb)):=by
 have hb2:=((Below.refl w.heap.size w).alloc (Nat.le_refl _) (.cells #[.bool na,.int .i64 xa,.string sa] 25)).alloc (by simp) (.cells #[.bool nb,.int .i64 xb,.string sb] 25);cases na <;> cases nb
 ·by_cases ht:t=3
  ·have H:=Lib.hid (show ordS sa.data.toList sb.data.toList=cmpV t false xa sa false xb sb by simp[cmpV,ht]);have ht':(t==3)=true:=by simpa using ht
   clear ht;go_enter Try.func16,Try.ntmps16
   go_wp2_with fail
   refine (cmpS_any _ _ _).mono ?_;rintro e w1 ⟨rfl,rfl⟩;go_wp2;go_ret;exact RetN.mk_ H.out.symm hb2
  ·have H:=Lib.hid (show ordI xa xb=cmpV t false xa sa false xb sb by simp[cmpV,ht]);have ht':(t==3)=false:=by simpa using ht
   clear ht;go_enter Try.func16,Try.ntmps16
   go_wp2_with fail
   refine (cmpI_any _ _ _).mono ?_;rintro e w1 ⟨rfl,rfl⟩;go_wp2;go_ret;exact RetN.mk_ H.out.symm hb2
 all_goals
  go_enter Try.func16,Try.ntmps16
  go_wp2;go_ret;exact RetN.mk_ (by simp[cmpV]) hb2
def ColOk (t k:Int):Prop:=1≤t∧t≤5∧0≤k∧k≤18∧(t≠5→k=0)
def RetCol (w:World) (null:Bool) (e:Ending) (w':World):Prop:=∃ t k:Int,e=.returned (.agg #[.string { data:=#[120] },.int .i64 t,.int .i64 k,.bool null])∧ColOk t k∧Below w.heap.size w w'
set_option maxHeartbeats 1000000 in
theorem column_any (t k:Int) (null:Bool) (w:World):Calls Try.prog 10 #[.int .i64 t,.int .i64 k,.bool null] w (RetCol w null):=by
 have p1:=pick_lo t 5 (by omega);have p2:=pick_hi t 5 (by omega);go_enter Try.func10,Try.ntmps10
 go_wp2_with fail
 refine (pick_any t 5 _ (by omega) (by omega)).mono ?_;rintro e w' ⟨rfl,rfl⟩;obtain ⟨x,hx⟩:∃ x,pick t 5=x:=⟨_,rfl⟩
 rw[hx]at p1 p2 ⊢;clear hx;by_cases h5:x=4
 ·subst h5;go_wp2_with fail
  refine (pick_any k 19 _ (by omega) (by omega)).mono ?_;rintro e w' ⟨rfl,rfl⟩;have p3:=pick_lo k 19 (by omega);have p4:=pick_hi k 19 (by omega);obtain ⟨y,hy⟩:∃ y,pick k 19=y:=⟨_,rfl⟩
  rw[hy]at p3 p4 ⊢;clear hy;go_wp2;exact bodyPost_ret (v:=.agg #[.string { data:=#[120] },.int .i64 5,.int .i64 y,.bool null]) (by simp[results,Try.results10,go_sem]) rfl ⟨5,y,rfl,⟨by omega,by omega,by omega,by omega,fun h=>absurd rfl h⟩,((Below.refl _ _).alloc (Nat.le_refl _) _).alloc (by simp) _⟩
 ·have hq:(1+x==5)=false:=by simp;omega
  go_wp2;exact bodyPost_ret (v:=.agg #[.string { data:=#[120] },.int .i64 (1+x),.int .i64 0,.bool null]) (by simp[results,Try.results10,go_sem]) rfl ⟨1+x,0,rfl,⟨by omega,by omega,by omega,by omega,fun _=>rfl⟩,((Below.refl _ _).alloc (Nat.le_refl _) _).alloc (by simp) _⟩
end Go.Proofs.Ytncnhcmkhgfodaa
