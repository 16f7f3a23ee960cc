/-
 The contracts of value.Get and ref6.Get.
-/
import Derived.Test.YtncnhcmkhgfodaaVGetLaw
import Derived.Test.YtncnhcmkhgfodaaZag
import Derived.Test.YtncnhcmkhgfodaaSrcMem
import Derived.Deep.RegionWith
namespace Go.Proofs.Ytncnhcmkhgfodaa
open Go.RowKit
def aggV (b:Bool) (n:Int) (s:ByteArray):Value:=.agg #[.bool b,.int .i64 n,.string s]
def getV (s:ByteArray) (n:Int):Value×Int×Int :=
 if n<0∨(s.size:Int)<n then (aggV false 0 { data:=#[] },0,4) else if n=s.size then (aggV false 0 { data:=#[] },0,10)
 else if 1<(s.data.toList.getD n.toNat 0).toNat then (aggV false 0 { data:=#[] },0,2)
 else if (s.data.toList.getD n.toNat 0).toNat=0 then (aggV true 0 { data:=#[] },n+1,0)
 else
  let r:=vgetAt s.data.toList (n+1)
  if r.2.2≠0 then (aggV false 0 { data:=#[] },0,r.2.2) else
   let q:=vgetAt s.data.toList r.2.1
   if q.2.2≠0 then (aggV false 0 { data:=#[] },0,q.2.2)
   else if (s.size:Int) - q.2.1<q.1 then (aggV false 0 { data:=#[] },0,10)
   else (aggV false (Lib.unzigzag r.1.toNat) (s.extract q.2.1.toNat (q.2.1+q.1).toNat),q.2.1+q.1,0)
def RetGV (w:World) (r:Value×Int×Int) (e:Ending) (w':World):Prop:=e=.returned (.tuple #[r.1,.int .i64 r.2.1,.int .i64 r.2.2])∧Below w.heap.size w w'
theorem RetGV.mk_ {w w':World} {r:Value×Int×Int} {b:Bool} {n i x:Int} {s:ByteArray} (h:r=(aggV b n s,i,x)) (hb:Below w.heap.size w w') :
  RetGV w r (.returned (.tuple #[.agg #[.bool b,.int .i64 n,.string s],.int .i64 i,.int .i64 x])) w':=by subst h;exact ⟨rfl,hb⟩
set_option maxRecDepth 100000 in
set_option maxHeartbeats 4000000 in
theorem valget_any (s:ByteArray) (n:Int) (w:World) (hs:s.size≤9223372036854775807) (h0:-9223372036854775808≤n) (h1:n≤9223372036854775807) :
  Calls Try.prog 6 #[.string s,.int .i64 n] w (RetGV w (getV s n)):=by
 have hbel:=(Below.refl w.heap.size w).alloc (Nat.le_refl _) (.cells #[.bool false,.int .i64 0,.string { data:=#[] }] 25);by_cases hneg:n<0
 ·have H:=Lib.hid (show getV s n=(aggV false 0 { data:=#[] },0,4) by unfold getV;rw[if_pos (.inl hneg)]);go_enter Try.func6,Try.ntmps6
  go_wp2;exact bodyPost_ret (v:=.tuple #[.agg #[.bool false,.int .i64 0,.string { data:=#[] }],.int .i64 0,.int .i64 4]) (by simp[results,Try.results6,go_sem]) rfl (RetGV.mk_ H.out hbel)
 by_cases hbig:(s.size:Int)<n
 ·have H:=Lib.hid (show getV s n=(aggV false 0 { data:=#[] },0,4) by unfold getV;rw[if_pos (.inr hbig)]);go_enter Try.func6,Try.ntmps6
  go_wp2;exact bodyPost_ret (v:=.tuple #[.agg #[.bool false,.int .i64 0,.string { data:=#[] }],.int .i64 0,.int .i64 4]) (by simp[results,Try.results6,go_sem]) rfl (RetGV.mk_ H.out hbel)
 obtain ⟨m,rfl⟩:=Int.eq_ofNat_of_zero_le (Int.not_lt.1 hneg);have hor:¬((m:Int)<0∨(s.size:Int)<(m:Int)):=by omega
 have t1:decide ((m:Int)<0)=false:=by simp
 have t2:decide ((s.size:Int)<(m:Int))=false:=by simp;omega
 have t3:decide (s.size<m)=false:=by simp;omega
 by_cases hend:m=s.size
 ·have H:=Lib.hid (show getV s m=(aggV false 0 { data:=#[] },0,10) by unfold getV;rw[if_neg hor,if_pos (by omega)]);have t4:((m:Int)==(s.size:Int))=true:=by simp;omega
  clear hneg hbig hor hend;go_enter Try.func6,Try.ntmps6
  go_wp2;exact bodyPost_ret (v:=.tuple #[.agg #[.bool false,.int .i64 0,.string { data:=#[] }],.int .i64 0,.int .i64 10]) (by simp[results,Try.results6,go_sem]) rfl (RetGV.mk_ H.out hbel)
 have hlt:m<s.size:=by omega
 have t4:((m:Int)==(s.size:Int))=false:=by simp;omega
 have hb:=s[m].toNat_lt;have hget:s.data.toList.getD (m:Int).toNat 0=s[m]:=by
  rw[Int.toNat_natCast,List.getD_eq_getElem?_getD,get_data s m hlt];rfl
 by_cases h1b:1<s[m].toNat
 ·have H:=Lib.hid (show getV s m=(aggV false 0 { data:=#[] },0,2) by unfold getV;rw[if_neg hor,if_neg (by omega),hget,if_pos h1b]);clear hneg hbig hor hend hget;go_enter Try.func6,Try.ntmps6
  go_wp2;exact bodyPost_ret (v:=.tuple #[.agg #[.bool false,.int .i64 0,.string { data:=#[] }],.int .i64 0,.int .i64 2]) (by simp[results,Try.results6,go_sem]) rfl (RetGV.mk_ H.out hbel)
 have h1c:(s[m].toNat:Int)≤1:=by omega
 by_cases hz:s[m].toNat=0
 ·have H:=Lib.hid (show getV s m=(aggV true 0 { data:=#[] },(m:Int)+1,0) by unfold getV;rw[if_neg hor,if_neg (by omega),hget,if_neg h1b,if_pos hz]);have t5:((s[m].toNat:Int)==0)=true:=by simp[hz]
  clear hneg hbig hor hend hget hz;go_enter Try.func6,Try.ntmps6
  go_wp2;exact bodyPost_ret (v:=.tuple #[.agg #[.bool true,.int .i64 0,.string { data:=#[] }],.int .i64 (m+1),.int .i64 0]) (by simp[results,Try.results6,go_sem]) rfl (RetGV.mk_ H.out ((Below.refl _ _).alloc (Nat.le_refl _) _))
 have t5:((s[m].toNat:Int)==0)=false:=by simp;omega
 obtain ⟨v,p,e,hr,hv,hp,hE⟩:=vgetAt_ok s.data.toList ((m:Int)+1);have hsz:s.data.toList.length=s.size:=by rw[Array.length_toList];rfl
 have C1:=Lib.hid (fun X=>by have:=vget_any s ((m:Int)+1) X hs (by omega) (by omega);rw[hr]at this;exact this);by_cases he:e=0
 ·subst he;obtain ⟨hp1,hp2,hp3⟩:=hp rfl;obtain ⟨u,q,f,hr2,hu,hq,hF⟩:=vgetAt_ok s.data.toList p;have C2:=Lib.hid (fun X=>by have:=vget_any s p X hs (by omega) (by omega);rw[hr2]at this;exact this);by_cases hf:f=0
  ·subst hf;obtain ⟨hq1,hq2,hq3⟩:=hq rfl;obtain ⟨p',rfl⟩:=Int.eq_ofNat_of_zero_le (show 0≤p by omega);obtain ⟨q',rfl⟩:=Int.eq_ofNat_of_zero_le (show 0≤q by omega);by_cases hlong:(s.size:Int) - q' < u
   ·have H:=Lib.hid (show getV s m=(aggV false 0 { data:=#[] },0,10) by unfold getV;rw[if_neg hor,if_neg (by omega),hget,if_neg h1b,if_neg hz,hr];simp[hr2];omega);clear hneg hbig hor hend hget hz;go_enter Try.func6,Try.ntmps6
    go_wp2_with fail
    refine (C1.out _).mono ?_;rintro _ _ ⟨rfl,rfl⟩;go_wp2_with fail
    refine (C2.out _).mono ?_;rintro _ _ ⟨rfl,rfl⟩;go_wp2;exact bodyPost_ret (v:=.tuple #[.agg #[.bool false,.int .i64 0,.string { data:=#[] }],.int .i64 0,.int .i64 10]) (by simp[results,Try.results6,go_sem]) rfl (RetGV.mk_ H.out hbel)
   ·have hqu:q' + u≤s.size:=by omega
    have H:=Lib.hid (show getV s m=(aggV false (Lib.unzigzag v) (s.extract q' (q' + u)),(q':Int)+u,0) by
     have e4:((q':Int)+u).toNat=q' + u:=by omega
     unfold getV;rw[if_neg hor,if_neg (by omega),hget,if_neg h1b,if_neg hz,hr];simp[hr2,hlong,e4])
    have CZ:=Lib.hid (fun X=>zag_any v hv X);clear hneg hbig hor hend hget hz;go_enter Try.func6,Try.ntmps6
    go_wp2_with fail
    refine (C1.out _).mono ?_;rintro _ _ ⟨rfl,rfl⟩;go_wp2_with fail
    refine (C2.out _).mono ?_;rintro _ _ ⟨rfl,rfl⟩;go_wp2_with fail
    go_region_with (first
     | (go_at_call 13;refine (CZ.out _).mono ?_;rintro _ _ ⟨rfl,rfl⟩))
    all_goals
     go_wp2;refine bodyPost_ret (v:=.tuple #[.agg #[.bool false,.int .i64 (Lib.unzigzag v),.string (s.extract q' (q' + u))],.int .i64 (q' + u),.int .i64 0]) ?_ ?_ ?_
     ·simp[results,Try.results6,go_sem]
     ·rfl
     ·refine RetGV.mk_ H.out ?_
      exact ((Below.refl _ _).alloc (Nat.le_refl _) _).drew
  ·have H:=Lib.hid (show getV s m=(aggV false 0 { data:=#[] },0,f) by unfold getV;rw[if_neg hor,if_neg (by omega),hget,if_neg h1b,if_neg hz,hr];simp[hr2,hf]);have t6:(f != 0)=true:=by simp[hf]
   clear hneg hbig hor hend hget hz hf;go_enter Try.func6,Try.ntmps6
   go_wp2_with fail
   refine (C1.out _).mono ?_;rintro _ _ ⟨rfl,rfl⟩;go_wp2_with fail
   refine (C2.out _).mono ?_;rintro _ _ ⟨rfl,rfl⟩;go_wp2;exact bodyPost_ret (v:=.tuple #[.agg #[.bool false,.int .i64 0,.string { data:=#[] }],.int .i64 0,.int .i64 f]) (by simp[results,Try.results6,go_sem]) rfl (RetGV.mk_ H.out hbel)
 ·have H:=Lib.hid (show getV s m=(aggV false 0 { data:=#[] },0,e) by unfold getV;rw[if_neg hor,if_neg (by omega),hget,if_neg h1b,if_neg hz,hr];simp[he]);have t6:(e != 0)=true:=by simp[he]
  clear hneg hbig hor hend hget hz he;go_enter Try.func6,Try.ntmps6
  go_wp2_with fail
  refine (C1.out _).mono ?_;rintro _ _ ⟨rfl,rfl⟩;go_wp2;exact bodyPost_ret (v:=.tuple #[.agg #[.bool false,.int .i64 0,.string { data:=#[] }],.int .i64 0,.int .i64 e]) (by simp[results,Try.results6,go_sem]) rfl (RetGV.mk_ H.out hbel)
end Go.Proofs.Ytncnhcmkhgfodaa
