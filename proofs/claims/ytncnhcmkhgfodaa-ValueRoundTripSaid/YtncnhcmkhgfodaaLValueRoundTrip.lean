/-
 The walk of the law ValueRoundTrip.
-/
import Derived.Test.YtncnhcmkhgfodaaGetPut
import Derived.Test.YtncnhcmkhgfodaaKValue
namespace Go.Proofs.Ytncnhcmkhgfodaa
open Go.RowKit Go.Sort
theorem reg_str' {P:Program} {f:FuncId} {args:Array Value} {w:World} {l:List UInt8} {p:ByteArray} (hp:p.data.toList=l) (h:∀ W,Calls P f args W (RetStr W l)):∀ d os,Calls P f args (grow (redrawn w d) os) fun e w''=>e=.returned (.string p)∧∃ q:Regrown,w''=grow (redrawn w q.d) q.os:=by
 rw[str_eq hp];exact fun d os=>Calls.regrown_of ((h (grow (redrawn w d) os)).mono fun _ _ h=>h)
theorem putV_len {b:Bool} {n:Int} {s:ByteArray} (h0:-9223372036854775808≤n) (h1:n≤9223372036854775807) (hs:s.size≤140737488351232):(putV b n s).length≤s.size+30:=by
 unfold putV
 split
 ·simp
 ·have hz:=Lib.zigzag_lt h0 h1;have a1:=Lib.uvarint_length64 hz;have a2:=Lib.uvarint_length64 (show s.size<18446744073709551616 by omega);have e:s.data.size=s.size:=rfl;simp;omega
theorem retGV_of' {w:World} {r:Value×Int×Int} {v:Value} {i x:Int} (h:r=(v,i,x)) {P:Program} {f:FuncId} {args:Array Value} (hc:Calls P f args w (RetGV w r)):Calls P f args w fun e w'=>e=.returned (.tuple #[v,.int .i64 i,.int .i64 x])∧Below w.heap.size w w':=by
 subst h;exact hc
set_option maxRecDepth 100000 in
set_option maxHeartbeats 4000000 in
theorem valueRoundTrip_walk (t:Int) (v:Value) (zs:List Int) (n:Int) (str before behind:ByteArray) (w:World)
  (hs:Sl w 1 v zs.length (ints zs)) (hl:zs.length≤9223372036854775807) (hr:∀ x ∈ zs,-9223372036854775808≤x∧x≤9223372036854775807)
  (hn0:-9223372036854775808≤n) (hn1:n≤9223372036854775807) (h1:str.size≤140737488351232) (h2:before.size≤140737488351232) (h3:behind.size≤140737488351232) :
  Calls Try.prog 4 #[.int .i64 t,v,.int .i64 n,.string str,.string before,.string behind] w (RetB1' w true):=by
 have HC:=Lib.hid (column_any t 1 true w);have HV:=Lib.hid (fun (W:World) (T K:Int) (h:Below w.heap.size w W) (ht1:1≤T) (ht2:T≤5)=>kvalue_any { data:=#[120] } T K true v zs W ht1 ht2 (hs.below h) hl hr);obtain ⟨A,c,rfl,_,_⟩:=hs.form;clear hr hl hs;go_enter Try.func4,Try.ntmps4
 go_wp2_with fail
 refine HC.out.mono ?_;rintro e w1 ⟨T,K,rfl,hT,hb1⟩;go_wp2_with fail
 refine (HV.out w1 T K hb1 hT.1 hT.2.1).mono ?_;rintro e w2 ⟨b,x,s,rfl,hok,hb2⟩;go_wp2_with fail
 have hsx:s.size≤3:=by
  obtain ⟨k1,k2,_⟩:=hok;cases b with
  | true=>have:=(k1 rfl).2.2;omega
  | false =>
   by_cases ht3:T=3
   ·exact ((k2 rfl).1 ht3).2
   ·have:=(k2 rfl).2.1 ht3;omega
 have hx0:-9223372036854775808≤x:=hok.2.2.1;have hx1:x≤9223372036854775807:=hok.2.2.2;have hbn:b=true→x=0∧s.size=0:=fun h=>⟨(hok.1 h).2.1,(hok.1 h).2.2⟩
 obtain ⟨p,hp⟩:∃ p:ByteArray,p.data.toList=putV b x s:=⟨⟨(putV b x s).toArray⟩,by simp⟩
 obtain ⟨q,hq⟩:∃ q:ByteArray,q.data.toList=putV false n str:=⟨⟨(putV false n str).toArray⟩,by simp⟩
 have lp:p.size≤100:=by
  have e:p.data.toList.length=p.size:=by rw[Array.length_toList];rfl
  rw[←e,hp];have:=putV_len (b:=b) hx0 hx1 (s:=s) (by omega);omega
 have lq:q.size≤140737488356352:=by
  have e:q.data.toList.length=q.size:=by rw[Array.length_toList];rfl
  rw[←e,hq];have:=putV_len (b:=false) hn0 hn1 (s:=str) (by omega);omega
 have el:∀ S:ByteArray,S.data.toList.length=S.size:=fun S=>by rw[Array.length_toList];rfl
 have hS:(before++p++q++behind).data.toList=before.data.toList++(putV b x s++(putV false n str++behind.data.toList)):=by
  rw[bs_append,bs_append,bs_append,hp,hq];simp
 have g1:getV (before++p++q++behind) ((before.size:Nat):Int)=(aggV b x s,(before.size:Int)+p.size,0):=by
  rw[getV_put (b:=b) (n:=x) (s:=s) (r:=putV false n str++behind.data.toList) (by rw[hS,←el before,List.drop_left]) hx0 hx1 (by omega) hbn,←hp,el]
 have g2:getV (before++p++q++behind) ((before.size:Int)+p.size)=(aggV false n str,(before.size:Int)+p.size+q.size,0):=by
  have:=getV_put (S:=before++p++q++behind) (k:=before.size+p.size) (b:=false) (n:=n) (s:=str) (r:=behind.data.toList) (by
   rw[hS,←List.drop_drop,←el before,List.drop_left,←el p,hp,List.drop_left]) hn0 hn1 (by omega) (fun h=>by cases h)
  rw[show ((before.size:Int)+(p.size:Int))=((before.size+p.size:Nat):Int) by omega,this,←hq,el]
 have hsz:(before++p++q++behind).size≤9223372036854775807:=by simp only[ByteArray.size_append];omega
 have D1:=Lib.hid (fun X=>retGV_of' (v:=.agg #[.bool b,.int .i64 x,.string s]) g1 (valget_any (before++p++q++behind) ((before.size:Nat):Int) X hsz (by omega) (by omega)));have D2:=Lib.hid (fun X=>retGV_of' (v:=.agg #[.bool false,.int .i64 n,.string str]) g2 (valget_any (before++p++q++behind) ((before.size:Int)+p.size) X hsz (by omega) (by omega)));obtain ⟨W,hW⟩:∃ W,W=(w2.alloc (.cells #[.bool b,.int .i64 x,.string s] 25)).alloc (.cells #[.bool false,.int .i64 n,.string str] 25):=⟨_,rfl⟩
 have P1:=Lib.hid (reg_str' (w:=W) hp (fun X=>vPut_any b x s X hx0 hx1 (by omega)));have P2:=Lib.hid (reg_str' (w:=W) hq (fun X=>vPut_any false n str X hn0 hn1 (by omega)));have B1:Blk W w2.heap.size 25 #[.bool b,.int .i64 x,.string s]:=by rw[hW];exact (Blk.new _ _ _).alloc _
 have B2:Blk W (w2.heap.size+1) 25 #[.bool false,.int .i64 n,.string str]:=by rw[hW];exact blk_new2 _ _ _ _
 have HB:=Lib.hid (show Below w.heap.size w W by
  rw[hW];have q:=bst hb1 hb2;have q2:=q.alloc q.size (.cells #[.bool b,.int .i64 x,.string s] 25);exact q2.alloc q2.size _)
 have e0:=cell_regrown (B1.cell 0);have e1:=cell_regrown (B1.cell 1);have e2:=cell_regrown (B1.cell 2);have e3:=cell_regrown (B2.cell 0);have e4:=cell_regrown (B2.cell 1);have e5:=cell_regrown (B2.cell 2);have HE:=Lib.hid (And.intro B1 B2);clear hsx hx0 hx1 hbn hp hq hS g1 g2 hsz B1 B2 hok hT;rw[←hW];clear hW;refine wp_region_quiet_below (by kernel_rfl) (by kernel_rfl) ?_
 repeat (go_big_quiet_step ((first | (with_reducible exact P1.out _ _) | (with_reducible exact P2.out _ _))))
 refine wpQuiet_nil ?_
 intro _ hw'
 obtain ⟨⟨dq,osq⟩,hw''⟩:=hw';subst hw'';have b1:=HE.out.1.below (below_regrown W dq osq) HE.out.1.lt;have b2:=HE.out.2.below (below_regrown W dq osq) HE.out.2.lt;have q1:=bst HB.out (below_regrown W dq osq);obtain ⟨X,hX⟩:∃ X,X=grow (redrawn W dq) osq:=⟨_,rfl⟩
 rw[←hX]at b1 b2 q1 ⊢;clear hX e0 e1 e2 e3 e4 e5;go_wp2_with fail
 refine (D1.out _).mono ?_;rintro _ w3 ⟨rfl,hb3⟩;go_wp2_with fail
 refine (D2.out _).mono ?_;rintro _ w4 ⟨rfl,hb4⟩;go_wp2_with fail
 refine (awake6_any _).mono ?_;rintro _ w5 ⟨rfl,hb5⟩;have q3:=bst q1 hb3;have q4:=bst (q3.alloc q3.size _) hb4;have q5:=bst (q4.alloc q4.size _) hb5;have b1:=(((b1.below hb3 b1.lt).alloc _).below hb4 ((b1.below hb3 b1.lt).alloc _).lt)
 have b1:=(b1.alloc _).below hb5 (b1.alloc _).lt;have b2:=(((b2.below hb3 b2.lt).alloc _).below hb4 ((b2.below hb3 b2.lt).alloc _).lt)
 have b2:=(b2.alloc _).below hb5 (b2.alloc _).lt;have b3:=(Blk.new w3 25 #[.bool b,.int .i64 x,.string s]).below hb4 (Blk.new w3 _ _).lt;have b3:=(b3.alloc _).below hb5 (b3.alloc _).lt;have b4:=(Blk.new w4 25 #[.bool false,.int .i64 n,.string str]).below hb5 (Blk.new w4 _ _).lt;have c10:=b1.cell 0;have c11:=b1.cell 1;have c12:=b1.cell 2;have c20:=b2.cell 0;have c21:=b2.cell 1;have c22:=b2.cell 2;have c30:=b3.cell 0;have c31:=b3.cell 1;have c32:=b3.cell 2;have c40:=b4.cell 0;have c41:=b4.cell 1;have c42:=b4.cell 2;simp only[List.getElem?_toArray,List.getElem?_cons_zero,List.getElem?_cons_succ]at c10 c11 c12 c20 c21 c22 c30 c31 c32 c40 c41 c42;clear hb1 hb2 hb3 hb4 hb5 b1 b2 b3 b4 q1 q3 q4 HE HB;go_wp2;go_ret;exact ⟨by simp,q5⟩
end Go.Proofs.Ytncnhcmkhgfodaa
