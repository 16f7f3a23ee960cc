/-
 The contracts of ref6.hex,ref6.readBytes.
-/
import Derived.Test.YtjnamjkdjcndiaaGreatDoorBytes
import Derived.Test.YtjnamjkdjcndiaaGreatDoorM5
import Derived.Deep.DeepCutAuto
import Derived.Laws.BytesArg
import Derived.Deep.CutBlock
namespace Go.Proofs.YtjnamjkdjcndiaaGreatDoor
open Go.RowKit Go.Sort
set_option linter.unusedVariables false
theorem hexV_dig {c:UInt8} (h0:48≤c.toNat) (h1:c.toNat≤57):(hexV c:Int)=(c.toNat:Int) - 48:=by unfold hexV;rw[if_pos ⟨h0,h1⟩];omega
theorem hexV_let {c:UInt8} (h0:97≤c.toNat) (h1:c.toNat≤102):(hexV c:Int)=(c.toNat:Int) - 97+10:=by unfold hexV;rw[if_neg (by omega),if_pos ⟨h0,h1⟩];omega
theorem hexV_no {c:UInt8} (h0:¬(48≤c.toNat∧c.toNat≤57)) (h1:¬(97≤c.toNat∧c.toNat≤102)):(hexV c:Int)=16:=by unfold hexV;rw[if_neg h0,if_neg h1];rfl
def RetHx (w:World) (v:Int) (e:Ending) (w':World):Prop:=e=.returned (.int .u8 v)∧w'=w
theorem RetHx.mk_ {w:World} {v x:Int} (h:v=x):RetHx w v (.returned (.int .u8 x)) w:=by subst h;exact ⟨rfl,rfl⟩
theorem hex_any (c:UInt8) (w:World):Calls Tryz.prog 170 #[.int .u8 (c.toNat:Int)] w (RetHx w (hexV c:Int)):=by
 have hlt:=c.toNat_lt;by_cases h0:48≤c.toNat∧c.toNat≤57
 ·have HV:=Lib.hid (hexV_dig h0.1 h0.2);have q0:48≤(c.toNat:Int):=by omega
  have q1:(c.toNat:Int)≤57:=by omega
  clear h0;go_enter Tryz.func170,Tryz.ntmps170
  go_wp2;go_ret;exact RetHx.mk_ HV.out
 by_cases h1:97≤c.toNat∧c.toNat≤102
 ·have HV:=Lib.hid (hexV_let h1.1 h1.2);have q0:48≤(c.toNat:Int):=by omega
  have q1:¬((c.toNat:Int)≤57):=by omega
  have q2:97≤(c.toNat:Int):=by omega
  have q3:(c.toNat:Int)≤102:=by omega
  clear h0 h1;go_enter Tryz.func170,Tryz.ntmps170
  go_wp2;go_ret;exact RetHx.mk_ HV.out
 have HV:=Lib.hid (hexV_no h0 h1);have hc:(c.toNat:Int)<48∨(48≤(c.toNat:Int)∧¬((c.toNat:Int)≤57)∧(c.toNat:Int)<97)∨(48≤(c.toNat:Int)∧¬((c.toNat:Int)≤57)∧97≤(c.toNat:Int)∧¬((c.toNat:Int)≤102)):=by omega
 clear h0 h1;rcases hc with q0|⟨q0,q1,q2⟩|⟨q0,q1,q2,q3⟩
 ·have q0':¬(48≤(c.toNat:Int)):=by omega
  have q2':¬(97≤(c.toNat:Int)):=by omega
  go_enter Tryz.func170,Tryz.ntmps170
  go_wp2;go_ret;exact RetHx.mk_ HV.out
 ·have q2':¬(97≤(c.toNat:Int)):=by omega
  go_enter Tryz.func170,Tryz.ntmps170
  go_wp2;go_ret;exact RetHx.mk_ HV.out
 ·go_enter Tryz.func170,Tryz.ntmps170
  go_wp2;go_ret;exact RetHx.mk_ HV.out
theorem hex_call (c:UInt8) (a:Nat) (h:hexV c=a) (X:World):Calls Tryz.prog 170 #[.int .u8 (c.toNat:Int)] X fun e w'=>e=.returned (.int .u8 (a:Int))∧w'=X:=by subst h;exact hex_any c X
def RetVb (w:World) (r:(Bool×Int×List UInt8)×Int) (e:Ending) (w':World):Prop:=e=.returned (.tuple #[.agg #[.bool r.1.1,.int .i64 r.1.2.1,.string ⟨r.1.2.2.toArray⟩],.int .i64 r.2])∧Below w.heap.size w w'
theorem RetVb.mk_ {w w':World} {r:(Bool×Int×List UInt8)×Int} {b:Bool} {n x:Int} {s:ByteArray} (h:r=((b,n,s.data.toList),x)) (hb:Below w.heap.size w w'):RetVb w r (.returned (.tuple #[.agg #[.bool b,.int .i64 n,.string s],.int .i64 x])) w':=by subst h;exact ⟨rfl,hb⟩
def vbyt (l:List UInt8):(Bool×Int×List UInt8)×Int:=((false,0,(bytV l).1),(bytV l).2)
theorem vbyt_eq {l q:List UInt8} {x:Int} (h:bytV l=(q,x)):vbyt l=((false,0,q),x):=by unfold vbyt;rw[h]
theorem blk3V {w:World} {A:Nat} {T:TypeId} {x y z:Value} (a b c:Value) (h:Blk w A T #[x,y,z]):Blk (((w.setCell ⟨A,0,none⟩ a).setCell ⟨A,1,none⟩ b).setCell ⟨A,2,none⟩ c) A T #[a,b,c]:=((h.set_ 0 a).set_ 1 b).set_ 2 c
theorem below3V {w w':World} {A B:Nat} (a b c:Value) (h:Below B w w') (hB:B≤A):Below B w (((w'.setCell ⟨A,0,none⟩ a).setCell ⟨A,1,none⟩ b).setCell ⟨A,2,none⟩ c):=((h.setCell (p:=⟨A,0,none⟩) hB a).setCell (p:=⟨A,1,none⟩) hB b).setCell (p:=⟨A,2,none⟩) hB c
theorem conv_one {P:Program} (w:World) (x:Int) {src e:TypeId} (hs:P.underlying src=some (.slice e)) (he:P.underlying e=some (.int .u8)) :
  ∀ dst,P.underlying dst=some .string→(convert src dst (.slice (some ⟨w.heap.size,0,none⟩) 1 1)).run P (w.alloc (.cells #[.int .u8 x] e))=.ok (.string (strOfNums [x])) (w.alloc (.cells #[.int .u8 x] e)) :=
 run_convert_bytes_arg _ src e hs he w.heap.size 0 1 1 [x] rfl (fun i hi=>by
  obtain rfl:i=0:=by omega
  exact (Blk.new w e #[.int .u8 x]).cell 0)
set_option maxRecDepth 100000 in
set_option maxHeartbeats 2000000 in
theorem rbytes_any (s:ByteArray) (w:World) (hs:s.size≤140737488351232):Calls Tryz.prog 146 #[.string s] w (RetVb w (vbyt s.data.toList)):=by
 have bV:=Blk.new w 64 #[.bool false,.int .i64 0,.string { data:=#[] }];have hbV:=below_new w (.cells #[.bool false,.int .i64 0,.string { data:=#[] }] 64);obtain ⟨W0,hW0⟩:∃ W,W=w.alloc (.cells #[.bool false,.int .i64 0,.string { data:=#[] }] 64):=⟨_,rfl⟩
 rw[←hW0]at bV hbV;obtain ⟨g,hg⟩:∃ g,g=w.heap.size:=⟨_,rfl⟩
 rw[←hg]at bV;have HG:=Lib.hid (show w.heap.size≤g by omega);have HW0:=Lib.hid hW0;have HGE:=Lib.hid hg;have HBV:=Lib.hid hbV;have HB0:=Lib.hid bV;have c0:W0.cell? ⟨g,0,none⟩=some (.bool false):=bV.cell 0;have c1:W0.cell? ⟨g,1,none⟩=some (.int .i64 0):=bV.cell 1;have c2:W0.cell? ⟨g,2,none⟩=some (.string { data:=#[] }):=bV.cell 2;have f0:=bV.frozen 0;have f1:=bV.frozen 1;have f2:=bV.frozen 2;clear hW0 hg bV hbV;by_cases hz:s.size<2
 ·have HO:=Lib.hid (vbyt_eq (byt_form (l:=s.data.toList) (.inl (by rw[size_data];exact hz))));go_enter Tryz.func146,Tryz.ntmps146
  go_upto_region 1 with (fail)
  rw[←HW0.out,←HGE.out];go_wp2;have b3:=blk3V (.bool false) (.int .i64 0) (.string { data:=#[] }) HB0.out;have q0:_=some (Value.bool false):=b3.cell 0;have q1:_=some (Value.int .i64 0):=b3.cell 1;have q2:_=some (Value.string { data:=#[] }):=b3.cell 2;exact bodyPost_ret (v:=.tuple #[.agg #[.bool false,.int .i64 0,.string { data:=#[] }],.int .i64 2]) (by simp[results,Tryz.results146,go_sem,q0,q1,q2]) rfl (RetVb.mk_ HO.out (below3V _ _ _ HBV.out HG.out))
 obtain ⟨n,hn⟩:∃ n,s.size=n+2:=⟨s.size - 2,by omega⟩
 clear hz;by_cases hodd:n % 2=0
 case neg =>
  have HO:=Lib.hid (vbyt_eq (byt_form (l:=s.data.toList) (.inr (.inl (by rw[size_data];omega)))));have q0:((n:Int) % 2 != 0)=true:=by rw[bne_iff_ne];omega
  have q0':(((n:Int)+2) % 2 != 0)=true:=by rw[bne_iff_ne];omega
  go_enter Tryz.func146,Tryz.ntmps146
  go_upto_region 1 with (fail)
  rw[←HW0.out,←HGE.out];go_wp2;have b3:=blk3V (.bool false) (.int .i64 0) (.string { data:=#[] }) HB0.out;have q0:_=some (Value.bool false):=b3.cell 0;have q1:_=some (Value.int .i64 0):=b3.cell 1;have q2:_=some (Value.string { data:=#[] }):=b3.cell 2;exact bodyPost_ret (v:=.tuple #[.agg #[.bool false,.int .i64 0,.string { data:=#[] }],.int .i64 2]) (by simp[results,Tryz.results146,go_sem,q0,q1,q2]) rfl (RetVb.mk_ HO.out (below3V _ _ _ HBV.out HG.out))
 have q0:((n:Int) % 2 != 0)=false:=by rw[bne_eq_false_iff_eq];omega
 have q0':(((n:Int)+2) % 2 != 0)=false:=by rw[bne_eq_false_iff_eq];omega
 have h0:0<s.size:=by omega
 have h1:n+1<s.size:=by omega
 by_cases hq:(s[0].toNat:Int)=34
 case neg =>
  have HO:=Lib.hid (vbyt_eq (byt_form (l:=s.data.toList) (.inr (.inr (.inl (by rw[head_data s h0];intro e;exact hq (by rw[e];rfl)))))));have q1:((s[0].toNat:Int) != 34)=true:=by rw[bne_iff_ne];exact hq
  clear hq;go_enter Tryz.func146,Tryz.ntmps146
  go_upto_region 1 with (fail)
  rw[←HW0.out,←HGE.out];go_wp2;have b3:=blk3V (.bool false) (.int .i64 0) (.string { data:=#[] }) HB0.out;have q0:_=some (Value.bool false):=b3.cell 0;have q1:_=some (Value.int .i64 0):=b3.cell 1;have q2:_=some (Value.string { data:=#[] }):=b3.cell 2;exact bodyPost_ret (v:=.tuple #[.agg #[.bool false,.int .i64 0,.string { data:=#[] }],.int .i64 2]) (by simp[results,Tryz.results146,go_sem,q0,q1,q2]) rfl (RetVb.mk_ HO.out (below3V _ _ _ HBV.out HG.out))
 have q1:((s[0].toNat:Int) != 34)=false:=by rw[bne_eq_false_iff_eq];exact hq
 by_cases hq2:(s[n+1].toNat:Int)=34
 case neg =>
  have HO:=Lib.hid (vbyt_eq (byt_form (l:=s.data.toList) (.inr (.inr (.inr (by rw[size_data,show s.size - 1=n+1 by omega,getD_at h1];intro e;exact hq2 (by rw[e];rfl)))))));have q2:((s[n+1].toNat:Int) != 34)=true:=by rw[bne_iff_ne];exact hq2
  clear hq hq2;go_enter Tryz.func146,Tryz.ntmps146
  go_upto_region 1 with (fail)
  rw[←HW0.out,←HGE.out];go_wp2;have b3:=blk3V (.bool false) (.int .i64 0) (.string { data:=#[] }) HB0.out;have q0:_=some (Value.bool false):=b3.cell 0;have q1:_=some (Value.int .i64 0):=b3.cell 1;have q2:_=some (Value.string { data:=#[] }):=b3.cell 2;exact bodyPost_ret (v:=.tuple #[.agg #[.bool false,.int .i64 0,.string { data:=#[] }],.int .i64 2]) (by simp[results,Tryz.results146,go_sem,q0,q1,q2]) rfl (RetVb.mk_ HO.out (below3V _ _ _ HBV.out HG.out))
 have q2:((s[n+1].toNat:Int) != 34)=false:=by rw[bne_eq_false_iff_eq];exact hq2
 have HFM:=Lib.hid (show ¬(s.data.toList.length<2∨s.data.toList.length % 2≠0∨s.data.toList.headD 0≠34∨s.data.toList.getD (s.data.toList.length - 1) 0≠34) by
  rw[size_data,head_data s h0,show s.size - 1=n+1 by omega,getD_at h1];have e34:(34:UInt8).toNat=34:=rfl;rintro (h|h|h|h)
  ·omega
  ·omega
  ·exact h (UInt8.toNat_inj.1 (by omega))
  ·exact h (UInt8.toNat_inj.1 (by omega)))
 obtain ⟨N,rfl⟩:∃ N,n=2 * N:=⟨n / 2,by omega⟩
 have HNL:=Lib.hid (show (s.data.toList.length - 2) / 2=N by rw[size_data];omega);have hN:N≤70368744175616:=by omega
 clear hq hq2 hodd c0 c1 c2 f0 f1 f2;go_enter Tryz.func146,Tryz.ntmps146
 go_upto_region 1 with (fail)
 rw[←HW0.out,←HGE.out];go_wp2;go_loopw [4,5] (fun t i wr=>∃ (k m:Nat) (O:ByteArray),k≤N∧i=.int .i64 (m:Int)∧m=1+2 * k∧t=.string O∧O.size=k∧Hid (O.data.toList=outQ s.data.toList k∧allQ s.data.toList k=true)∧Below W0.heap.size W0 wr) (fun _ i _=>2 * N+2 - (intOf i).toNat)
 case atStart=>exact ⟨0,1,⟨#[]⟩,by omega,rfl,rfl,rfl,rfl,Lib.hid ⟨rfl,rfl⟩,Below.refl _ _⟩
 case round =>
  obtain ⟨k,m,O,hk,rfl,hm,rfl,hOs,hh,hbel⟩:=hrel;have HBw:=Lib.hid (bst HBV.out hbel);have HBk:=Lib.hid (HB0.out.below hbel HB0.out.lt);by_cases hlt:k<N
  ·have g1:m<s.size:=by omega
   have g2:m+1<s.size:=by omega
   have ea:hexA s.data.toList k=hexV s[m]:=by unfold hexA;rw[←hm,getD_at g1]
   have ed:hexD s.data.toList k=hexV s[m+1]:=by unfold hexD;rw[show 2+2 * k=m+1 by omega,getD_at g2]
   have hml:(m:Int)+1<2 * (N:Int)+2:=by omega
   have hm0:m≤140737488355328:=by omega
   have HM:=Lib.hid hm;have HOS:=Lib.hid hOs;have hOb:O.size≤70368744175616:=by omega
   obtain ⟨hc,hhc⟩:∃ c,s[m]=c:=⟨_,rfl⟩
   obtain ⟨dc,hdc⟩:∃ c,s[m+1]=c:=⟨_,rfl⟩
   have l1:=hexV_le hc;have l2:=hexV_le dc;rw[hhc]at ea;rw[hdc]at ed;obtain ⟨a,ha⟩:∃ a,hexV hc=a:=⟨_,rfl⟩
   obtain ⟨b,hb⟩:∃ b,hexV dc=b:=⟨_,rfl⟩
   have H1:=Lib.hid (fun X=>hex_call hc a ha X);have H2:=Lib.hid (fun X=>hex_call dc b hb X);rw[ha]at l1 ea;rw[hb]at l2 ed;have HEA:=Lib.hid ea;have HED:=Lib.hid ed;clear ea ed hm hOs ha hb;by_cases hgood:a<16∧b<16
   ·have HQ:=Lib.hid (show okQ s.data.toList k=true by unfold okQ;rw[HEA.out,HED.out,decide_eq_true hgood]);have HV:=Lib.hid (show hexQ s.data.toList k=UInt8.ofNat (16 * a+b) by unfold hexQ;rw[HEA.out,HED.out]);obtain ⟨ga,gb⟩:=hgood;have ga2:¬((15:Int)<(a:Int)):=by omega
    have gb2:¬((15:Int)<(b:Int)):=by omega
    go_wp2;go_quiet ((first | (go_at_call 170;with_reducible exact quiet_i0 H1.out _ _) | (go_at_call 170;with_reducible exact quiet_i0 H2.out _ _)))
    have hbq:=bst hbel (below_dn wr nq);obtain ⟨W1,hW1⟩:∃ W1,W1=wr.drewN nq:=⟨_,rfl⟩
    rw[←hW1]at hbq ⊢;clear hW1 hbel;have hcv:=conv_one (P:=Tryz.prog) W1 (16 * (a:Int)+(b:Int)) Tryz.underlying41 Tryz.underlying5;have hsz1:(strOfNums [16 * (a:Int)+(b:Int)]).size=1:=by rw[strOfNums_size];rfl
    go_wp2;go_roundw
    case rel=>exact ⟨k+1,m+2,O++strOfNums [16 * (a:Int)+(b:Int)],by omega,by go_num,by have:=HM.out;omega,rfl,by rw[ByteArray.size_append,strOfNums_size,HOS.out];rfl,Lib.hid ⟨by rw[ByteArray.data_append,Array.toList_append,strOfNums_data,hh.out.1,outQ_succ,HV.out];simp only[List.map_cons,List.map_nil];rw[show (16 * (a:Int)+(b:Int)).toNat=16 * a+b by omega],by rw[allQ_succ,hh.out.2,HQ.out];rfl⟩,hbq.alloc hbq.size _⟩
    case measure=>simp only[intOf];omega
   ·have HQ:=Lib.hid (show okQ s.data.toList k=false by unfold okQ;rw[HEA.out,HED.out,decide_eq_false hgood]);have HO:=Lib.hid (vbyt_eq (byt_hex (l:=s.data.toList) (j:=k) (by rw[HNL.out];exact hlt) HQ.out));have hv:(15:Int)<(a:Int)∨(¬(15:Int)<(a:Int)∧(15:Int)<(b:Int)):=by omega
    clear hgood;go_wp2;go_quiet ((first | (go_at_call 170;with_reducible exact quiet_i0 H1.out _ _) | (go_at_call 170;with_reducible exact quiet_i0 H2.out _ _)))
    have HBq:=Lib.hid (bst HBw.out (below_dn wr nq));have HBb:=Lib.hid (HBk.out.drewN nq);obtain ⟨W1,hW1⟩:∃ W1,W1=wr.drewN nq:=⟨_,rfl⟩
    rw[←hW1]at HBq HBb ⊢;have d0:W1.cell? ⟨g,0,none⟩=some (.bool false):=HBb.out.cell 0;have d1:W1.cell? ⟨g,1,none⟩=some (.int .i64 0):=HBb.out.cell 1;have d2:W1.cell? ⟨g,2,none⟩=some (.string { data:=#[] }):=HBb.out.cell 2;have f0:=HBb.out.frozen 0;have f1:=HBb.out.frozen 1;have f2:=HBb.out.frozen 2;clear hW1 hbel;rcases hv with hv|⟨hv,hv2⟩
    all_goals
     go_wp2;have b3:=blk3V (.bool false) (.int .i64 0) (.string { data:=#[] }) HBb.out;have q0:_=some (Value.bool false):=b3.cell 0;have q1:_=some (Value.int .i64 0):=b3.cell 1;have q2:_=some (Value.string { data:=#[] }):=b3.cell 2;exact bodyPost_ret (v:=.tuple #[.agg #[.bool false,.int .i64 0,.string { data:=#[] }],.int .i64 2]) (by simp[results,Tryz.results146,go_sem,q0,q1,q2]) rfl (RetVb.mk_ HO.out (below3V _ _ _ HBq.out HG.out))
  ·obtain rfl:k=N:=by omega
   have hml:¬((m:Int)+1<2 * (k:Int)+2):=by omega
   have HE:=Lib.hid (byt_end HFM.out (by rw[HNL.out];exact hh.out.2));rw[HNL.out]at HE;have HB:=Lib.hid hh.out.1;have d0:wr.cell? ⟨g,0,none⟩=some (.bool false):=HBk.out.cell 0;have d1:wr.cell? ⟨g,1,none⟩=some (.int .i64 0):=HBk.out.cell 1;have d2:wr.cell? ⟨g,2,none⟩=some (.string { data:=#[] }):=HBk.out.cell 2;have f0:=HBk.out.frozen 0;have f1:=HBk.out.frozen 1;have f2:=HBk.out.frozen 2;by_cases h64:64<k
   ·have HO:=Lib.hid (vbyt_eq (show bytV s.data.toList=([],4) by rw[HE.out,if_pos h64]));have q3:(64:Int)<(O.size:Int):=by omega
    clear hh h64 hOs;go_wp2;have b3:=blk3V (.bool false) (.int .i64 0) (.string { data:=#[] }) HBk.out;have q0:_=some (Value.bool false):=b3.cell 0;have q1:_=some (Value.int .i64 0):=b3.cell 1;have q2:_=some (Value.string { data:=#[] }):=b3.cell 2;exact bodyPost_ret (v:=.tuple #[.agg #[.bool false,.int .i64 0,.string { data:=#[] }],.int .i64 4]) (by simp[results,Tryz.results146,go_sem,q0,q1,q2]) rfl (RetVb.mk_ HO.out (below3V _ _ _ HBw.out HG.out))
   ·have HO:=Lib.hid (vbyt_eq (show bytV s.data.toList=(O.data.toList,0) by rw[HE.out,if_neg h64,HB.out]));have q3:¬((64:Int)<(O.size:Int)):=by omega
    clear hh h64 hOs;go_wp2;have b3:=blk3V (.bool false) (.int .i64 0) (.string O) HBk.out;have q0:_=some (Value.bool false):=b3.cell 0;have q1:_=some (Value.int .i64 0):=b3.cell 1;have q2:_=some (Value.string O):=b3.cell 2;exact bodyPost_ret (v:=.tuple #[.agg #[.bool false,.int .i64 0,.string O],.int .i64 0]) (by simp[results,Tryz.results146,go_sem,q0,q1,q2]) rfl (RetVb.mk_ HO.out (below3V _ _ _ HBw.out HG.out))
end Go.Proofs.YtjnamjkdjcndiaaGreatDoor
