/-
 The contract of value.bytes.
-/
import Derived.Test.YtjnamjkdjcndiaaGreatDoorM1
import Derived.Test.YtjnamjkdjcndiaaGreatDoorM9
import Derived.Test.YtjnamjkdjcndiaaGreatDoorVarPut
import Derived.Lib.BufferRead
namespace Go.Proofs.YtjnamjkdjcndiaaGreatDoor
open Go.RowKit Go.Sort
set_option linter.unusedVariables false
def hexLL:List UInt8:=[48,49,50,51,52,53,54,55,56,57,97,98,99,100,101,102]
theorem hexI_at (c:UInt8):Lib.indexByte hexLL c=if hexV c<16 then (hexV c:Int) else -1:=by
 have:∀ n:Fin 256,Lib.indexByte hexLL (UInt8.ofNat n.val)=if hexV (UInt8.ofNat n.val)<16 then (hexV (UInt8.ofNat n.val):Int) else -1:=by decide +kernel
 have h:=this ⟨c.toNat,c.toNat_lt⟩;rwa [show UInt8.ofNat c.toNat=c from UInt8.ofNat_toNat]at h
theorem quiet_i0 {P:Program} {f:FuncId} {args:Array Value} {v:Value} (h:∀ X,Calls P f args X fun e w'=>e=.returned v∧w'=X) (w:World) (n:Nat):Calls P f args (w.drewN n) fun e w'=>e=.returned v∧∃ m,w'=w.drewN m :=
 (h _).mono fun _ _ ⟨h1,h2⟩=>⟨h1,n,h2⟩
theorem hexi_call (c:UInt8) (v:Int) (hv:Lib.indexByte hexLL c=v) (X:World):Calls Tryz.prog 68 #[.string { data:=#[48,49,50,51,52,53,54,55,56,57,97,98,99,100,101,102] },.int .u8 (c.toNat:Int)] X fun e w'=>e=.returned (.int .i64 v)∧w'=X:=by
 have h:=Tryz.strings_IndexByte { data:=#[48,49,50,51,52,53,54,55,56,57,97,98,99,100,101,102] } (c.toNat:Int) X;rw[show ({ data:=#[48,49,50,51,52,53,54,55,56,57,97,98,99,100,101,102] }:ByteArray).data.toList=hexLL from rfl,Int.toNat_natCast,show c.toNat.toUInt8=c from UInt8.ofNat_toNat,hv]at h;exact h
theorem or_hex {a b:Nat} (ha:a<16) (hb:b<16):bits .or .i64 ((a:Int) * 16) (b:Int)=16 * (a:Int)+(b:Int):=by
 have:∀ (i j:Fin 16),bits .or .i64 ((i.val:Int) * 16) (j.val:Int)=16 * (i.val:Int)+(j.val:Int):=by decide +kernel
 exact this ⟨a,ha⟩ ⟨b,hb⟩
theorem byt_form {l:List UInt8} (h:l.length<2∨l.length % 2≠0∨l.headD 0≠34∨l.getD (l.length - 1) 0≠34):bytV l=([],2):=by unfold bytV;rw[if_pos h]
theorem byt_hex {l:List UInt8} {j:Nat} (hj:j<(l.length - 2) / 2) (h:okQ l j=false):bytV l=([],2):=by
 unfold bytV
 split
 ·rfl
 ·rw[if_pos (allQ_stop hj h)]
theorem byt_end {l:List UInt8} (h:¬(l.length<2∨l.length % 2≠0∨l.headD 0≠34∨l.getD (l.length - 1) 0≠34)) (ha:allQ l ((l.length - 2) / 2)=true):bytV l=if 64<(l.length - 2) / 2 then ([],4) else (outQ l ((l.length - 2) / 2),0):=by
 unfold bytV;rw[if_neg h,ha,if_neg (by decide)]
theorem own_form1 {w:World} {base:Nat} {e:TypeId} {v:Value} {n:Nat} {xs:List Value} (h:w.ownsRow base e 1 v n xs) (hn:1≤n):∃ g cap,v=.slice (some ⟨g,0,none⟩) n cap:=by
 rcases h.2 with ⟨_,h0⟩|⟨g,cap,_,hv,_⟩
 ·omega
 ·exact ⟨g,cap,hv⟩
set_option maxRecDepth 100000 in
set_option maxHeartbeats 2000000 in
theorem bytes_any (s:ByteArray) (w:World) (hs:s.size≤140737488351232):Calls Tryz.prog 112 #[.string s] w (RetDec w (bytV s.data.toList)):=by
 by_cases hz:s.size<2
 ·have HO:=Lib.hid (byt_form (l:=s.data.toList) (.inl (by rw[size_data];exact hz)));go_enter Tryz.func112,Tryz.ntmps112
  go_wp2;go_ret2
  exact RetDec.mk_ (by rw[HO.out]) (by rw[HO.out]) (Below.refl _ _)
 obtain ⟨n,hn⟩:∃ n,s.size=n+2:=⟨s.size - 2,by omega⟩
 clear hz;by_cases hodd:n % 2=0
 case neg =>
  have HO:=Lib.hid (byt_form (l:=s.data.toList) (.inr (.inl (by rw[size_data];omega))));have q0:((n:Int) % 2 != 0)=true:=by rw[bne_iff_ne];omega
  go_enter Tryz.func112,Tryz.ntmps112
  go_wp2;go_ret2
  exact RetDec.mk_ (by rw[HO.out]) (by rw[HO.out]) (Below.refl _ _)
 have q0:((n:Int) % 2 != 0)=false:=by rw[bne_eq_false_iff_eq];omega
 have h0:0<s.size:=by omega
 have h1:n+1<s.size:=by omega
 by_cases hq:(s[0].toNat:Int)=34
 case neg =>
  have HO:=Lib.hid (byt_form (l:=s.data.toList) (.inr (.inr (.inl (by rw[head_data s h0];intro e;exact hq (by rw[e];rfl))))));have q1:((s[0].toNat:Int) != 34)=true:=by rw[bne_iff_ne];exact hq
  clear hq;go_enter Tryz.func112,Tryz.ntmps112
  go_wp2;go_ret2
  exact RetDec.mk_ (by rw[HO.out]) (by rw[HO.out]) (Below.refl _ _)
 have q1:((s[0].toNat:Int) != 34)=false:=by rw[bne_eq_false_iff_eq];exact hq
 by_cases hq2:(s[n+1].toNat:Int)=34
 case neg =>
  have HO:=Lib.hid (byt_form (l:=s.data.toList) (.inr (.inr (.inr (by rw[size_data,show s.size - 1=n+1 by omega,getD_at h1];intro e;exact hq2 (by rw[e];rfl))))));have q2:((s[n+1].toNat:Int) != 34)=true:=by rw[bne_iff_ne];exact hq2
  clear hq hq2;go_enter Tryz.func112,Tryz.ntmps112
  go_wp2;go_ret2
  exact RetDec.mk_ (by rw[HO.out]) (by rw[HO.out]) (Below.refl _ _)
 have q2:((s[n+1].toNat:Int) != 34)=false:=by rw[bne_eq_false_iff_eq];exact hq2
 have HFM:=Lib.hid (show ¬(s.data.toList.length<2∨s.data.toList.length % 2≠0∨s.data.toList.headD 0≠34∨s.data.toList.getD (s.data.toList.length - 1) 0≠34) by
  rw[size_data,head_data s h0,show s.size - 1=n+1 by omega,getD_at h1];have e34:(34:UInt8).toNat=34:=rfl;rintro (h|h|h|h)
  ·omega
  ·omega
  ·exact h (UInt8.toNat_inj.1 (by omega))
  ·exact h (UInt8.toNat_inj.1 (by omega)))
 obtain ⟨N,rfl⟩:∃ N,n=2 * N:=⟨n / 2,by omega⟩
 have HNL:=Lib.hid (show (s.data.toList.length - 2) / 2=N by rw[size_data];omega);have hN:N≤70368744175616:=by omega
 clear hq hq2 hodd;go_enter Tryz.func112,Tryz.ntmps112
 go_wp2;go_loopw [5,6] (fun b i wr=>∃ (k m:Nat) (xs:List Int),k≤N∧i=.int .i64 (m:Int)∧m=1+2 * k∧wr.ownsRow w.heap.size 5 1 b xs.length (ints8 xs)∧Below w.heap.size w wr∧xs.length=k∧Hid (byt xs=outQ s.data.toList k∧allQ s.data.toList k=true)∧Hid (k=0→b=.slice none 0 0)) (fun _ i _=>2 * N+2 - (intOf i).toNat)
 case atStart=>exact ⟨0,1,[],by omega,rfl,rfl,World.ownsRow_nil _ _ _ _,Below.refl _ _,rfl,Lib.hid ⟨rfl,rfl⟩,Lib.hid fun _=>rfl⟩
 case round =>
  obtain ⟨k,m,xs,hk,rfl,hm,hown,hbel,hxl,hh,hnil⟩:=hrel;by_cases hlt:k<N
  ·have g1:m<s.size:=by omega
   have g2:m+1<s.size:=by omega
   have ea:hexA s.data.toList k=hexV s[m]:=by unfold hexA;rw[←hm,getD_at g1]
   have ed:hexD s.data.toList k=hexV s[m+1]:=by unfold hexD;rw[show 2+2 * k=m+1 by omega,getD_at g2]
   have hml:(m:Int)≤2 * (N:Int):=by omega
   have hm0:m≤140737488355328:=by omega
   have HM:=Lib.hid hm;have HXL:=Lib.hid hxl;have hxb:xs.length≤70368744175616:=by omega
   obtain ⟨hc,hhc⟩:∃ c,s[m]=c:=⟨_,rfl⟩
   obtain ⟨dc,hdc⟩:∃ c,s[m+1]=c:=⟨_,rfl⟩
   have i1:=hexI_at hc;have i2:=hexI_at dc;obtain ⟨v1,hv1⟩:∃ v,Lib.indexByte hexLL hc=v:=⟨_,rfl⟩
   obtain ⟨v2,hv2⟩:∃ v,Lib.indexByte hexLL dc=v:=⟨_,rfl⟩
   have H1:=Lib.hid (fun X=>hexi_call hc v1 hv1 X);have H2:=Lib.hid (fun X=>hexi_call dc v2 hv2 X);rw[hv1]at i1;rw[hv2]at i2;rw[hhc]at ea;rw[hdc]at ed;have HEA:=Lib.hid ea;have HED:=Lib.hid ed;obtain ⟨A',c',rfl,_,_⟩:=(Sl.of_own hown).form;clear hv1 hv2 ea ed hm hxl;by_cases hgood:hexV hc<16∧hexV dc<16
   ·rw[if_pos hgood.1]at i1;rw[if_pos hgood.2]at i2;have HQ:=Lib.hid (show okQ s.data.toList k=true by unfold okQ;rw[HEA.out,HED.out,decide_eq_true hgood]);have HV:=Lib.hid (show hexQ s.data.toList k=UInt8.ofNat (16 * hexV hc+hexV dc) by unfold hexQ;rw[HEA.out,HED.out]);obtain ⟨a,ha⟩:∃ a,hexV hc=a:=⟨_,rfl⟩
    obtain ⟨b,hb⟩:∃ b,hexV dc=b:=⟨_,rfl⟩
    rw[ha]at i1 hgood HV;rw[hb]at i2 hgood HV;subst i1 i2;obtain ⟨ga,gb⟩:=hgood;have hor:=or_hex ga gb;clear ha hb;go_wp2;go_quiet ((first | (go_at_call 68;exact quiet_i0 H1.out _ _) | (go_at_call 68;exact quiet_i0 H2.out _ _)))
    have hbq:=below_dn wr nq;have hownq:=own_below hown hbq;have hbelq:=bst hbel hbq;obtain ⟨W1,hW1⟩:∃ W1,W1=wr.drewN nq:=⟨_,rfl⟩
    rw[←hW1]at hownq hbelq ⊢;have hw16:wrap64 ((a:Int) * 16)=(a:Int) * 16:=IntWalk.wrap64_in _ ⟨by omega,by omega⟩;clear hW1 hbq hown hbel;go_wp2_with (at_builtin;go_must (refine app1 _ _ hownq hbelq (Nat.le_refl _) hbelq.size Tryz.underlying41 info_u8 rfl (by decide) rfl (oneInt _ _) (by omega) (by omega) rfl rfl rfl rfl ?_))
    intro g cap w1 hown1 hbel1 _ _
    have hown2:=own_ints8 hown1;clear hown1 hownq hbelq;go_wp2;go_roundw
    case rel=>exact ⟨k+1,m+2,_,by omega,by go_num,by have:=HM.out;omega,hown2,hbel1,by rw[List.length_append];have:=HXL.out;simp;omega,Lib.hid ⟨by rw[outQ_succ,HV.out,←hh.out.1];unfold byt;rw[List.map_append,List.map_singleton,show (16 * (a:Int)+(b:Int)).toNat=16 * a+b by omega],by rw[allQ_succ,hh.out.2,HQ.out];rfl⟩,Lib.hid fun h=>(by omega)⟩
    case measure=>simp only[intOf];omega
   ·have HQ:=Lib.hid (show okQ s.data.toList k=false by unfold okQ;rw[HEA.out,HED.out,decide_eq_false hgood]);have HO:=Lib.hid (byt_hex (l:=s.data.toList) (j:=k) (by rw[HNL.out];exact hlt) HQ.out);have hv:v1<0∨(¬v1<0∧v2<0):=by
     by_cases h1:hexV hc<16
     ·rw[if_pos h1]at i1;rw[if_neg (fun h2=>hgood ⟨h1,h2⟩)]at i2;exact .inr ⟨by omega,by omega⟩
     ·rw[if_neg h1]at i1;exact .inl (by omega)
    clear hgood i1 i2;go_wp2;go_quiet ((first | (go_at_call 68;exact quiet_i0 H1.out _ _) | (go_at_call 68;exact quiet_i0 H2.out _ _)))
    have hbelq:=bst hbel (below_dn wr nq);rcases hv with hv|⟨hv,hv2⟩
    all_goals
     go_wp2;go_ret2
     exact RetDec.mk_ (by rw[HO.out]) (by rw[HO.out]) hbelq
  ·obtain rfl:k=N:=by omega
   have hml:¬((m:Int)≤2 * (k:Int)):=by omega
   have HE:=Lib.hid (byt_end HFM.out (by rw[HNL.out];exact hh.out.2));rw[HNL.out]at HE;have HB:=Lib.hid hh.out.1;by_cases h0:k=0
   ·have hb0:=hnil.out h0;have hx0:xs=[]:=List.eq_nil_of_length_eq_zero (by omega);have HO:=Lib.hid (show bytV s.data.toList=([],0) by rw[HE.out,if_neg (by omega),h0];rfl);subst hb0;have hcv:=fun (W:World)=>Lib.run_convert_nil_bytes (P:=Tryz.prog) W 41 9 5 0 Tryz.underlying41 Tryz.underlying5 Tryz.underlying9
    clear h0 hx0 hown hh hnil hxl;go_wp2;go_ret2
    exact RetDec.mk_ (by rw[HO.out]) (by rw[HO.out]) hbel
   ·obtain ⟨gg,cap,rfl⟩:=own_form1 hown (by omega);by_cases h64:64<k
    ·have HO:=Lib.hid (show bytV s.data.toList=([],4) by rw[HE.out,if_pos h64]);have q3:(64:Int)<(xs.length:Int):=by omega
     clear h0 hown hh hnil h64 hxl;go_wp2;go_ret2
     exact RetDec.mk_ (by rw[HO.out]) (by rw[HO.out]) hbel
    ·have HO:=Lib.hid (show bytV s.data.toList=(outQ s.data.toList k,0) by rw[HE.out,if_neg h64]);have q3:¬((64:Int)<(xs.length:Int)):=by omega
     have hcv:=conv_own (P:=Tryz.prog) Tryz.underlying41 Tryz.underlying5 hown;clear h0 hown hh hnil h64 hxl;go_wp2;go_ret2
     exact RetDec.mk_ (by rw[HO.out,strOf_byt];exact HB.out) (by rw[HO.out]) hbel
end Go.Proofs.YtjnamjkdjcndiaaGreatDoor
