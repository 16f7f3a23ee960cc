/-
  Words, plain laws and contracts on which the walks lean, in one text.
-/
import Derived.Test.YtjnamjkdjcndiaaGreatDoorM15
import Derived.Test.YtjnamjkdjcndiaaGreatDoorM12
namespace Go.Proofs.YtjnamjkdjcndiaaGreatDoor
open Go.RowKit Go.Sort

theorem rett_det {P:Program} {f:FuncId} {args:Array Value} {w:World} {L:List UInt8} {S:ByteArray} (h:Calls P f args w (RetT w L)) (hS:S.data.toList=L):Calls P f args w fun e w'=>e=.returned (.string S)∧Below w.heap.size w w' :=
 h.mono fun e w' ⟨S',h1,h2,h3⟩=>⟨by rw[h1,bytes_ext (h2.trans hS.symm)],h3⟩
set_option maxRecDepth 100000 in
set_option maxHeartbeats 8000000 in
theorem rtext_any (v pv:Value) (key:Int) (cs:List Col) (p:List Nd) (w0:World) (he:PEnv w0 v cs pv p) (hk:POk cs p) :
  ∀ (i:Nat),i<p.length→sizI cs p i≤65536→∀ (w:World),Below w0.heap.size w0 w →
  Calls Tryz.prog 35 #[.agg #[v,.int .i64 key],pv,.int .i64 (i:Int)] w (RetT w (txtI cs p i)):=by
 obtain ⟨A,cA,rfl,hc1,hc2⟩:=he.hs.form;obtain ⟨AP,cP,rfl,hc3,hc4⟩:=he.hp.form;have HE:=Lib.hid he;have HK:=Lib.hid hk;have hp64:p.length≤64:=hk.ok.len;clear he hk;intro i
 induction i using Nat.strongRecOn with
 | _ i ih =>
  intro hi hsz w hbw
  have IH:=Lib.hid ih;have qi:decide (i<p.length)=true:=decide_eq_true hi;have pi':(i<p.length)=True:=eq_true hi;obtain ⟨N0,hN0⟩:∃ N,w.heap.size=N:=⟨_,rfl⟩
  obtain ⟨W,hW⟩:∃ W,W=w.alloc (.cells #[.slice A cs.length cA,.int .i64 key] 28):=⟨_,rfl⟩
  have hwW:Below w.heap.size w W:=by rw[hW];exact (Below.refl _ _).alloc (Nat.le_refl _) _
  have bS:Blk W N0 28 #[.slice A cs.length cA,.int .i64 key]:=by rw[hW,←hN0];exact Blk.new _ _ _
  obtain ⟨ad,x,u,px,rfl,hx,hpx,hE,hu⟩:=(HE.out.hp.below (hbw.trans (hwW.mono (hbw.size)))).nd_load rfl hi;obtain ⟨AU,cU,rfl,_,_⟩:=hu.form;obtain ⟨hplt,c0,c1,c2,c3,c4,c5,c6,c7⟩:=hE;have HX:=Lib.hid hx;have hn:=HK.out.ok.node i x hx;obtain ⟨o1,o2⟩:=node_op hn;have HSUB:=Lib.hid (fun h=>node_sub hn h);obtain ⟨hsT,hsub⟩:=siz_txt HK.out.ok i x hx hsz;have HSS:=Lib.hid hsub;obtain ⟨N1,hN1⟩:∃ N,W.heap.size=N:=⟨_,rfl⟩
  obtain ⟨V,hV⟩:∃ V,V=W.alloc (.cells #[.int .i64 x.op,.int .i64 x.col,.bool x.v.nu,.int .i64 x.v.n,.string x.v.s,.slice AU x.l.length cU,.int .i64 x.a,.int .i64 x.b] 66):=⟨_,rfl⟩
  have hWV:Below W.heap.size W V:=by rw[hV];exact (Below.refl _ _).alloc (Nat.le_refl _) _
  have hwV:Below w.heap.size w V:=bst hwW hWV;have VN:=Lib.hid (show Blk V N1 66 #[.int .i64 x.op,.int .i64 x.col,.bool x.v.nu,.int .i64 x.v.n,.string x.v.s,.slice AU x.l.length cU,.int .i64 x.a,.int .i64 x.b] by rw[hV,←hN1];exact Blk.new _ _ _);have VS:=Lib.hid (bS.below hWV bS.lt);have VU:=Lib.hid (hu.below hWV);have VB:=Lib.hid hwV;have V0:=Lib.hid (hbw.trans (hwV.mono hbw.size));clear hx hn hsT hsub hwW bS hu hWV hwV hbw ih;go_enter Tryz.func35,Tryz.ntmps35
  go_upto_region 1 with (fail)
  rw[←hW];try simp only[hN0]
  clear hW;go_upto_region 2 with (fail)
  rw[←hV];try simp only[hN1]
  clear hV hN0 hN1 c0 c1 c2 c3 c4 c5 c6 c7 hpx hplt;by_cases h9:x.op<9
  ·have q11:(x.op==11)=false:=by rw[beq_eq_false_iff_ne];omega
   have q9:(x.op==9)=false:=by rw[beq_eq_false_iff_ne];omega
   have q10:(x.op==10)=false:=by rw[beq_eq_false_iff_ne];omega
   have HLF:=Lib.hid (own_at_ (key:=key) (w:=V) HE.out HK.out HX.out h9 VU.out V0.out);have HTX:=Lib.hid (txt_leaf (cs:=cs) HX.out h9);clear h9;have bb:=VN.out;have n0:=bb.cell 0;have n1:=bb.cell 1;have n2:=bb.cell 2;have n3:=bb.cell 3;have n4:=bb.cell 4;have n5:=bb.cell 5;have n6:=bb.cell 6;have n7:=bb.cell 7;simp only[jA,jZ,jS]at n0 n1 n2 n3 n4 n5 n6 n7;clear bb;have bb:=VS.out;have s0:=bb.cell 0;have s1:=bb.cell 1;simp only[jA,jZ,jS]at s0 s1;clear bb;go_wp2_with fail
   refine HLF.out.mono ?_;rintro _ w3 ⟨S,rfl,hS,hb3⟩;have HS:=Lib.hid hS;have B3:=Lib.hid (bst VB.out hb3);clear hb3 HLF hS;go_wp2;go_ret;exact RetT.mk_ (by rw[HS.out,HTX.out]) B3.out
  ·obtain ⟨a0,a1,hb⟩:=HSUB.out (by omega);obtain ⟨ea,hea⟩:=Int.eq_ofNat_of_zero_le a0;have hak:ea<i:=by omega
   obtain ⟨hs6,hs2⟩:=HSS.out (by omega);have hta:x.a.toNat=ea:=by omega
   rw[hta]at hs6 hs2;have hea':x.a=(ea:Int):=hea;obtain ⟨SA,hSA⟩:∃ S:ByteArray,S.data.toList=txtI cs p ea:=⟨⟨(txtI cs p ea).toArray⟩,by simp⟩
   have HSA:=Lib.hid hSA;have hSAs:SA.size≤65536:=by
    rw[size_of hSA,(siz_txt HK.out.ok ea _ (List.getElem?_eq_getElem (show ea<p.length by omega)) (by omega)).1];omega
   have HTA:=Lib.hid (fun X (hX:Below w0.heap.size w0 X)=>rett_det (IH.out ea (by omega) (by omega) (by omega) X hX) HSA.out);by_cases h11:x.op=11
   ·have HTX:=Lib.hid (show txtI cs p i=[40,110,111,116,32]++txtI cs p ea ++ [41] by have h:=txt_not (cs:=cs) HX.out h11 (by omega);rw[hta]at h;exact h);have HOP:=Lib.hid h11;have HEA:=Lib.hid hea';clear a0 a1 hb hea hta hs6 hs2 h9 h11 hea' hSA;have bb:=VN.out;have n0:=bb.cell 0;have n1:=bb.cell 1;have n2:=bb.cell 2;have n3:=bb.cell 3;have n4:=bb.cell 4;have n5:=bb.cell 5;have n6:=bb.cell 6;have n7:=bb.cell 7;simp only[jA,jZ,jS]at n0 n1 n2 n3 n4 n5 n6 n7;clear bb;have bb:=VS.out;have s0:=bb.cell 0;have s1:=bb.cell 1;simp only[jA,jZ,jS]at s0 s1;clear bb;rw[HOP.out]at n0;rw[HEA.out]at n6;go_wp2_with fail
    refine (HTA.out _ V0.out).mono ?_;rintro _ w3 ⟨rfl,hb3⟩;have B3:=Lib.hid (bst VB.out hb3);clear hb3 HTA;clear n0 n1 n2 n3 n4 n5 n6 n7;clear s0 s1;go_wp2;go_ret;exact RetT.mk_ (by rw[HTX.out];simp[ByteArray.data_append,HSA.out]) B3.out
   ·obtain ⟨b0,b1⟩:=hb h11;obtain ⟨eb,heb⟩:=Int.eq_ofNat_of_zero_le b0;have hbk:eb<i:=by omega
    have htb:x.b.toNat=eb:=by omega
    have hs2:=hs2 h11;rw[htb]at hs2;have heb':x.b=(eb:Int):=heb;obtain ⟨SB,hSB⟩:∃ S:ByteArray,S.data.toList=txtI cs p eb:=⟨⟨(txtI cs p eb).toArray⟩,by simp⟩
    have HSB:=Lib.hid hSB;have hSBs:SB.size≤65536:=by
     rw[size_of hSB,(siz_txt HK.out.ok eb _ (List.getElem?_eq_getElem (show eb<p.length by omega)) (by omega)).1];omega
    have HTX:=Lib.hid (show txtI cs p i=(40::wordP x.op ++ [32])++txtI cs p ea ++ [32]++txtI cs p eb ++ [41] by have h:=txt_two (cs:=cs) HX.out h9 h11 (by omega) (by omega);rw[hta,htb]at h;exact h);obtain ⟨B0,hB0⟩:∃ B:ByteArray,B=⟨(wordP x.op).toArray⟩:=⟨_,rfl⟩
    have HBW:=Lib.hid (show B0.data.toList=wordP x.op by rw[hB0]);have hwl:B0.size≤4:=by rw[size_of HBW.out];exact wordP_len x.op
    have A0:=Lib.hid (reg_n (w:=V) (fun X _=>(rword_any x.op o1 o2 X).mono fun e w' h=>show e=.returned (.string B0)∧Below X.heap.size X w' by rw[hB0];exact ⟨h.1,h.2 ▸ Below.refl _ _⟩));have A1:=Lib.hid (reg_n (w:=V) (fun X hX=>HTA.out X (V0.out.trans (hX.mono V0.out.size))));have A2:=Lib.hid (reg_n (w:=V) (fun X hX=>rett_det (IH.out eb (by omega) (by omega) (by omega) X (V0.out.trans (hX.mono V0.out.size))) HSB.out));have q11:(x.op==11)=false:=by simpa using h11
    have h910:x.op=9∨x.op=10:=by omega
    clear a0 a1 b0 b1 hb hea heb hta htb hs6 hs2 h9 h11 hSA hSB hB0;have f0:=fun d os=>(VN.out.below (below_regrown V d os) VN.out.lt).cell 0
    have f1:=fun d os=>(VN.out.below (below_regrown V d os) VN.out.lt).cell 1
    have f2:=fun d os=>(VN.out.below (below_regrown V d os) VN.out.lt).cell 2
    have f3:=fun d os=>(VN.out.below (below_regrown V d os) VN.out.lt).cell 3
    have f4:=fun d os=>(VN.out.below (below_regrown V d os) VN.out.lt).cell 4
    have f5:=fun d os=>(VN.out.below (below_regrown V d os) VN.out.lt).cell 5
    have f6:=fun d os=>(VN.out.below (below_regrown V d os) VN.out.lt).cell 6
    have f7:=fun d os=>(VN.out.below (below_regrown V d os) VN.out.lt).cell 7
    have g0:=fun d os=>(VS.out.below (below_regrown V d os) VS.out.lt).cell 0
    have g1:=fun d os=>(VS.out.below (below_regrown V d os) VS.out.lt).cell 1
    simp only[jA,jZ,jS]at f0 f1 f2 f3 f4 f5 f6 f7 g0 g1;simp only[hea']at f6;simp only[heb']at f7;clear hea' heb';rcases h910 with h9|h9
    ·have HOP:=Lib.hid h9;clear h9;have bb:=VN.out;have n0:=bb.cell 0;have n1:=bb.cell 1;have n2:=bb.cell 2;have n3:=bb.cell 3;have n4:=bb.cell 4;have n5:=bb.cell 5;have n6:=bb.cell 6;have n7:=bb.cell 7;simp only[jA,jZ,jS]at n0 n1 n2 n3 n4 n5 n6 n7;clear bb;rw[HOP.out]at n0;simp only[HOP.out]at f0 A0 q11;go_upto_region 7 with (fail)
     clear n0 n1 n2 n3 n4 n5 n6 n7;refine wp_region_quiet_below (by kernel_rfl) (by kernel_rfl) ?_
     repeat (go_big_quiet_step ((first | (with_reducible exact A0.out _ _) | (with_reducible exact A1.out _ _) | (with_reducible exact A2.out _ _))))
     refine wpQuiet_nil ?_
     intro _ hw'
     obtain ⟨⟨dq,osq⟩,hw''⟩:=hw';subst hw'';have ZB:=Lib.hid (bst VB.out (below_regrown V dq osq));clear f0 f1 f2 f3 f4 f5 f6 f7 g0 g1 A0 A1 A2 HTA;go_wp2;go_ret;exact RetT.mk_ (by rw[HTX.out];simp[ByteArray.data_append,HSA.out,HSB.out,HBW.out]) ZB.out
    ·have HOP:=Lib.hid h9;clear h9;have bb:=VN.out;have n0:=bb.cell 0;have n1:=bb.cell 1;have n2:=bb.cell 2;have n3:=bb.cell 3;have n4:=bb.cell 4;have n5:=bb.cell 5;have n6:=bb.cell 6;have n7:=bb.cell 7;simp only[jA,jZ,jS]at n0 n1 n2 n3 n4 n5 n6 n7;clear bb;rw[HOP.out]at n0;simp only[HOP.out]at f0 A0 q11;go_upto_region 7 with (fail)
     clear n0 n1 n2 n3 n4 n5 n6 n7;refine wp_region_quiet_below (by kernel_rfl) (by kernel_rfl) ?_
     repeat (go_big_quiet_step ((first | (with_reducible exact A0.out _ _) | (with_reducible exact A1.out _ _) | (with_reducible exact A2.out _ _))))
     refine wpQuiet_nil ?_
     intro _ hw'
     obtain ⟨⟨dq,osq⟩,hw''⟩:=hw';subst hw'';have ZB:=Lib.hid (bst VB.out (below_regrown V dq osq));clear f0 f1 f2 f3 f4 f5 f6 f7 g0 g1 A0 A1 A2 HTA;go_wp2;go_ret;exact RetT.mk_ (by rw[HTX.out];simp[ByteArray.data_append,HSA.out,HSB.out,HBW.out]) ZB.out

set_option maxRecDepth 100000 in
set_option maxHeartbeats 8000000 in
theorem rfmt_any (v pv:Value) (key:Int) (cs:List Col) (p:List Nd) (w:World) (he:PEnv w v cs pv p) (hd:PBd cs p) :
  Calls Tryz.prog 15 #[.agg #[v,.int .i64 key],pv] w (RetDec w (fmtP cs key p)):=by
 obtain ⟨A,cA,rfl,hc1,hc2⟩:=he.hs.form;obtain ⟨AP,cP,rfl,hc3,hc4⟩:=he.hp.form;have HE:=Lib.hid he;have HD:=Lib.hid hd;have hpl:=hd.pl;obtain ⟨N0,hN0⟩:∃ N,w.heap.size=N:=⟨_,rfl⟩
 obtain ⟨W,hW⟩:∃ W,W=w.alloc (.cells #[.slice A cs.length cA,.int .i64 key] 28):=⟨_,rfl⟩
 have hb0:Below w.heap.size w W:=by rw[hW];exact (Below.refl _ _).alloc (Nat.le_refl _) _
 have BS:=Lib.hid (show Blk W N0 28 #[.slice A cs.length cA,.int .i64 key] by rw[hW,←hN0];exact Blk.new _ _ _);have HB0:=Lib.hid hb0;have HC:=Lib.hid (rpchk_any (.slice A cs.length cA) (.slice AP p.length cP) key cs p W (he.hs.below hb0) (he.hp.below hb0) hd.cl hd.pl hd.nm (fun x hx=>(hd.rv x hx).2.2) (fun x hx e he=>(hd.rl x hx e he).2.2));have HF1:=Lib.hid (fmtP_err (cs:=cs) (key:=key) (p:=p));have HF2:=Lib.hid (fmtP_nil (cs:=cs) (key:=key) (p:=p));have HF3:=Lib.hid (fun m=>fmtP_full (cs:=cs) (key:=key) (p:=p) (m:=m));have HF4:=Lib.hid (fun m=>fmtP_text (cs:=cs) (key:=key) (p:=p) (m:=m));have HPK:=Lib.hid (fun h=>hd.pok (key:=key) h);obtain ⟨E,hE⟩:∃ E,pchkV cs key p=E:=⟨_,rfl⟩
 rw[hE]at HC HF1 HF2 HF3 HF4 HPK;clear he hd hb0 hE;go_enter Tryz.func15,Tryz.ntmps15
 go_upto_region 1 with (fail)
 rw[←hW];try simp only[hN0]
 clear hW;have bb:=BS.out;have s0:=bb.cell 0;have s1:=bb.cell 1;simp only[jA,jZ,jS]at s0 s1;clear bb;go_wp2_with fail
 refine HC.out.mono ?_;rintro _ w2 ⟨rfl,hb2⟩;have HB2:=Lib.hid (bst HB0.out hb2);have BS2:=Lib.hid (BS.out.below hb2 BS.out.lt);clear hb2 HC;clear s0 s1;by_cases hE:E=0
 case neg =>
  have q1:(E != 0)=true:=by simpa using hE
  have HF:=Lib.hid (HF1.out hE);clear hE HF1 HF2 HF3 HF4 HPK;go_wp2;go_ret2
  exact RetDec.of HF.out rfl HB2.out
 case pos =>
 subst hE;have HK:=Lib.hid (HPK.out rfl);by_cases h0:p.length=0
 ·have q2:((p.length:Int)==0)=true:=by simp[h0]
  have q2':(p.length==0)=true:=by simp[h0]
  have HF:=Lib.hid (HF2.out rfl h0);clear h0 HF1 HF2 HF3 HF4 HPK;go_wp2;go_ret2
  exact RetDec.of HF.out rfl HB2.out
 have q2:((p.length:Int)==0)=false:=by rw[beq_eq_false_iff_ne];omega
 have q2':(p.length==0)=false:=by simpa using h0
 obtain ⟨m,hm⟩:∃ m,p.length=m+1:=⟨p.length - 1,by omega⟩
 have hp64:p.length≤64:=HK.out.ok.len;have HM:=Lib.hid hm;have wm:IntKind.i64.wrap ((p.length:Int) - 1)=(m:Int):=by rw[hm];push_cast;rw[show (m:Int)+1 - 1=m by omega];exact IntWalk.i64_in _ (by omega)
 have qm0:decide (m<p.length)=true:=decide_eq_true (by omega);have pm0:(m<p.length)=True:=eq_true (by omega);obtain ⟨i0,hi,hz0,hz1,hz2⟩:=info_parts info_intP;obtain ⟨W2,hrun,r1,r2⟩:=run_make_full (P:=Tryz.prog) w2 w2.heap.size 36 3 i0 (.int .i64 0) 1 Tryz.underlying36 hi hz0 hz1 .i64 .i64 p.length (by rw[hz2];omega) (by unfold maxLen;omega) (Nat.le_refl _);have hb1:Below w2.heap.size w2 W2:=⟨r2.os,r2.tape,r2.output,r2.size,fun i hi=>r2.block i hi (by simp)⟩
 rw[made_ints]at r1;obtain ⟨G,hG⟩:∃ G,w2.heap.size=G:=⟨_,rfl⟩
 rw[hG]at hrun r1;have hWG:N0<G:=by rw[←hG];exact BS2.out.lt
 have HO:=Lib.hid (own_mono r1 (show w.heap.size≤G by omega));have HS:=Lib.hid (BS2.out.below hb1 BS2.out.lt);have HB:=Lib.hid (bst HB2.out hb1);clear hi hz0 hz1 hz2 r1 r2 hb1 hm h0;go_wp2;try simp only[hG]
 clear hrun hG;go_loopw [24] (fun i wr=>∃ (k:Nat) (zs:List Int),k≤p.length∧i=.int .i64 (k:Int)∧Hid (SzTo cs p zs k)∧wr.ownsRow w.heap.size 3 1 (.slice (some ⟨G,0,none⟩) p.length p.length) p.length (ints zs)∧Blk wr N0 28 #[.slice A cs.length cA,.int .i64 key]∧Below w.heap.size w wr) (fun i _=>p.length - (intOf i).toNat)
 case atStart=>exact ⟨0,List.replicate p.length 0,by omega,rfl,Lib.hid ⟨by simp,fun j hj=>absurd hj (Nat.not_lt_zero _)⟩,HO.out,HS.out,HB.out⟩
 case round =>
  obtain ⟨k,zs,hk',rfl,hz,hown,bS,hbel⟩:=hrel;by_cases hlt:k<p.length
  ·obtain ⟨ad,x,u,px,rfl,hx,hpx,hE,hu⟩:=(HE.out.hp.below hbel).nd_load rfl hlt;obtain ⟨AU,cU,rfl,_,_⟩:=hu.form;obtain ⟨hplt,c0,c1,c2,c3,c4,c5,c6,c7⟩:=hE;have HLT:=Lib.hid hlt;have qm:decide (k<p.length)=true:=decide_eq_true hlt;have pk:(k<p.length)=True:=eq_true hlt;have HX:=Lib.hid hx;have hn:=HK.out.ok.node k x hx;obtain ⟨o1,o2⟩:=node_op hn;have HSUB:=Lib.hid (fun h=>node_sub hn h);obtain ⟨N5,hN5⟩:∃ N,wr.heap.size=N:=⟨_,rfl⟩
   obtain ⟨V,hV⟩:∃ V,V=wr.alloc (.cells #[.int .i64 x.op,.int .i64 x.col,.bool x.v.nu,.int .i64 x.v.n,.string x.v.s,.slice AU x.l.length cU,.int .i64 x.a,.int .i64 x.b] 66):=⟨_,rfl⟩
   have hbV:Below wr.heap.size wr V:=by rw[hV];exact (Below.refl _ _).alloc (Nat.le_refl _) _
   have VB:=Lib.hid (show Below w.heap.size w V by rw[hV];exact hbel.alloc hbel.size _);have VE:=Lib.hid (show Blk V N5 66 #[.int .i64 x.op,.int .i64 x.col,.bool x.v.nu,.int .i64 x.v.n,.string x.v.s,.slice AU x.l.length cU,.int .i64 x.a,.int .i64 x.b] by rw[hV,←hN5];exact Blk.new _ _ _);have VS:=Lib.hid (bS.below hbV bS.lt);have VO:=Lib.hid (own_below hown hbV);have VU:=Lib.hid (hu.below hbV);have hGN:G<N5:=by rw[←hN5];exact (hown.lt G rfl).2
   obtain ⟨zo,hzo⟩:∃ zo,zs[k]?=some zo:=⟨_,List.getElem?_eq_getElem (by rw[hz.out.1];exact hlt)⟩
   have HZO:=Lib.hid hzo;have hwG:w.heap.size≤G:=by omega
   clear hx hbel hbV hu hown bS hn hzo;go_upto_region 10 with (fail)
   rw[←hV];try simp only[hN5]
   clear hV hN5 c0 c1 c2 c3 c4 c5 c6 c7 hpx hplt;by_cases h9:x.op<9
   ·have q11:(x.op==11)=false:=by rw[beq_eq_false_iff_ne];omega
    have q9:(x.op==9)=false:=by rw[beq_eq_false_iff_ne];omega
    have q10:(x.op==10)=false:=by rw[beq_eq_false_iff_ne];omega
    have HLF:=Lib.hid (own_at_ (key:=key) (w:=V) HE.out HK.out HX.out h9 VU.out VB.out);obtain ⟨_,hll⟩:=leaf_at (key:=key) (w:=V) HE.out HK.out HX.out h9 VU.out VB.out;have HSZ:=Lib.hid (siz_leaf (cs:=cs) HX.out h9);clear h9;have bb:=VE.out;have n0:=bb.cell 0;have n1:=bb.cell 1;have n2:=bb.cell 2;have n3:=bb.cell 3;have n4:=bb.cell 4;have n5:=bb.cell 5;have n6:=bb.cell 6;have n7:=bb.cell 7;simp only[jA,jZ,jS]at n0 n1 n2 n3 n4 n5 n6 n7;clear bb;have bb:=VS.out;have s0:=bb.cell 0;have s1:=bb.cell 1;simp only[jA,jZ,jS]at s0 s1;clear bb;go_wp2_with fail
    refine HLF.out.mono ?_;rintro _ w4 ⟨S,rfl,hS,hb4⟩;have hSl:=size_of hS;obtain ⟨Ln,hLn⟩:∃ q,S.size=q:=⟨_,rfl⟩
    have hLn2:Ln≤4300:=by omega
    have HLn:=Lib.hid (show (leafP cs x).length=Ln by omega);have O4:=Lib.hid (own_below VO.out hb4);have S4:=Lib.hid (VS.out.below hb4 VS.out.lt);have B4:=Lib.hid (bst VB.out hb4);have hLn':=hLn;clear hb4 HLF hS hSl hll;clear n0 n1 n2 n3 n4 n5 n6 n7;clear s0 s1;have kc:=own_cellI O4.out HZO.out;have kf:=own_frozI O4.out k;have kg:=grownBy_set w4 ⟨G,k,none⟩ (.int .i64 ((Ln:Int)));obtain ⟨Y5,hY5⟩:∃ Y,w4.setCell ⟨G,k,none⟩ (.int .i64 ((Ln:Int)))=Y:=⟨_,rfl⟩
    have O5:=Lib.hid (own_setI (j:=k) (z:=(Ln:Int)) O4.out);rw[hY5]at O5 kg;have S5:=Lib.hid (S4.out.row kg (show N0≠G by omega));have B5:=Lib.hid (below_row B4.out kg hwG B4.out.size);clear kg;go_upto_region 17 with (fail)
    try simp only[hLn]
    try rw[hY5]
    clear hY5 kc kf hLn hLn';obtain ⟨zn,hzn⟩:∃ zn:Int,min ((Ln:Int)) 65537=zn:=⟨_,rfl⟩
    have HZ:=Lib.hid (show SzTo cs p ((zs.set k ((Ln:Int))).set k zn) (k+1) by rw[List.set_set];exact SzTo.set hz.out HLT.out (by rw[←hzn];rw[HSZ.out,HLn.out];omega));have hck:(zs.set k ((Ln:Int)))[k]?=some ((Ln:Int)):=by rw[List.getElem?_set];simp[(List.getElem?_eq_some_iff.1 HZO.out).1]
    have kc:=own_cellI O5.out hck;have kf:=own_frozI O5.out k;have kg:=grownBy_set Y5 ⟨G,k,none⟩ (.int .i64 (zn));obtain ⟨Y9,hY9⟩:∃ Y,Y5.setCell ⟨G,k,none⟩ (.int .i64 (zn))=Y:=⟨_,rfl⟩
    have O9:=Lib.hid (own_setI (j:=k) (z:=zn) O5.out);rw[hY9]at O9 kg;have S9:=Lib.hid (S5.out.row kg (show N0≠G by omega));have B9:=Lib.hid (below_row B5.out kg hwG B5.out.size);clear kg;go_upto_region 18 with (fail)
    try simp only[hzn]
    try rw[hY9]
    clear hY9 kc kf hzn hck;go_wp2;go_roundw
    case rel=>exact ⟨k+1,_,HLT.out,by go_num,HZ,O9.out,S9.out,B9.out⟩
    case measure=>have:=HLT.out;simp[intOf];omega
   ·obtain ⟨a0,a1,hb⟩:=HSUB.out (by omega);obtain ⟨ea,hea⟩:=Int.eq_ofNat_of_zero_le a0;have hak:ea<k:=by omega
    have hcA:=own_cellI VO.out (hz.out.2 ea hak);have hsa:=sizI_le cs p ea;obtain ⟨sa,hsae⟩:∃ q,sizI cs p ea=q:=⟨_,rfl⟩
    rw[hsae]at hcA hsa;have hzA:=hz.out.2 ea hak;rw[hsae]at hzA;have pa:(ea<p.length)=True:=eq_true (by omega);have pa2:((ea:Int)<(p.length:Int))=True:=eq_true (by omega);have qa:decide (ea<p.length)=true:=decide_eq_true (by omega);by_cases h11:x.op=11
    ·have HSZ:=Lib.hid (show sizI cs p k=min (6+sa) 65537 by
       have h:=siz_not (cs:=cs) HX.out h11 (by rw[hea];exact hak);rw[hea]at h;rw[h,Int.toNat_natCast,hsae])
     have ws:IntKind.i64.wrap (6+(sa:Int))=6+(sa:Int):=IntWalk.i64_in _ (by omega);have hea':x.a=(ea:Int):=hea;have HOP:=Lib.hid h11;have HEA:=Lib.hid hea';clear a0 a1 hb hea hsae h9 h11 hea' hzA;have bb:=VE.out;have n0:=bb.cell 0;have n1:=bb.cell 1;have n2:=bb.cell 2;have n3:=bb.cell 3;have n4:=bb.cell 4;have n5:=bb.cell 5;have n6:=bb.cell 6;have n7:=bb.cell 7;simp only[jA,jZ,jS]at n0 n1 n2 n3 n4 n5 n6 n7;clear bb;rw[HOP.out]at n0;rw[HEA.out]at n6;have kc:=own_cellI VO.out HZO.out;have kf:=own_frozI VO.out k;have kg:=grownBy_set V ⟨G,k,none⟩ (.int .i64 (6+(sa:Int)));obtain ⟨Y5,hY5⟩:∃ Y,V.setCell ⟨G,k,none⟩ (.int .i64 (6+(sa:Int)))=Y:=⟨_,rfl⟩
     have O5:=Lib.hid (own_setI (j:=k) (z:=6+(sa:Int)) VO.out);rw[hY5]at O5 kg;have S5:=Lib.hid (VS.out.row kg (show N0≠G by omega));have B5:=Lib.hid (below_row VB.out kg hwG VB.out.size);clear kg;go_upto_region 17 with (fail)
     try rw[hY5]
     clear hY5 kc kf hcA;clear n0 n1 n2 n3 n4 n5 n6 n7;obtain ⟨zn,hzn⟩:∃ zn:Int,min (6+(sa:Int)) 65537=zn:=⟨_,rfl⟩
     have HZ:=Lib.hid (show SzTo cs p ((zs.set k (6+(sa:Int))).set k zn) (k+1) by rw[List.set_set];exact SzTo.set hz.out HLT.out (by rw[←hzn];rw[HSZ.out];omega));have hck:(zs.set k (6+(sa:Int)))[k]?=some (6+(sa:Int)):=by rw[List.getElem?_set];simp[(List.getElem?_eq_some_iff.1 HZO.out).1]
     have kc:=own_cellI O5.out hck;have kf:=own_frozI O5.out k;have kg:=grownBy_set Y5 ⟨G,k,none⟩ (.int .i64 (zn));obtain ⟨Y9,hY9⟩:∃ Y,Y5.setCell ⟨G,k,none⟩ (.int .i64 (zn))=Y:=⟨_,rfl⟩
     have O9:=Lib.hid (own_setI (j:=k) (z:=zn) O5.out);rw[hY9]at O9 kg;have S9:=Lib.hid (S5.out.row kg (show N0≠G by omega));have B9:=Lib.hid (below_row B5.out kg hwG B5.out.size);clear kg;go_upto_region 18 with (fail)
     try simp only[hzn]
     try rw[hY9]
     clear hY9 kc kf hzn hck;go_wp2;go_roundw
     case rel=>exact ⟨k+1,_,HLT.out,by go_num,HZ,O9.out,S9.out,B9.out⟩
     case measure=>have:=HLT.out;simp[intOf];omega
    ·obtain ⟨b0,b1⟩:=hb h11;obtain ⟨eb,heb⟩:=Int.eq_ofNat_of_zero_le b0;have hbk:eb<k:=by omega
     have hzB:=hz.out.2 eb hbk;have hsb:=sizI_le cs p eb;obtain ⟨sb,hsbe⟩:∃ q,sizI cs p eb=q:=⟨_,rfl⟩
     rw[hsbe]at hzB hsb;have pb:(eb<p.length)=True:=eq_true (by omega);have pb2:((eb:Int)<(p.length:Int))=True:=eq_true (by omega);have qb:decide (eb<p.length)=true:=decide_eq_true (by omega);obtain ⟨B0,hB0⟩:∃ B:ByteArray,B=⟨(wordP x.op).toArray⟩:=⟨_,rfl⟩
     have hBW:B0.data.toList=wordP x.op:=by rw[hB0]
     have hwl:B0.size≤4:=by rw[size_of hBW];exact wordP_len x.op
     have HRW:=Lib.hid (fun X=>show Calls Tryz.prog 33 #[.int .i64 x.op] X (fun e w'=>e=.returned (.string B0)∧X=w') by rw[hB0];exact rword_any x.op o1 o2 X);have HSZ:=Lib.hid (show sizI cs p k=min (4+B0.size+sa+sb) 65537 by
       have h:=siz_two (cs:=cs) HX.out h9 h11 (by rw[hea];exact hak) (by rw[heb];exact hbk);rw[hea,heb]at h;rw[h,Int.toNat_natCast,Int.toNat_natCast,hsae,hsbe,size_of hBW])
     have q11:(x.op==11)=false:=by simpa using h11
     have hea':x.a=(ea:Int):=hea;have heb':x.b=(eb:Int):=heb;have HEA:=Lib.hid hea';have HEB:=Lib.hid heb';have w1:IntKind.i64.wrap (4+(B0.size:Int))=4+(B0.size:Int):=IntWalk.i64_in _ (by omega);have w2:IntKind.i64.wrap (4+(B0.size:Int)+(sa:Int))=4+(B0.size:Int)+(sa:Int):=IntWalk.i64_in _ (by omega);have w3o:IntKind.i64.wrap (4+(B0.size:Int)+(sa:Int)+(sb:Int))=4+(B0.size:Int)+(sa:Int)+(sb:Int):=IntWalk.i64_in _ (by omega);obtain ⟨zt,hzt⟩:∃ z:Int,4+(B0.size:Int)+(sa:Int)+(sb:Int)=z:=⟨_,rfl⟩
     have HZT:=Lib.hid hzt;have w3:IntKind.i64.wrap (4+(B0.size:Int)+(sa:Int)+(sb:Int))=zt:=w3o.trans hzt;clear w3o;have HCA:=Lib.hid (fun (q:Bool)=>show (cond q (zs.set k zt) zs)[ea]?=some (sa:Int) by cases q;exact hzA;exact (List.getElem?_set_ne (by omega)).trans hzA);have HCB:=Lib.hid (fun (q:Bool)=>show (cond q (zs.set k zt) zs)[eb]?=some (sb:Int) by cases q;exact hzB;exact (List.getElem?_set_ne (by omega)).trans hzB);have h910:x.op=9∨x.op=10:=by omega
     clear a0 a1 b0 b1 hb hea heb hsae hsbe h9 h11 hBW hB0 hea' heb' hcA hzA hzB hzt;rcases h910 with h9|h9
     ·have HOP:=Lib.hid h9;clear h9;have bb:=VE.out;have n0:=bb.cell 0;have n1:=bb.cell 1;have n2:=bb.cell 2;have n3:=bb.cell 3;have n4:=bb.cell 4;have n5:=bb.cell 5;have n6:=bb.cell 6;have n7:=bb.cell 7;simp only[jA,jZ,jS]at n0 n1 n2 n3 n4 n5 n6 n7;clear bb;rw[HOP.out]at n0;simp only[HOP.out]at HRW q11;go_upto_region 16 with (fail)
      clear n0 n1 n2 n3 n4 n5 n6 n7;refine wp_region_inv (by kernel_rfl) (by kernel_rfl) (fun L a w'=>∃ u52 u53 u54 u55 u56 u57 u58 u59 u60 u61 u62 u63 u64 u65 u66 u67 u68 u69 u70 u71:Value,a=⟨#[.agg #[.slice A cs.length cA,.int .i64 key],.slice (some ad) p.length cP,.pointer (some ⟨N0,0,none⟩),undef,.string { data:=#[] },.int .i64 0,.int .i64 0,.slice (some ⟨G,0,none⟩) p.length p.length,.int .i64 k,.pointer (some ⟨N5,0,none⟩),.agg #[.slice A cs.length cA,.int .i64 key],.slice (some ad) p.length cP,.int .i64 0,.int .i64 0,.bool false,undef,.slice (some ad) p.length cP,.int .i64 p.length,.bool false,.slice (some ad) p.length cP,.int .i64 p.length,.slice (some ⟨G,0,none⟩) p.length p.length,.slice (some ad) p.length cP,.int .i64 p.length,.int .i64 k,.bool true,.int .i64 k,.pointer (some px),.agg #[.int .i64 x.op,.int .i64 x.col,.bool x.v.nu,.int .i64 x.v.n,.string x.v.s,.slice AU x.l.length cU,.int .i64 x.a,.int .i64 x.b],.pointer (some ⟨N5,0,none⟩),.int .i64 9,u31,u32,u33,u34,u35,u36,u37,.bool false,.bool false,u40,u41,u42,u43,u44,u45,u46,u47,u48,.bool true,.bool true,u51,u52,u53,u54,u55,u56,u57,u58,u59,u60,u61,u62,u63,u64,u65,u66,u67,u68,u69,u70,u71,u72,u73,u74,u75,u76,u77,u78,u79,u80,undef,undef,undef,undef,undef,undef,undef,undef,undef,undef,undef,undef,undef],[]⟩ ∧
        Below w.heap.size w w'∧Got (L 0) u52 (.slice (some ⟨G,0,none⟩) p.length p.length)∧Got (L 1) u53 (.int .i64 (k:Int))∧Got (L 2) u54 (.pointer (some ⟨N5,0,none⟩))∧Got (L 3) u55 (.int .i64 9)∧Got (L 4) u56 (.string B0)∧Got (L 5) u57 (.int .i64 (B0.size:Int))∧Got (L 6) u58 (.int .i64 (4+(B0.size:Int)))∧Got (L 7) u59 (.slice (some ⟨G,0,none⟩) p.length p.length)∧Got (L 8) u60 (.pointer (some ⟨N5,6,none⟩))∧Got (L 9) u61 (.int .i64 (ea:Int))∧Got (L 10) u62 (.pointer (some ⟨G,ea,none⟩))∧Got (L 11) u63 (.int .i64 (sa:Int))∧Got (L 12) u64 (.int .i64 (4+(B0.size:Int)+(sa:Int)))∧Got (L 13) u65 (.slice (some ⟨G,0,none⟩) p.length p.length)∧Got (L 14) u66 (.pointer (some ⟨N5,7,none⟩))∧Got (L 15) u67 (.int .i64 (eb:Int))∧Got (L 16) u68 (.pointer (some ⟨G,eb,none⟩))∧Got (L 17) u69 (.int .i64 (sb:Int))∧Got (L 18) u70 (.int .i64 zt)∧Got (L 19) u71 (.pointer (some ⟨G,k,none⟩))∧w'.ownsRow w.heap.size 3 1 (.slice (some ⟨G,0,none⟩) p.length p.length) p.length (ints (cond (L 20) (zs.set k zt) zs))∧Blk w' N5 66 #[.int .i64 x.op,.int .i64 x.col,.bool x.v.nu,.int .i64 x.v.n,.string x.v.s,.slice AU x.l.length cU,.int .i64 x.a,.int .i64 x.b]∧Blk w' N0 28 #[.slice A cs.length cA,.int .i64 key])
       ?_ ?_ ?_
      ·exact ⟨_,_,_,_,_,_,_,_,_,_,_,_,_,_,_,_,_,_,_,_,rfl,VB.out.drew,nofun,nofun,nofun,nofun,nofun,nofun,nofun,nofun,nofun,nofun,nofun,nofun,nofun,nofun,nofun,nofun,nofun,nofun,nofun,nofun,VO.out,VE.out,VS.out⟩
      ·refine ⟨?_,?_,?_,?_,?_,?_,?_,?_,?_,?_,?_,?_,?_,?_,?_,?_,?_,?_,?_,?_,?_,trivial⟩
       ·refine fun L a w'=>ex16 fun _ _ _ _ _ _ _ _ _ _ _ _ _ _ _ _=>ex4 fun _ _ _ _=>un16 fun ha hb g0 g1 g2 g3 g4 g5 g6 g7 g8 g9 g10 g11 g12 g13=>un8 fun g14 g15 g16 g17 g18 g19 g20 g21 g22 hl hd K hK=>?_;subst ha
        dsimp only at hK ⊢;go_simp;exact hK _ _ ⟨_,_,_,_,_,_,_,_,_,_,_,_,_,_,_,_,_,_,_,_,rfl,hb,fun _=>rfl,g1,g2,g3,g4,g5,g6,g7,g8,g9,g10,g11,g12,g13,g14,g15,g16,g17,g18,g19,g20,g21,g22⟩
       ·refine fun L a w'=>ex16 fun _ _ _ _ _ _ _ _ _ _ _ _ _ _ _ _=>ex4 fun _ _ _ _=>un16 fun ha hb g0 g1 g2 g3 g4 g5 g6 g7 g8 g9 g10 g11 g12 g13=>un8 fun g14 g15 g16 g17 g18 g19 g20 g21 g22 hl hd K hK=>?_;subst ha
        dsimp only at hK ⊢;go_simp;exact hK _ _ ⟨_,_,_,_,_,_,_,_,_,_,_,_,_,_,_,_,_,_,_,_,rfl,hb,g0,fun _=>rfl,g2,g3,g4,g5,g6,g7,g8,g9,g10,g11,g12,g13,g14,g15,g16,g17,g18,g19,g20,g21,g22⟩
       ·refine fun L a w'=>ex16 fun _ _ _ _ _ _ _ _ _ _ _ _ _ _ _ _=>ex4 fun _ _ _ _=>un16 fun ha hb g0 g1 g2 g3 g4 g5 g6 g7 g8 g9 g10 g11 g12 g13=>un8 fun g14 g15 g16 g17 g18 g19 g20 g21 g22 hl hd K hK=>?_;subst ha
        dsimp only at hK ⊢;go_simp;exact hK _ _ ⟨_,_,_,_,_,_,_,_,_,_,_,_,_,_,_,_,_,_,_,_,rfl,hb,g0,g1,fun _=>rfl,g3,g4,g5,g6,g7,g8,g9,g10,g11,g12,g13,g14,g15,g16,g17,g18,g19,g20,g21,g22⟩
       ·refine fun L a w'=>ex16 fun _ _ _ _ _ _ _ _ _ _ _ _ _ _ _ _=>ex4 fun _ _ _ _=>un16 fun ha hb g0 g1 g2 g3 g4 g5 g6 g7 g8 g9 g10 g11 g12 g13=>un8 fun g14 g15 g16 g17 g18 g19 g20 g21 g22 hl hd K hK=>?_;subst ha
        simp[Region.binds]at hd;dsimp only at hK ⊢;have e2:=g2 (by simp[hd]);subst e2;have c0:=g21.cell 0;have c1:=g21.cell 1;have c2:=g21.cell 2;have c3:=g21.cell 3;have c4:=g21.cell 4;have c5:=g21.cell 5;have c6:=g21.cell 6;have c7:=g21.cell 7;simp only[jA,jZ,jS]at c0 c1 c2 c3 c4 c5 c6 c7;rw[HOP.out]at c0;rw[HEA.out]at c6;rw[HEB.out]at c7;go_simp;exact hK _ _ ⟨_,_,_,_,_,_,_,_,_,_,_,_,_,_,_,_,_,_,_,_,rfl,hb,g0,g1,g2,fun _=>rfl,g4,g5,g6,g7,g8,g9,g10,g11,g12,g13,g14,g15,g16,g17,g18,g19,g20,g21,g22⟩
       ·refine fun L a w'=>ex16 fun _ _ _ _ _ _ _ _ _ _ _ _ _ _ _ _=>ex4 fun _ _ _ _=>un16 fun ha hb g0 g1 g2 g3 g4 g5 g6 g7 g8 g9 g10 g11 g12 g13=>un8 fun g14 g15 g16 g17 g18 g19 g20 g21 g22 hl hd K hK=>?_;subst ha
        simp[Region.binds]at hd;dsimp only at hK ⊢;have e3:=g3 (by simp[hd]);subst e3;go_wp2_with fail
        refine (HRW.out w').mono ?_;rintro _ _ ⟨rfl,rfl⟩;exact hK _ _ ⟨_,_,_,_,_,_,_,_,_,_,_,_,_,_,_,_,_,_,_,_,rfl,hb,g0,g1,g2,g3,fun _=>rfl,g5,g6,g7,g8,g9,g10,g11,g12,g13,g14,g15,g16,g17,g18,g19,g20,g21,g22⟩
       ·refine fun L a w'=>ex16 fun _ _ _ _ _ _ _ _ _ _ _ _ _ _ _ _=>ex4 fun _ _ _ _=>un16 fun ha hb g0 g1 g2 g3 g4 g5 g6 g7 g8 g9 g10 g11 g12 g13=>un8 fun g14 g15 g16 g17 g18 g19 g20 g21 g22 hl hd K hK=>?_;subst ha
        simp[Region.binds]at hd;dsimp only at hK ⊢;have e4:=g4 (by simp[hd]);subst e4;go_simp;exact hK _ _ ⟨_,_,_,_,_,_,_,_,_,_,_,_,_,_,_,_,_,_,_,_,rfl,hb,g0,g1,g2,g3,g4,fun _=>rfl,g6,g7,g8,g9,g10,g11,g12,g13,g14,g15,g16,g17,g18,g19,g20,g21,g22⟩
       ·refine fun L a w'=>ex16 fun _ _ _ _ _ _ _ _ _ _ _ _ _ _ _ _=>ex4 fun _ _ _ _=>un16 fun ha hb g0 g1 g2 g3 g4 g5 g6 g7 g8 g9 g10 g11 g12 g13=>un8 fun g14 g15 g16 g17 g18 g19 g20 g21 g22 hl hd K hK=>?_;subst ha
        simp[Region.binds]at hd;dsimp only at hK ⊢;have e5:=g5 (by simp[hd]);subst e5;go_simp;exact hK _ _ ⟨_,_,_,_,_,_,_,_,_,_,_,_,_,_,_,_,_,_,_,_,rfl,hb,g0,g1,g2,g3,g4,g5,fun _=>rfl,g7,g8,g9,g10,g11,g12,g13,g14,g15,g16,g17,g18,g19,g20,g21,g22⟩
       ·refine fun L a w'=>ex16 fun _ _ _ _ _ _ _ _ _ _ _ _ _ _ _ _=>ex4 fun _ _ _ _=>un16 fun ha hb g0 g1 g2 g3 g4 g5 g6 g7 g8 g9 g10 g11 g12 g13=>un8 fun g14 g15 g16 g17 g18 g19 g20 g21 g22 hl hd K hK=>?_;subst ha
        dsimp only at hK ⊢;go_simp;exact hK _ _ ⟨_,_,_,_,_,_,_,_,_,_,_,_,_,_,_,_,_,_,_,_,rfl,hb,g0,g1,g2,g3,g4,g5,g6,fun _=>rfl,g8,g9,g10,g11,g12,g13,g14,g15,g16,g17,g18,g19,g20,g21,g22⟩
       ·refine fun L a w'=>ex16 fun _ _ _ _ _ _ _ _ _ _ _ _ _ _ _ _=>ex4 fun _ _ _ _=>un16 fun ha hb g0 g1 g2 g3 g4 g5 g6 g7 g8 g9 g10 g11 g12 g13=>un8 fun g14 g15 g16 g17 g18 g19 g20 g21 g22 hl hd K hK=>?_;subst ha
        dsimp only at hK ⊢;go_simp;exact hK _ _ ⟨_,_,_,_,_,_,_,_,_,_,_,_,_,_,_,_,_,_,_,_,rfl,hb,g0,g1,g2,g3,g4,g5,g6,g7,fun _=>rfl,g9,g10,g11,g12,g13,g14,g15,g16,g17,g18,g19,g20,g21,g22⟩
       ·refine fun L a w'=>ex16 fun _ _ _ _ _ _ _ _ _ _ _ _ _ _ _ _=>ex4 fun _ _ _ _=>un16 fun ha hb g0 g1 g2 g3 g4 g5 g6 g7 g8 g9 g10 g11 g12 g13=>un8 fun g14 g15 g16 g17 g18 g19 g20 g21 g22 hl hd K hK=>?_;subst ha
        simp[Region.binds]at hd;dsimp only at hK ⊢;have e8:=g8 (by simp[hd]);subst e8;have c0:=g21.cell 0;have c1:=g21.cell 1;have c2:=g21.cell 2;have c3:=g21.cell 3;have c4:=g21.cell 4;have c5:=g21.cell 5;have c6:=g21.cell 6;have c7:=g21.cell 7;simp only[jA,jZ,jS]at c0 c1 c2 c3 c4 c5 c6 c7;rw[HOP.out]at c0;rw[HEA.out]at c6;rw[HEB.out]at c7;go_simp;exact hK _ _ ⟨_,_,_,_,_,_,_,_,_,_,_,_,_,_,_,_,_,_,_,_,rfl,hb,g0,g1,g2,g3,g4,g5,g6,g7,g8,fun _=>rfl,g10,g11,g12,g13,g14,g15,g16,g17,g18,g19,g20,g21,g22⟩
       ·refine fun L a w'=>ex16 fun _ _ _ _ _ _ _ _ _ _ _ _ _ _ _ _=>ex4 fun _ _ _ _=>un16 fun ha hb g0 g1 g2 g3 g4 g5 g6 g7 g8 g9 g10 g11 g12 g13=>un8 fun g14 g15 g16 g17 g18 g19 g20 g21 g22 hl hd K hK=>?_;subst ha
        simp[Region.binds]at hd;dsimp only at hK ⊢;have e7:=g7 (by simp[hd]);subst e7;have e9:=g9 (by simp[hd]);subst e9;go_simp;exact hK _ _ ⟨_,_,_,_,_,_,_,_,_,_,_,_,_,_,_,_,_,_,_,_,rfl,hb,g0,g1,g2,g3,g4,g5,g6,g7,g8,g9,fun _=>rfl,g11,g12,g13,g14,g15,g16,g17,g18,g19,g20,g21,g22⟩
       ·refine fun L a w'=>ex16 fun _ _ _ _ _ _ _ _ _ _ _ _ _ _ _ _=>ex4 fun _ _ _ _=>un16 fun ha hb g0 g1 g2 g3 g4 g5 g6 g7 g8 g9 g10 g11 g12 g13=>un8 fun g14 g15 g16 g17 g18 g19 g20 g21 g22 hl hd K hK=>?_;subst ha
        simp[Region.binds]at hd;dsimp only at hK ⊢;have e10:=g10 (by simp[hd]);subst e10;have cc:=own_cellI g20 (HCA.out _);go_simp;exact hK _ _ ⟨_,_,_,_,_,_,_,_,_,_,_,_,_,_,_,_,_,_,_,_,rfl,hb,g0,g1,g2,g3,g4,g5,g6,g7,g8,g9,g10,fun _=>rfl,g12,g13,g14,g15,g16,g17,g18,g19,g20,g21,g22⟩
       ·refine fun L a w'=>ex16 fun _ _ _ _ _ _ _ _ _ _ _ _ _ _ _ _=>ex4 fun _ _ _ _=>un16 fun ha hb g0 g1 g2 g3 g4 g5 g6 g7 g8 g9 g10 g11 g12 g13=>un8 fun g14 g15 g16 g17 g18 g19 g20 g21 g22 hl hd K hK=>?_;subst ha
        simp[Region.binds]at hd;dsimp only at hK ⊢;have e6:=g6 (by simp[hd]);subst e6;have e11:=g11 (by simp[hd]);subst e11;go_simp;exact hK _ _ ⟨_,_,_,_,_,_,_,_,_,_,_,_,_,_,_,_,_,_,_,_,rfl,hb,g0,g1,g2,g3,g4,g5,g6,g7,g8,g9,g10,g11,fun _=>rfl,g13,g14,g15,g16,g17,g18,g19,g20,g21,g22⟩
       ·refine fun L a w'=>ex16 fun _ _ _ _ _ _ _ _ _ _ _ _ _ _ _ _=>ex4 fun _ _ _ _=>un16 fun ha hb g0 g1 g2 g3 g4 g5 g6 g7 g8 g9 g10 g11 g12 g13=>un8 fun g14 g15 g16 g17 g18 g19 g20 g21 g22 hl hd K hK=>?_;subst ha
        dsimp only at hK ⊢;go_simp;exact hK _ _ ⟨_,_,_,_,_,_,_,_,_,_,_,_,_,_,_,_,_,_,_,_,rfl,hb,g0,g1,g2,g3,g4,g5,g6,g7,g8,g9,g10,g11,g12,fun _=>rfl,g14,g15,g16,g17,g18,g19,g20,g21,g22⟩
       ·refine fun L a w'=>ex16 fun _ _ _ _ _ _ _ _ _ _ _ _ _ _ _ _=>ex4 fun _ _ _ _=>un16 fun ha hb g0 g1 g2 g3 g4 g5 g6 g7 g8 g9 g10 g11 g12 g13=>un8 fun g14 g15 g16 g17 g18 g19 g20 g21 g22 hl hd K hK=>?_;subst ha
        dsimp only at hK ⊢;go_simp;exact hK _ _ ⟨_,_,_,_,_,_,_,_,_,_,_,_,_,_,_,_,_,_,_,_,rfl,hb,g0,g1,g2,g3,g4,g5,g6,g7,g8,g9,g10,g11,g12,g13,fun _=>rfl,g15,g16,g17,g18,g19,g20,g21,g22⟩
       ·refine fun L a w'=>ex16 fun _ _ _ _ _ _ _ _ _ _ _ _ _ _ _ _=>ex4 fun _ _ _ _=>un16 fun ha hb g0 g1 g2 g3 g4 g5 g6 g7 g8 g9 g10 g11 g12 g13=>un8 fun g14 g15 g16 g17 g18 g19 g20 g21 g22 hl hd K hK=>?_;subst ha
        simp[Region.binds]at hd;dsimp only at hK ⊢;have e14:=g14 (by simp[hd]);subst e14;have c0:=g21.cell 0;have c1:=g21.cell 1;have c2:=g21.cell 2;have c3:=g21.cell 3;have c4:=g21.cell 4;have c5:=g21.cell 5;have c6:=g21.cell 6;have c7:=g21.cell 7;simp only[jA,jZ,jS]at c0 c1 c2 c3 c4 c5 c6 c7;rw[HOP.out]at c0;rw[HEA.out]at c6;rw[HEB.out]at c7;go_simp;exact hK _ _ ⟨_,_,_,_,_,_,_,_,_,_,_,_,_,_,_,_,_,_,_,_,rfl,hb,g0,g1,g2,g3,g4,g5,g6,g7,g8,g9,g10,g11,g12,g13,g14,fun _=>rfl,g16,g17,g18,g19,g20,g21,g22⟩
       ·refine fun L a w'=>ex16 fun _ _ _ _ _ _ _ _ _ _ _ _ _ _ _ _=>ex4 fun _ _ _ _=>un16 fun ha hb g0 g1 g2 g3 g4 g5 g6 g7 g8 g9 g10 g11 g12 g13=>un8 fun g14 g15 g16 g17 g18 g19 g20 g21 g22 hl hd K hK=>?_;subst ha
        simp[Region.binds]at hd;dsimp only at hK ⊢;have e13:=g13 (by simp[hd]);subst e13;have e15:=g15 (by simp[hd]);subst e15;go_simp;exact hK _ _ ⟨_,_,_,_,_,_,_,_,_,_,_,_,_,_,_,_,_,_,_,_,rfl,hb,g0,g1,g2,g3,g4,g5,g6,g7,g8,g9,g10,g11,g12,g13,g14,g15,fun _=>rfl,g17,g18,g19,g20,g21,g22⟩
       ·refine fun L a w'=>ex16 fun _ _ _ _ _ _ _ _ _ _ _ _ _ _ _ _=>ex4 fun _ _ _ _=>un16 fun ha hb g0 g1 g2 g3 g4 g5 g6 g7 g8 g9 g10 g11 g12 g13=>un8 fun g14 g15 g16 g17 g18 g19 g20 g21 g22 hl hd K hK=>?_;subst ha
        simp[Region.binds]at hd;dsimp only at hK ⊢;have e16:=g16 (by simp[hd]);subst e16;have cc:=own_cellI g20 (HCB.out _);go_simp;exact hK _ _ ⟨_,_,_,_,_,_,_,_,_,_,_,_,_,_,_,_,_,_,_,_,rfl,hb,g0,g1,g2,g3,g4,g5,g6,g7,g8,g9,g10,g11,g12,g13,g14,g15,g16,fun _=>rfl,g18,g19,g20,g21,g22⟩
       ·refine fun L a w'=>ex16 fun _ _ _ _ _ _ _ _ _ _ _ _ _ _ _ _=>ex4 fun _ _ _ _=>un16 fun ha hb g0 g1 g2 g3 g4 g5 g6 g7 g8 g9 g10 g11 g12 g13=>un8 fun g14 g15 g16 g17 g18 g19 g20 g21 g22 hl hd K hK=>?_;subst ha
        simp[Region.binds]at hd;dsimp only at hK ⊢;have e12:=g12 (by simp[hd]);subst e12;have e17:=g17 (by simp[hd]);subst e17;go_simp;exact hK _ _ ⟨_,_,_,_,_,_,_,_,_,_,_,_,_,_,_,_,_,_,_,_,rfl,hb,g0,g1,g2,g3,g4,g5,g6,g7,g8,g9,g10,g11,g12,g13,g14,g15,g16,g17,fun _=>rfl,g19,g20,g21,g22⟩
       ·refine fun L a w'=>ex16 fun _ _ _ _ _ _ _ _ _ _ _ _ _ _ _ _=>ex4 fun _ _ _ _=>un16 fun ha hb g0 g1 g2 g3 g4 g5 g6 g7 g8 g9 g10 g11 g12 g13=>un8 fun g14 g15 g16 g17 g18 g19 g20 g21 g22 hl hd K hK=>?_;subst ha
        simp[Region.binds]at hd;dsimp only at hK ⊢;have e0:=g0 (by simp[hd]);subst e0;have e1:=g1 (by simp[hd]);subst e1;go_simp;exact hK _ _ ⟨_,_,_,_,_,_,_,_,_,_,_,_,_,_,_,_,_,_,_,_,rfl,hb,g0,g1,g2,g3,g4,g5,g6,g7,g8,g9,g10,g11,g12,g13,g14,g15,g16,g17,g18,fun _=>rfl,g20,g21,g22⟩
       ·refine fun L a w'=>ex16 fun _ _ _ _ _ _ _ _ _ _ _ _ _ _ _ _=>ex4 fun _ _ _ _=>un16 fun ha hb g0 g1 g2 g3 g4 g5 g6 g7 g8 g9 g10 g11 g12 g13=>un8 fun g14 g15 g16 g17 g18 g19 g20 g21 g22 hl hd K hK=>?_;subst ha
        simp[Region.binds]at hd;dsimp only at hK ⊢;have e18:=g18 (by simp[hd]);subst e18;have e19:=g19 (by simp[hd]);subst e19;have go:=g20;rw[hl]at go;have cc:=own_cellI go HZO.out;have ff:=own_frozI go k;have kg:=grownBy_set w' ⟨G,k,none⟩ (.int .i64 zt);have GN:=Lib.hid (own_setI (j:=k) (z:=zt) go);have G1:=Lib.hid (g21.row kg (show N5≠G by omega));have G2:=Lib.hid (g22.row kg (show N0≠G by omega));have GB:=Lib.hid (below_row hb kg hwG hb.size);clear go kg;go_simp;exact hK _ _ ⟨_,_,_,_,_,_,_,_,_,_,_,_,_,_,_,_,_,_,_,_,rfl,GB.out,g0,g1,g2,g3,g4,g5,g6,g7,g8,g9,g10,g11,g12,g13,g14,g15,g16,g17,g18,g19,GN.out,G1.out,G2.out⟩
      intro a w7 hI
      revert hI;refine ex16 fun _ _ _ _ _ _ _ _ _ _ _ _ _ _ _ _=>ex4 fun _ _ _ _=>un16 fun ha hb g0 g1 g2 g3 g4 g5 g6 g7 g8 g9 g10 g11 g12 g13=>un8 fun g14 g15 g16 g17 g18 g19 g20 g21 g22=>?_;subst ha
      have O5:=Lib.hid g20;have S5:=Lib.hid g22;have B5:=Lib.hid hb;clear g0 g1 g2 g3 g4 g5 g6 g7 g8 g9 g10 g11 g12 g13 g14 g15 g16 g17 g18 g19 g20 g21 g22 hb w1 w2 w3;go_upto_region 17 with (fail)
      obtain ⟨zn,hzn⟩:∃ zn:Int,min (zt) 65537=zn:=⟨_,rfl⟩
      have HZ:=Lib.hid (show SzTo cs p ((zs.set k (zt)).set k zn) (k+1) by rw[List.set_set];exact SzTo.set hz.out HLT.out (by rw[←hzn];rw[HSZ.out,←HZT.out];omega));have hck:(zs.set k (zt))[k]?=some (zt):=by rw[List.getElem?_set];simp[(List.getElem?_eq_some_iff.1 HZO.out).1]
      have kc:=own_cellI O5.out hck;have kf:=own_frozI O5.out k;have kg:=grownBy_set w7 ⟨G,k,none⟩ (.int .i64 (zn));obtain ⟨Y9,hY9⟩:∃ Y,w7.setCell ⟨G,k,none⟩ (.int .i64 (zn))=Y:=⟨_,rfl⟩
      have O9:=Lib.hid (own_setI (j:=k) (z:=zn) O5.out);rw[hY9]at O9 kg;have S9:=Lib.hid (S5.out.row kg (show N0≠G by omega));have B9:=Lib.hid (below_row B5.out kg hwG B5.out.size);clear kg;go_upto_region 18 with (fail)
      try simp only[hzn]
      try rw[hY9]
      clear hY9 kc kf hzn hck;go_wp2;go_roundw
      case rel=>exact ⟨k+1,_,HLT.out,by go_num,HZ,O9.out,S9.out,B9.out⟩
      case measure=>have:=HLT.out;simp[intOf];omega
     ·have HOP:=Lib.hid h9;clear h9;have bb:=VE.out;have n0:=bb.cell 0;have n1:=bb.cell 1;have n2:=bb.cell 2;have n3:=bb.cell 3;have n4:=bb.cell 4;have n5:=bb.cell 5;have n6:=bb.cell 6;have n7:=bb.cell 7;simp only[jA,jZ,jS]at n0 n1 n2 n3 n4 n5 n6 n7;clear bb;rw[HOP.out]at n0;simp only[HOP.out]at HRW q11;go_upto_region 16 with (fail)
      clear n0 n1 n2 n3 n4 n5 n6 n7;refine wp_region_inv (by kernel_rfl) (by kernel_rfl) (fun L a w'=>∃ u52 u53 u54 u55 u56 u57 u58 u59 u60 u61 u62 u63 u64 u65 u66 u67 u68 u69 u70 u71:Value,a=⟨#[.agg #[.slice A cs.length cA,.int .i64 key],.slice (some ad) p.length cP,.pointer (some ⟨N0,0,none⟩),undef,.string { data:=#[] },.int .i64 0,.int .i64 0,.slice (some ⟨G,0,none⟩) p.length p.length,.int .i64 k,.pointer (some ⟨N5,0,none⟩),.agg #[.slice A cs.length cA,.int .i64 key],.slice (some ad) p.length cP,.int .i64 0,.int .i64 0,.bool false,undef,.slice (some ad) p.length cP,.int .i64 p.length,.bool false,.slice (some ad) p.length cP,.int .i64 p.length,.slice (some ⟨G,0,none⟩) p.length p.length,.slice (some ad) p.length cP,.int .i64 p.length,.int .i64 k,.bool true,.int .i64 k,.pointer (some px),.agg #[.int .i64 x.op,.int .i64 x.col,.bool x.v.nu,.int .i64 x.v.n,.string x.v.s,.slice AU x.l.length cU,.int .i64 x.a,.int .i64 x.b],.pointer (some ⟨N5,0,none⟩),.int .i64 10,u31,u32,u33,u34,u35,u36,u37,.bool false,.bool false,u40,u41,u42,u43,u44,u45,u46,u47,u48,.bool true,.bool false,.bool true,u52,u53,u54,u55,u56,u57,u58,u59,u60,u61,u62,u63,u64,u65,u66,u67,u68,u69,u70,u71,u72,u73,u74,u75,u76,u77,u78,u79,u80,undef,undef,undef,undef,undef,undef,undef,undef,undef,undef,undef,undef,undef],[]⟩ ∧
        Below w.heap.size w w'∧Got (L 0) u52 (.slice (some ⟨G,0,none⟩) p.length p.length)∧Got (L 1) u53 (.int .i64 (k:Int))∧Got (L 2) u54 (.pointer (some ⟨N5,0,none⟩))∧Got (L 3) u55 (.int .i64 10)∧Got (L 4) u56 (.string B0)∧Got (L 5) u57 (.int .i64 (B0.size:Int))∧Got (L 6) u58 (.int .i64 (4+(B0.size:Int)))∧Got (L 7) u59 (.slice (some ⟨G,0,none⟩) p.length p.length)∧Got (L 8) u60 (.pointer (some ⟨N5,6,none⟩))∧Got (L 9) u61 (.int .i64 (ea:Int))∧Got (L 10) u62 (.pointer (some ⟨G,ea,none⟩))∧Got (L 11) u63 (.int .i64 (sa:Int))∧Got (L 12) u64 (.int .i64 (4+(B0.size:Int)+(sa:Int)))∧Got (L 13) u65 (.slice (some ⟨G,0,none⟩) p.length p.length)∧Got (L 14) u66 (.pointer (some ⟨N5,7,none⟩))∧Got (L 15) u67 (.int .i64 (eb:Int))∧Got (L 16) u68 (.pointer (some ⟨G,eb,none⟩))∧Got (L 17) u69 (.int .i64 (sb:Int))∧Got (L 18) u70 (.int .i64 zt)∧Got (L 19) u71 (.pointer (some ⟨G,k,none⟩))∧w'.ownsRow w.heap.size 3 1 (.slice (some ⟨G,0,none⟩) p.length p.length) p.length (ints (cond (L 20) (zs.set k zt) zs))∧Blk w' N5 66 #[.int .i64 x.op,.int .i64 x.col,.bool x.v.nu,.int .i64 x.v.n,.string x.v.s,.slice AU x.l.length cU,.int .i64 x.a,.int .i64 x.b]∧Blk w' N0 28 #[.slice A cs.length cA,.int .i64 key])
       ?_ ?_ ?_
      ·exact ⟨_,_,_,_,_,_,_,_,_,_,_,_,_,_,_,_,_,_,_,_,rfl,VB.out.drew,nofun,nofun,nofun,nofun,nofun,nofun,nofun,nofun,nofun,nofun,nofun,nofun,nofun,nofun,nofun,nofun,nofun,nofun,nofun,nofun,VO.out,VE.out,VS.out⟩
      ·refine ⟨?_,?_,?_,?_,?_,?_,?_,?_,?_,?_,?_,?_,?_,?_,?_,?_,?_,?_,?_,?_,?_,trivial⟩
       ·refine fun L a w'=>ex16 fun _ _ _ _ _ _ _ _ _ _ _ _ _ _ _ _=>ex4 fun _ _ _ _=>un16 fun ha hb g0 g1 g2 g3 g4 g5 g6 g7 g8 g9 g10 g11 g12 g13=>un8 fun g14 g15 g16 g17 g18 g19 g20 g21 g22 hl hd K hK=>?_;subst ha
        dsimp only at hK ⊢;go_simp;exact hK _ _ ⟨_,_,_,_,_,_,_,_,_,_,_,_,_,_,_,_,_,_,_,_,rfl,hb,fun _=>rfl,g1,g2,g3,g4,g5,g6,g7,g8,g9,g10,g11,g12,g13,g14,g15,g16,g17,g18,g19,g20,g21,g22⟩
       ·refine fun L a w'=>ex16 fun _ _ _ _ _ _ _ _ _ _ _ _ _ _ _ _=>ex4 fun _ _ _ _=>un16 fun ha hb g0 g1 g2 g3 g4 g5 g6 g7 g8 g9 g10 g11 g12 g13=>un8 fun g14 g15 g16 g17 g18 g19 g20 g21 g22 hl hd K hK=>?_;subst ha
        dsimp only at hK ⊢;go_simp;exact hK _ _ ⟨_,_,_,_,_,_,_,_,_,_,_,_,_,_,_,_,_,_,_,_,rfl,hb,g0,fun _=>rfl,g2,g3,g4,g5,g6,g7,g8,g9,g10,g11,g12,g13,g14,g15,g16,g17,g18,g19,g20,g21,g22⟩
       ·refine fun L a w'=>ex16 fun _ _ _ _ _ _ _ _ _ _ _ _ _ _ _ _=>ex4 fun _ _ _ _=>un16 fun ha hb g0 g1 g2 g3 g4 g5 g6 g7 g8 g9 g10 g11 g12 g13=>un8 fun g14 g15 g16 g17 g18 g19 g20 g21 g22 hl hd K hK=>?_;subst ha
        dsimp only at hK ⊢;go_simp;exact hK _ _ ⟨_,_,_,_,_,_,_,_,_,_,_,_,_,_,_,_,_,_,_,_,rfl,hb,g0,g1,fun _=>rfl,g3,g4,g5,g6,g7,g8,g9,g10,g11,g12,g13,g14,g15,g16,g17,g18,g19,g20,g21,g22⟩
       ·refine fun L a w'=>ex16 fun _ _ _ _ _ _ _ _ _ _ _ _ _ _ _ _=>ex4 fun _ _ _ _=>un16 fun ha hb g0 g1 g2 g3 g4 g5 g6 g7 g8 g9 g10 g11 g12 g13=>un8 fun g14 g15 g16 g17 g18 g19 g20 g21 g22 hl hd K hK=>?_;subst ha
        simp[Region.binds]at hd;dsimp only at hK ⊢;have e2:=g2 (by simp[hd]);subst e2;have c0:=g21.cell 0;have c1:=g21.cell 1;have c2:=g21.cell 2;have c3:=g21.cell 3;have c4:=g21.cell 4;have c5:=g21.cell 5;have c6:=g21.cell 6;have c7:=g21.cell 7;simp only[jA,jZ,jS]at c0 c1 c2 c3 c4 c5 c6 c7;rw[HOP.out]at c0;rw[HEA.out]at c6;rw[HEB.out]at c7;go_simp;exact hK _ _ ⟨_,_,_,_,_,_,_,_,_,_,_,_,_,_,_,_,_,_,_,_,rfl,hb,g0,g1,g2,fun _=>rfl,g4,g5,g6,g7,g8,g9,g10,g11,g12,g13,g14,g15,g16,g17,g18,g19,g20,g21,g22⟩
       ·refine fun L a w'=>ex16 fun _ _ _ _ _ _ _ _ _ _ _ _ _ _ _ _=>ex4 fun _ _ _ _=>un16 fun ha hb g0 g1 g2 g3 g4 g5 g6 g7 g8 g9 g10 g11 g12 g13=>un8 fun g14 g15 g16 g17 g18 g19 g20 g21 g22 hl hd K hK=>?_;subst ha
        simp[Region.binds]at hd;dsimp only at hK ⊢;have e3:=g3 (by simp[hd]);subst e3;go_wp2_with fail
        refine (HRW.out w').mono ?_;rintro _ _ ⟨rfl,rfl⟩;exact hK _ _ ⟨_,_,_,_,_,_,_,_,_,_,_,_,_,_,_,_,_,_,_,_,rfl,hb,g0,g1,g2,g3,fun _=>rfl,g5,g6,g7,g8,g9,g10,g11,g12,g13,g14,g15,g16,g17,g18,g19,g20,g21,g22⟩
       ·refine fun L a w'=>ex16 fun _ _ _ _ _ _ _ _ _ _ _ _ _ _ _ _=>ex4 fun _ _ _ _=>un16 fun ha hb g0 g1 g2 g3 g4 g5 g6 g7 g8 g9 g10 g11 g12 g13=>un8 fun g14 g15 g16 g17 g18 g19 g20 g21 g22 hl hd K hK=>?_;subst ha
        simp[Region.binds]at hd;dsimp only at hK ⊢;have e4:=g4 (by simp[hd]);subst e4;go_simp;exact hK _ _ ⟨_,_,_,_,_,_,_,_,_,_,_,_,_,_,_,_,_,_,_,_,rfl,hb,g0,g1,g2,g3,g4,fun _=>rfl,g6,g7,g8,g9,g10,g11,g12,g13,g14,g15,g16,g17,g18,g19,g20,g21,g22⟩
       ·refine fun L a w'=>ex16 fun _ _ _ _ _ _ _ _ _ _ _ _ _ _ _ _=>ex4 fun _ _ _ _=>un16 fun ha hb g0 g1 g2 g3 g4 g5 g6 g7 g8 g9 g10 g11 g12 g13=>un8 fun g14 g15 g16 g17 g18 g19 g20 g21 g22 hl hd K hK=>?_;subst ha
        simp[Region.binds]at hd;dsimp only at hK ⊢;have e5:=g5 (by simp[hd]);subst e5;go_simp;exact hK _ _ ⟨_,_,_,_,_,_,_,_,_,_,_,_,_,_,_,_,_,_,_,_,rfl,hb,g0,g1,g2,g3,g4,g5,fun _=>rfl,g7,g8,g9,g10,g11,g12,g13,g14,g15,g16,g17,g18,g19,g20,g21,g22⟩
       ·refine fun L a w'=>ex16 fun _ _ _ _ _ _ _ _ _ _ _ _ _ _ _ _=>ex4 fun _ _ _ _=>un16 fun ha hb g0 g1 g2 g3 g4 g5 g6 g7 g8 g9 g10 g11 g12 g13=>un8 fun g14 g15 g16 g17 g18 g19 g20 g21 g22 hl hd K hK=>?_;subst ha
        dsimp only at hK ⊢;go_simp;exact hK _ _ ⟨_,_,_,_,_,_,_,_,_,_,_,_,_,_,_,_,_,_,_,_,rfl,hb,g0,g1,g2,g3,g4,g5,g6,fun _=>rfl,g8,g9,g10,g11,g12,g13,g14,g15,g16,g17,g18,g19,g20,g21,g22⟩
       ·refine fun L a w'=>ex16 fun _ _ _ _ _ _ _ _ _ _ _ _ _ _ _ _=>ex4 fun _ _ _ _=>un16 fun ha hb g0 g1 g2 g3 g4 g5 g6 g7 g8 g9 g10 g11 g12 g13=>un8 fun g14 g15 g16 g17 g18 g19 g20 g21 g22 hl hd K hK=>?_;subst ha
        dsimp only at hK ⊢;go_simp;exact hK _ _ ⟨_,_,_,_,_,_,_,_,_,_,_,_,_,_,_,_,_,_,_,_,rfl,hb,g0,g1,g2,g3,g4,g5,g6,g7,fun _=>rfl,g9,g10,g11,g12,g13,g14,g15,g16,g17,g18,g19,g20,g21,g22⟩
       ·refine fun L a w'=>ex16 fun _ _ _ _ _ _ _ _ _ _ _ _ _ _ _ _=>ex4 fun _ _ _ _=>un16 fun ha hb g0 g1 g2 g3 g4 g5 g6 g7 g8 g9 g10 g11 g12 g13=>un8 fun g14 g15 g16 g17 g18 g19 g20 g21 g22 hl hd K hK=>?_;subst ha
        simp[Region.binds]at hd;dsimp only at hK ⊢;have e8:=g8 (by simp[hd]);subst e8;have c0:=g21.cell 0;have c1:=g21.cell 1;have c2:=g21.cell 2;have c3:=g21.cell 3;have c4:=g21.cell 4;have c5:=g21.cell 5;have c6:=g21.cell 6;have c7:=g21.cell 7;simp only[jA,jZ,jS]at c0 c1 c2 c3 c4 c5 c6 c7;rw[HOP.out]at c0;rw[HEA.out]at c6;rw[HEB.out]at c7;go_simp;exact hK _ _ ⟨_,_,_,_,_,_,_,_,_,_,_,_,_,_,_,_,_,_,_,_,rfl,hb,g0,g1,g2,g3,g4,g5,g6,g7,g8,fun _=>rfl,g10,g11,g12,g13,g14,g15,g16,g17,g18,g19,g20,g21,g22⟩
       ·refine fun L a w'=>ex16 fun _ _ _ _ _ _ _ _ _ _ _ _ _ _ _ _=>ex4 fun _ _ _ _=>un16 fun ha hb g0 g1 g2 g3 g4 g5 g6 g7 g8 g9 g10 g11 g12 g13=>un8 fun g14 g15 g16 g17 g18 g19 g20 g21 g22 hl hd K hK=>?_;subst ha
        simp[Region.binds]at hd;dsimp only at hK ⊢;have e7:=g7 (by simp[hd]);subst e7;have e9:=g9 (by simp[hd]);subst e9;go_simp;exact hK _ _ ⟨_,_,_,_,_,_,_,_,_,_,_,_,_,_,_,_,_,_,_,_,rfl,hb,g0,g1,g2,g3,g4,g5,g6,g7,g8,g9,fun _=>rfl,g11,g12,g13,g14,g15,g16,g17,g18,g19,g20,g21,g22⟩
       ·refine fun L a w'=>ex16 fun _ _ _ _ _ _ _ _ _ _ _ _ _ _ _ _=>ex4 fun _ _ _ _=>un16 fun ha hb g0 g1 g2 g3 g4 g5 g6 g7 g8 g9 g10 g11 g12 g13=>un8 fun g14 g15 g16 g17 g18 g19 g20 g21 g22 hl hd K hK=>?_;subst ha
        simp[Region.binds]at hd;dsimp only at hK ⊢;have e10:=g10 (by simp[hd]);subst e10;have cc:=own_cellI g20 (HCA.out _);go_simp;exact hK _ _ ⟨_,_,_,_,_,_,_,_,_,_,_,_,_,_,_,_,_,_,_,_,rfl,hb,g0,g1,g2,g3,g4,g5,g6,g7,g8,g9,g10,fun _=>rfl,g12,g13,g14,g15,g16,g17,g18,g19,g20,g21,g22⟩
       ·refine fun L a w'=>ex16 fun _ _ _ _ _ _ _ _ _ _ _ _ _ _ _ _=>ex4 fun _ _ _ _=>un16 fun ha hb g0 g1 g2 g3 g4 g5 g6 g7 g8 g9 g10 g11 g12 g13=>un8 fun g14 g15 g16 g17 g18 g19 g20 g21 g22 hl hd K hK=>?_;subst ha
        simp[Region.binds]at hd;dsimp only at hK ⊢;have e6:=g6 (by simp[hd]);subst e6;have e11:=g11 (by simp[hd]);subst e11;go_simp;exact hK _ _ ⟨_,_,_,_,_,_,_,_,_,_,_,_,_,_,_,_,_,_,_,_,rfl,hb,g0,g1,g2,g3,g4,g5,g6,g7,g8,g9,g10,g11,fun _=>rfl,g13,g14,g15,g16,g17,g18,g19,g20,g21,g22⟩
       ·refine fun L a w'=>ex16 fun _ _ _ _ _ _ _ _ _ _ _ _ _ _ _ _=>ex4 fun _ _ _ _=>un16 fun ha hb g0 g1 g2 g3 g4 g5 g6 g7 g8 g9 g10 g11 g12 g13=>un8 fun g14 g15 g16 g17 g18 g19 g20 g21 g22 hl hd K hK=>?_;subst ha
        dsimp only at hK ⊢;go_simp;exact hK _ _ ⟨_,_,_,_,_,_,_,_,_,_,_,_,_,_,_,_,_,_,_,_,rfl,hb,g0,g1,g2,g3,g4,g5,g6,g7,g8,g9,g10,g11,g12,fun _=>rfl,g14,g15,g16,g17,g18,g19,g20,g21,g22⟩
       ·refine fun L a w'=>ex16 fun _ _ _ _ _ _ _ _ _ _ _ _ _ _ _ _=>ex4 fun _ _ _ _=>un16 fun ha hb g0 g1 g2 g3 g4 g5 g6 g7 g8 g9 g10 g11 g12 g13=>un8 fun g14 g15 g16 g17 g18 g19 g20 g21 g22 hl hd K hK=>?_;subst ha
        dsimp only at hK ⊢;go_simp;exact hK _ _ ⟨_,_,_,_,_,_,_,_,_,_,_,_,_,_,_,_,_,_,_,_,rfl,hb,g0,g1,g2,g3,g4,g5,g6,g7,g8,g9,g10,g11,g12,g13,fun _=>rfl,g15,g16,g17,g18,g19,g20,g21,g22⟩
       ·refine fun L a w'=>ex16 fun _ _ _ _ _ _ _ _ _ _ _ _ _ _ _ _=>ex4 fun _ _ _ _=>un16 fun ha hb g0 g1 g2 g3 g4 g5 g6 g7 g8 g9 g10 g11 g12 g13=>un8 fun g14 g15 g16 g17 g18 g19 g20 g21 g22 hl hd K hK=>?_;subst ha
        simp[Region.binds]at hd;dsimp only at hK ⊢;have e14:=g14 (by simp[hd]);subst e14;have c0:=g21.cell 0;have c1:=g21.cell 1;have c2:=g21.cell 2;have c3:=g21.cell 3;have c4:=g21.cell 4;have c5:=g21.cell 5;have c6:=g21.cell 6;have c7:=g21.cell 7;simp only[jA,jZ,jS]at c0 c1 c2 c3 c4 c5 c6 c7;rw[HOP.out]at c0;rw[HEA.out]at c6;rw[HEB.out]at c7;go_simp;exact hK _ _ ⟨_,_,_,_,_,_,_,_,_,_,_,_,_,_,_,_,_,_,_,_,rfl,hb,g0,g1,g2,g3,g4,g5,g6,g7,g8,g9,g10,g11,g12,g13,g14,fun _=>rfl,g16,g17,g18,g19,g20,g21,g22⟩
       ·refine fun L a w'=>ex16 fun _ _ _ _ _ _ _ _ _ _ _ _ _ _ _ _=>ex4 fun _ _ _ _=>un16 fun ha hb g0 g1 g2 g3 g4 g5 g6 g7 g8 g9 g10 g11 g12 g13=>un8 fun g14 g15 g16 g17 g18 g19 g20 g21 g22 hl hd K hK=>?_;subst ha
        simp[Region.binds]at hd;dsimp only at hK ⊢;have e13:=g13 (by simp[hd]);subst e13;have e15:=g15 (by simp[hd]);subst e15;go_simp;exact hK _ _ ⟨_,_,_,_,_,_,_,_,_,_,_,_,_,_,_,_,_,_,_,_,rfl,hb,g0,g1,g2,g3,g4,g5,g6,g7,g8,g9,g10,g11,g12,g13,g14,g15,fun _=>rfl,g17,g18,g19,g20,g21,g22⟩
       ·refine fun L a w'=>ex16 fun _ _ _ _ _ _ _ _ _ _ _ _ _ _ _ _=>ex4 fun _ _ _ _=>un16 fun ha hb g0 g1 g2 g3 g4 g5 g6 g7 g8 g9 g10 g11 g12 g13=>un8 fun g14 g15 g16 g17 g18 g19 g20 g21 g22 hl hd K hK=>?_;subst ha
        simp[Region.binds]at hd;dsimp only at hK ⊢;have e16:=g16 (by simp[hd]);subst e16;have cc:=own_cellI g20 (HCB.out _);go_simp;exact hK _ _ ⟨_,_,_,_,_,_,_,_,_,_,_,_,_,_,_,_,_,_,_,_,rfl,hb,g0,g1,g2,g3,g4,g5,g6,g7,g8,g9,g10,g11,g12,g13,g14,g15,g16,fun _=>rfl,g18,g19,g20,g21,g22⟩
       ·refine fun L a w'=>ex16 fun _ _ _ _ _ _ _ _ _ _ _ _ _ _ _ _=>ex4 fun _ _ _ _=>un16 fun ha hb g0 g1 g2 g3 g4 g5 g6 g7 g8 g9 g10 g11 g12 g13=>un8 fun g14 g15 g16 g17 g18 g19 g20 g21 g22 hl hd K hK=>?_;subst ha
        simp[Region.binds]at hd;dsimp only at hK ⊢;have e12:=g12 (by simp[hd]);subst e12;have e17:=g17 (by simp[hd]);subst e17;go_simp;exact hK _ _ ⟨_,_,_,_,_,_,_,_,_,_,_,_,_,_,_,_,_,_,_,_,rfl,hb,g0,g1,g2,g3,g4,g5,g6,g7,g8,g9,g10,g11,g12,g13,g14,g15,g16,g17,fun _=>rfl,g19,g20,g21,g22⟩
       ·refine fun L a w'=>ex16 fun _ _ _ _ _ _ _ _ _ _ _ _ _ _ _ _=>ex4 fun _ _ _ _=>un16 fun ha hb g0 g1 g2 g3 g4 g5 g6 g7 g8 g9 g10 g11 g12 g13=>un8 fun g14 g15 g16 g17 g18 g19 g20 g21 g22 hl hd K hK=>?_;subst ha
        simp[Region.binds]at hd;dsimp only at hK ⊢;have e0:=g0 (by simp[hd]);subst e0;have e1:=g1 (by simp[hd]);subst e1;go_simp;exact hK _ _ ⟨_,_,_,_,_,_,_,_,_,_,_,_,_,_,_,_,_,_,_,_,rfl,hb,g0,g1,g2,g3,g4,g5,g6,g7,g8,g9,g10,g11,g12,g13,g14,g15,g16,g17,g18,fun _=>rfl,g20,g21,g22⟩
       ·refine fun L a w'=>ex16 fun _ _ _ _ _ _ _ _ _ _ _ _ _ _ _ _=>ex4 fun _ _ _ _=>un16 fun ha hb g0 g1 g2 g3 g4 g5 g6 g7 g8 g9 g10 g11 g12 g13=>un8 fun g14 g15 g16 g17 g18 g19 g20 g21 g22 hl hd K hK=>?_;subst ha
        simp[Region.binds]at hd;dsimp only at hK ⊢;have e18:=g18 (by simp[hd]);subst e18;have e19:=g19 (by simp[hd]);subst e19;have go:=g20;rw[hl]at go;have cc:=own_cellI go HZO.out;have ff:=own_frozI go k;have kg:=grownBy_set w' ⟨G,k,none⟩ (.int .i64 zt);have GN:=Lib.hid (own_setI (j:=k) (z:=zt) go);have G1:=Lib.hid (g21.row kg (show N5≠G by omega));have G2:=Lib.hid (g22.row kg (show N0≠G by omega));have GB:=Lib.hid (below_row hb kg hwG hb.size);clear go kg;go_simp;exact hK _ _ ⟨_,_,_,_,_,_,_,_,_,_,_,_,_,_,_,_,_,_,_,_,rfl,GB.out,g0,g1,g2,g3,g4,g5,g6,g7,g8,g9,g10,g11,g12,g13,g14,g15,g16,g17,g18,g19,GN.out,G1.out,G2.out⟩
      intro a w7 hI
      revert hI;refine ex16 fun _ _ _ _ _ _ _ _ _ _ _ _ _ _ _ _=>ex4 fun _ _ _ _=>un16 fun ha hb g0 g1 g2 g3 g4 g5 g6 g7 g8 g9 g10 g11 g12 g13=>un8 fun g14 g15 g16 g17 g18 g19 g20 g21 g22=>?_;subst ha
      have O5:=Lib.hid g20;have S5:=Lib.hid g22;have B5:=Lib.hid hb;clear g0 g1 g2 g3 g4 g5 g6 g7 g8 g9 g10 g11 g12 g13 g14 g15 g16 g17 g18 g19 g20 g21 g22 hb w1 w2 w3;go_upto_region 17 with (fail)
      obtain ⟨zn,hzn⟩:∃ zn:Int,min (zt) 65537=zn:=⟨_,rfl⟩
      have HZ:=Lib.hid (show SzTo cs p ((zs.set k (zt)).set k zn) (k+1) by rw[List.set_set];exact SzTo.set hz.out HLT.out (by rw[←hzn];rw[HSZ.out,←HZT.out];omega));have hck:(zs.set k (zt))[k]?=some (zt):=by rw[List.getElem?_set];simp[(List.getElem?_eq_some_iff.1 HZO.out).1]
      have kc:=own_cellI O5.out hck;have kf:=own_frozI O5.out k;have kg:=grownBy_set w7 ⟨G,k,none⟩ (.int .i64 (zn));obtain ⟨Y9,hY9⟩:∃ Y,w7.setCell ⟨G,k,none⟩ (.int .i64 (zn))=Y:=⟨_,rfl⟩
      have O9:=Lib.hid (own_setI (j:=k) (z:=zn) O5.out);rw[hY9]at O9 kg;have S9:=Lib.hid (S5.out.row kg (show N0≠G by omega));have B9:=Lib.hid (below_row B5.out kg hwG B5.out.size);clear kg;go_upto_region 18 with (fail)
      try simp only[hzn]
      try rw[hY9]
      clear hY9 kc kf hzn hck;go_wp2;go_roundw
      case rel=>exact ⟨k+1,_,HLT.out,by go_num,HZ,O9.out,S9.out,B9.out⟩
      case measure=>have:=HLT.out;simp[intOf];omega
  ·have qm:decide (k<p.length)=false:=decide_eq_false hlt;have HZ:=Lib.hid (show zs=szL cs p by
    have h:=hz.out;rw[show k=p.length by omega]at h;exact h.all)
   have hcell:=own_cellI hown (show zs[m]?=some (sizI cs p m:Int) by rw[HZ.out];exact szL_get (by have:=HM.out;omega));have hsz:=sizI_le cs p m;obtain ⟨sz,hse⟩:∃ q,sizI cs p m=q:=⟨_,rfl⟩
   rw[hse]at hcell hsz;have HSE:=Lib.hid hse;have B3:=Lib.hid hbel;have S3:=Lib.hid bS;clear hbel hown bS hse;by_cases hfull:65536<sz
   ·have q3:decide (65536<sz)=true:=decide_eq_true hfull;have q3':decide ((65536:Int)<(sz:Int))=true:=decide_eq_true (by omega);have HF:=Lib.hid (HF3.out m (by first | rfl | trivial) HM.out (by rw[HSE.out];exact hfull));clear hfull HF1 HF2 HF3 HF4 HPK;go_wp2;go_ret2
    exact RetDec.of HF.out rfl B3.out
   ·have q3:decide (65536<sz)=false:=decide_eq_false hfull;have q3':decide ((65536:Int)<(sz:Int))=false:=decide_eq_false (by omega);have HF:=Lib.hid (HF4.out m (by first | rfl | trivial) HM.out (by rw[HSE.out];exact hfull));have HTX:=Lib.hid (rtext_any (.slice A cs.length cA) (.slice AP p.length cP) key cs p w HE.out HK.out m (by have:=HM.out;omega) (by rw[HSE.out];omega) wr B3.out);clear hfull HF1 HF2 HF3 HF4 HPK;have bb:=S3.out;have s0:=bb.cell 0;have s1:=bb.cell 1;simp only[jA,jZ,jS]at s0 s1;clear bb;go_wp2_with fail
    refine HTX.out.mono ?_;rintro _ w5 ⟨S,rfl,hS,hb5⟩;have HS5:=Lib.hid hS;have B5:=Lib.hid (bst B3.out hb5);clear hb5 HTX hS;go_wp2;go_ret2
    exact RetDec.of HF.out HS5.out B5.out
end Go.Proofs.YtjnamjkdjcndiaaGreatDoor
