/-
  Words, plain laws and contracts on which the walks lean, in one text.
-/
import Derived.Test.YtjnamjkdjcndiaaGreatDoorM14
import Derived.Test.YtjnamjkdjcndiaaGreatDoorM11
import Derived.Test.YtjnamjkdjcndiaaGreatDoorVGen
import Derived.Test.YtjnamjkdjcndiaaGreatDoorM12
namespace Go.Proofs.YtjnamjkdjcndiaaGreatDoor
open Go.RowKit Go.Sort

theorem txt_leaf {cs:List Col} {p:List Nd} {i:Nat} {x:Nd} (hx:p[i]?=some x) (h9:x.op<9):txtI cs p i=leafP cs x:=by rw[txtI_eq hx];unfold txtN;rw[if_pos h9]
theorem txt_not {cs:List Col} {p:List Nd} {i:Nat} {x:Nd} (hx:p[i]?=some x) (h:x.op=11) (ha:x.a.toNat<i):txtI cs p i=[40,110,111,116,32]++txtI cs p x.a.toNat ++ [41]:=by
 rw[txtI_eq hx];unfold txtN;rw[if_neg (by omega),if_pos h,txts_get cs p ha]
theorem txt_two {cs:List Col} {p:List Nd} {i:Nat} {x:Nd} (hx:p[i]?=some x) (h9:¬ x.op<9) (h:x.op≠11) (ha:x.a.toNat<i) (hb:x.b.toNat<i):txtI cs p i=(40::wordP x.op ++ [32])++txtI cs p x.a.toNat ++ [32]++txtI cs p x.b.toNat ++ [41]:=by
 rw[txtI_eq hx];unfold txtN;rw[if_neg h9,if_neg h,txts_get cs p ha,txts_get cs p hb]
theorem keepsB_below {b:Nat} {w w':World} (h:Below w.heap.size w w'):KeepsB b w w':=fun _ _ _ _ _ hB=>hB.below h hB.lt
def RetX (B b:Nat) (m:List UInt8) (w:World) (e:Ending) (w':World):Prop:=e=.returned (.tuple #[])∧IsB B b (Lib.byteCells m) w'∧Below B w w'∧KeepsB b w w'∧B≤w'.heap.size
set_option maxRecDepth 100000 in
set_option maxHeartbeats 8000000 in
theorem ptext_any (v pv:Value) (key:Int) (cs:List Col) (p:List Nd) (w0:World) (B b:Nat) (he:PEnv w0 v cs pv p) (hk:POk cs p) (h0B:w0.heap.size≤B) :
  ∀ (i:Nat),i<p.length→sizI cs p i≤65536→∀ (L0:List UInt8) (w:World),Below w0.heap.size w0 w→B≤w.heap.size→IsB B b (Lib.byteCells L0) w→L0.length+sizI cs p i≤200000 →
  Calls Tryz.prog 27 #[.pointer (some ⟨b,0,none⟩),.agg #[v,.int .i64 key],pv,.int .i64 (i:Int)] w (RetX B b (L0++txtI cs p i) w):=by
 obtain ⟨A,cA,rfl,hc1,hc2⟩:=he.hs.form;obtain ⟨AP,cP,rfl,hc3,hc4⟩:=he.hp.form;have HE:=Lib.hid he;have HK:=Lib.hid hk;have H0B:=Lib.hid h0B;have hp64:p.length≤64:=hk.ok.len;clear he hk h0B;intro i
 induction i using Nat.strongRecOn with
 | _ i ih =>
  intro hi hsz L0 w hbw hBw hib hlen
  have IH:=Lib.hid ih;have HI:=Lib.hid hi;have qi:decide (i<p.length)=true:=decide_eq_true hi;have pi':(i<p.length)=True:=eq_true hi;obtain ⟨N0,hN0⟩:∃ N,w.heap.size=N:=⟨_,rfl⟩
  obtain ⟨W,hW⟩:∃ W,W=w.alloc (.cells #[.slice A cs.length cA,.int .i64 key] 28):=⟨_,rfl⟩
  have hwW:Below w.heap.size w W:=by rw[hW];exact (Below.refl _ _).alloc (Nat.le_refl _) _
  have bS:Blk W N0 28 #[.slice A cs.length cA,.int .i64 key]:=by rw[hW,←hN0];exact Blk.new _ _ _
  obtain ⟨ad,x,u,px,rfl,hx,hpx,hE,hu⟩:=(HE.out.hp.below (hbw.trans (hwW.mono (hbw.size)))).nd_load rfl hi;obtain ⟨AU,cU,rfl,_,_⟩:=hu.form;obtain ⟨hplt,c0,c1,c2,c3,c4,c5,c6,c7⟩:=hE;have HX:=Lib.hid hx;have hn:=HK.out.ok.node i x hx;obtain ⟨o1,o2⟩:=node_op hn;have HSUB:=Lib.hid (fun h=>node_sub hn h);obtain ⟨hsT,hsub⟩:=siz_txt HK.out.ok i x hx hsz;have HST:=Lib.hid hsT;have HSS:=Lib.hid hsub;obtain ⟨N1,hN1⟩:∃ N,W.heap.size=N:=⟨_,rfl⟩
  obtain ⟨V,hV⟩:∃ V,V=W.alloc (.cells #[.int .i64 x.op,.int .i64 x.col,.bool x.v.nu,.int .i64 x.v.n,.string x.v.s,.slice AU x.l.length cU,.int .i64 x.a,.int .i64 x.b] 66):=⟨_,rfl⟩
  have hWV:Below W.heap.size W V:=by rw[hV];exact (Below.refl _ _).alloc (Nat.le_refl _) _
  have hwV:Below w.heap.size w V:=bst hwW hWV;have VN:=Lib.hid (show Blk V N1 66 #[.int .i64 x.op,.int .i64 x.col,.bool x.v.nu,.int .i64 x.v.n,.string x.v.s,.slice AU x.l.length cU,.int .i64 x.a,.int .i64 x.b] by rw[hV,←hN1];exact Blk.new _ _ _);have VS:=Lib.hid (bS.below hWV bS.lt);have VU:=Lib.hid (hu.below hWV);have VI:=Lib.hid (isB_below hib hwV);have VK:=Lib.hid (keepsB_below (b:=b) hwV);have VB:=Lib.hid (show Below B w V from hwV.mono hBw);have V0:=Lib.hid (hbw.trans (hwV.mono hbw.size));have hBV:B≤V.heap.size:=Nat.le_trans hBw hwV.size;have hbN0:b<N0:=by rw[←hN0];exact isB_len hib
  have hN01:N0<N1:=by rw[←hN1];exact bS.lt
  have hN1V:N1<V.heap.size:=VN.out.lt;clear hx hn hsT hsub hwW bS hu hWV hwV hib hbw ih;go_enter Tryz.func27,Tryz.ntmps27
  go_upto_region 1 with (fail)
  rw[←hW];try simp only[hN0]
  clear hW;go_upto_region 2 with (fail)
  rw[←hV];try simp only[hN1]
  clear hV hN0 hN1 c0 c1 c2 c3 c4 c5 c6 c7 hpx hplt;by_cases h9:x.op<9
  ·have q9:decide (x.op<9)=true:=decide_eq_true h9;obtain ⟨hLF,hll⟩:=leaf_at (key:=key) (w:=V) HE.out HK.out HX.out h9 VU.out V0.out;have HLF:=Lib.hid hLF;have HTX:=Lib.hid (txt_leaf (cs:=cs) HX.out h9);clear hLF h9;have bb:=VN.out;have n0:=bb.cell 0;have n1:=bb.cell 1;have n2:=bb.cell 2;have n3:=bb.cell 3;have n4:=bb.cell 4;have n5:=bb.cell 5;have n6:=bb.cell 6;have n7:=bb.cell 7;simp only[jA,jZ,jS]at n0 n1 n2 n3 n4 n5 n6 n7;clear bb;have bb:=VS.out;have s0:=bb.cell 0;have s1:=bb.cell 1;simp only[jA,jZ,jS]at s0 s1;clear bb;go_wp2_with fail
   refine HLF.out.mono ?_;rintro _ w3 ⟨S,rfl,hS,hb3⟩;have hSs:S.size≤4300:=by rw[size_of hS];exact hll
   have I3:=Lib.hid (isB_below VI.out hb3);have B3:=Lib.hid (VB.out.trans (hb3.mono hBV));have K3:=Lib.hid (VK.out.trans (keepsB_below hb3));have Z3:=Lib.hid (V0.out.trans (hb3.mono V0.out.size));have hB3:B≤w3.heap.size:=Nat.le_trans hBV hb3.size;have HS:=Lib.hid hS;clear hb3 HLF hS hll;clear n0 n1 n2 n3 n4 n5 n6 n7;clear s0 s1;have HWR:=Lib.hid (write_any (B:=B) (b:=b) (l:=L0) (m:=(L0++txtI cs p i)) S w3 I3.out (by rw[HS.out,HTX.out]) (by omega) hB3);go_wp2_with fail
   refine HWR.out.mono ?_;rintro _ w4 ⟨rfl,hI,hb,hkk,hB4⟩;have I4:=Lib.hid hI;have B4:=Lib.hid (B3.out.trans hb);have K4:=Lib.hid (K3.out.trans hkk);have Z4:=Lib.hid (Z3.out.trans (hb.mono H0B.out));clear hI hb hkk HWR;go_wp2;go_end0
   exact ⟨rfl,I4.out,B4.out,K4.out,hB4⟩
  ·have q9:decide (x.op<9)=false:=decide_eq_false h9;obtain ⟨a0,a1,hb⟩:=HSUB.out (by omega);obtain ⟨ea,hea⟩:=Int.eq_ofNat_of_zero_le a0;have hak:ea<i:=by omega
   obtain ⟨hs6,hs2⟩:=HSS.out (by omega);have hta:x.a.toNat=ea:=by omega
   rw[hta]at hs6 hs2;obtain ⟨J,B0,hJ,hJ11,hBJ,hBW⟩:=word_at o1 o2;have HBJ:=Lib.hid hBJ;have HBW:=Lib.hid hBW;have hwl:B0.size≤4:=by rw[size_of hBW];exact wordP_len x.op
   have wj:IntKind.i64.wrap (x.op - 1)=(J:Int):=by rw[hJ,show (J:Int)+1 - 1=(J:Int) by omega];exact IntWalk.i64_in _ (by omega)
   have pj:((J:Int)<11)=True:=eq_true (by omega);have qj:decide (J<11)=true:=decide_eq_true hJ11;obtain ⟨M1,hM1⟩:∃ q,L0++(40::wordP x.op ++ [32])=q:=⟨_,rfl⟩
   have HM1:=Lib.hid hM1;have hM1l:M1.length≤L0.length+2+(wordP x.op).length:=by rw[←hM1];simp only[List.length_append,List.length_cons,List.length_nil];omega
   have hwl2:=wordP_len x.op;have HEA:=Lib.hid (show x.a=(ea:Int) from hea);have t1:¬9223372036854775807<1+B0.size:=by omega
   have t2:¬9223372036854775807<1+B0.size+1:=by omega
   clear hJ hBJ hBW hM1 hea;have bb:=VN.out;have n0:=bb.cell 0;have n1:=bb.cell 1;have n2:=bb.cell 2;have n3:=bb.cell 3;have n4:=bb.cell 4;have n5:=bb.cell 5;have n6:=bb.cell 6;have n7:=bb.cell 7;simp only[jA,jZ,jS]at n0 n1 n2 n3 n4 n5 n6 n7;clear bb;go_upto_region 4 with (fail)
   clear n0 n1 n2 n3 n4 n5 n6 n7;refine wp_region_inv (by kernel_rfl) (by kernel_rfl) (fun L a w'=>∃ u21 u22 u23 u24 u25 u26 u27 u28 u29 u30:Value,a=⟨#[.pointer (some ⟨b,0,none⟩),.agg #[.slice A cs.length cA,.int .i64 key],.slice (some ad) p.length cP,.int .i64 i,undef,.pointer (some ⟨N0,0,none⟩),undef,undef,.pointer (some ⟨N1,0,none⟩),.slice (some ad) p.length cP,.int .i64 i,.pointer (some px),.agg #[.int .i64 x.op,.int .i64 x.col,.bool x.v.nu,.int .i64 x.v.n,.string x.v.s,.slice AU x.l.length cU,.int .i64 x.a,.int .i64 x.b],.pointer (some ⟨N1,0,none⟩),.int .i64 x.op,.bool false,undef,undef,undef,undef,undef,u21,u22,u23,u24,u25,u26,u27,u28,u29,u30,undef,undef,undef,undef,undef,undef,undef,undef,undef,undef,undef,undef,undef,undef,undef,undef,undef,undef,undef],[]⟩ ∧
     Below B V w'∧Got (L 0) u21 (.pointer (some ⟨b,0,none⟩))∧GotRow (L 1) V.heap.size u22 11 9 #[.string { data:=#[101,113] },.string { data:=#[110,101] },.string { data:=#[108,116] },.string { data:=#[108,101] },.string { data:=#[103,116] },.string { data:=#[103,101] },.string { data:=#[105,110] },.string { data:=#[110,117,108,108] },.string { data:=#[97,110,100] },.string { data:=#[111,114] },.string { data:=#[110,111,116] }] w'∧Got (L 2) u23 (.pointer (some ⟨N1,0,none⟩))∧Got (L 3) u24 (.int .i64 x.op)∧Got (L 4) u25 (.int .i64 (J:Int))∧GotPtr (L 5) V.heap.size u26 J 9 #[.string { data:=#[101,113] },.string { data:=#[110,101] },.string { data:=#[108,116] },.string { data:=#[108,101] },.string { data:=#[103,116] },.string { data:=#[103,101] },.string { data:=#[105,110] },.string { data:=#[110,117,108,108] },.string { data:=#[97,110,100] },.string { data:=#[111,114] },.string { data:=#[110,111,116] }] w'∧Got (L 6) u27 (.string B0)∧Got (L 7) u28 (.string ({ data:=#[40] } ++ B0))∧Got (L 8) u29 (.string ({ data:=#[40] } ++ B0 ++ { data:=#[32] }))∧IsB B b (Lib.byteCells (cond (L 9) M1 L0)) w'∧KeepsB b V w'∧V.heap.size≤w'.heap.size)
    ?_ ?_ ?_
   ·exact ⟨_,_,_,_,_,_,_,_,_,_,rfl,(Below.refl _ _).drew,nofun,nofun,nofun,nofun,nofun,nofun,nofun,nofun,nofun,VI.out,KeepsB.refl _ _,Nat.le_refl _⟩
   ·refine ⟨?_,?_,?_,?_,?_,?_,?_,?_,?_,?_,trivial⟩
    ·refine fun L a w'=>ex8 fun _ _ _ _ _ _ _ _=>ex2 fun _ _=>un8 fun ha hb g0 g1 g2 g3 g4 g5=>un4 fun g6 g7 g8 g9=>un1 fun g10 g11 hl hd K hK=>?_;subst ha
     dsimp only at hK ⊢;go_simp;exact hK _ _ ⟨_,_,_,_,_,_,_,_,_,_,rfl,hb,fun _=>rfl,g1,g2,g3,g4,g5,g6,g7,g8,g9,g10,g11⟩
    ·refine fun L a w'=>ex8 fun _ _ _ _ _ _ _ _=>ex2 fun _ _=>un8 fun ha hb g0 g1 g2 g3 g4 g5=>un4 fun g6 g7 g8 g9=>un1 fun g10 g11 hl hd K hK=>?_;subst ha
     dsimp only at hK ⊢;go_wp2_with fail
     refine (pwords_any w').mono ?_;rintro _ w4 ⟨gq,rfl,hg,hB,hb4⟩;exact hK _ _ ⟨_,_,_,_,_,_,_,_,_,_,rfl,hb.trans (hb4.mono (Nat.le_trans hBV g11)),g0,fun _=>⟨gq,rfl,Nat.le_trans g11 hg,hB⟩,g2,g3,g4,g5.below hb4,g6,g7,g8,isB_below g9 hb4,g10.trans (keepsB_below hb4),Nat.le_trans g11 hb4.size⟩
    ·refine fun L a w'=>ex8 fun _ _ _ _ _ _ _ _=>ex2 fun _ _=>un8 fun ha hb g0 g1 g2 g3 g4 g5=>un4 fun g6 g7 g8 g9=>un1 fun g10 g11 hl hd K hK=>?_;subst ha
     dsimp only at hK ⊢;go_simp;exact hK _ _ ⟨_,_,_,_,_,_,_,_,_,_,rfl,hb,g0,g1,fun _=>rfl,g3,g4,g5,g6,g7,g8,g9,g10,g11⟩
    ·refine fun L a w'=>ex8 fun _ _ _ _ _ _ _ _=>ex2 fun _ _=>un8 fun ha hb g0 g1 g2 g3 g4 g5=>un4 fun g6 g7 g8 g9=>un1 fun g10 g11 hl hd K hK=>?_;subst ha
     simp[Region.binds]at hd;dsimp only at hK ⊢;have e2:=g2 (by simp[hd]);subst e2;have bb:=(g10 _ _ _ (by omega) (by decide) VN.out)
     have c0:=bb.cell 0;have c1:=bb.cell 1;have c2:=bb.cell 2;have c3:=bb.cell 3;have c4:=bb.cell 4;have c5:=bb.cell 5;have c6:=bb.cell 6;have c7:=bb.cell 7;simp only[jA,jZ,jS]at c0 c1 c2 c3 c4 c5 c6 c7;clear bb;go_simp;exact hK _ _ ⟨_,_,_,_,_,_,_,_,_,_,rfl,hb,g0,g1,g2,fun _=>rfl,g4,g5,g6,g7,g8,g9,g10,g11⟩
    ·refine fun L a w'=>ex8 fun _ _ _ _ _ _ _ _=>ex2 fun _ _=>un8 fun ha hb g0 g1 g2 g3 g4 g5=>un4 fun g6 g7 g8 g9=>un1 fun g10 g11 hl hd K hK=>?_;subst ha
     simp[Region.binds]at hd;dsimp only at hK ⊢;have e3:=g3 (by simp[hd]);subst e3;go_simp;exact hK _ _ ⟨_,_,_,_,_,_,_,_,_,_,rfl,hb,g0,g1,g2,g3,fun _=>rfl,g5,g6,g7,g8,g9,g10,g11⟩
    ·refine fun L a w'=>ex8 fun _ _ _ _ _ _ _ _=>ex2 fun _ _=>un8 fun ha hb g0 g1 g2 g3 g4 g5=>un4 fun g6 g7 g8 g9=>un1 fun g10 g11 hl hd K hK=>?_;subst ha
     simp[Region.binds]at hd;dsimp only at hK ⊢;have e4:=g4 (by simp[hd]);subst e4;obtain ⟨gq,hg0,hgN,hgB⟩:=g1 (by simp[hd]);subst hg0;go_simp;exact hK _ _ ⟨_,_,_,_,_,_,_,_,_,_,rfl,hb,g0,fun _=>⟨gq,rfl,hgN,hgB⟩,g2,g3,g4,fun _=>⟨gq,rfl,hgN,hgB⟩,g6,g7,g8,g9,g10,g11⟩
    ·refine fun L a w'=>ex8 fun _ _ _ _ _ _ _ _=>ex2 fun _ _=>un8 fun ha hb g0 g1 g2 g3 g4 g5=>un4 fun g6 g7 g8 g9=>un1 fun g10 g11 hl hd K hK=>?_;subst ha
     simp[Region.binds]at hd;dsimp only at hK ⊢;obtain ⟨gq,hg0,hgN,hgB⟩:=g5 (by simp[hd]);subst hg0;have cc:=(hgB.cell J).trans HBJ.out;go_simp;exact hK _ _ ⟨_,_,_,_,_,_,_,_,_,_,rfl,hb,g0,g1,g2,g3,g4,fun _=>⟨gq,rfl,hgN,hgB⟩,fun _=>rfl,g7,g8,g9,g10,g11⟩
    ·refine fun L a w'=>ex8 fun _ _ _ _ _ _ _ _=>ex2 fun _ _=>un8 fun ha hb g0 g1 g2 g3 g4 g5=>un4 fun g6 g7 g8 g9=>un1 fun g10 g11 hl hd K hK=>?_;subst ha
     simp[Region.binds]at hd;dsimp only at hK ⊢;have e6:=g6 (by simp[hd]);subst e6;go_simp;exact hK _ _ ⟨_,_,_,_,_,_,_,_,_,_,rfl,hb,g0,g1,g2,g3,g4,g5,g6,fun _=>rfl,g8,g9,g10,g11⟩
    ·refine fun L a w'=>ex8 fun _ _ _ _ _ _ _ _=>ex2 fun _ _=>un8 fun ha hb g0 g1 g2 g3 g4 g5=>un4 fun g6 g7 g8 g9=>un1 fun g10 g11 hl hd K hK=>?_;subst ha
     simp[Region.binds]at hd;dsimp only at hK ⊢;have e7:=g7 (by simp[hd]);subst e7;go_simp;exact hK _ _ ⟨_,_,_,_,_,_,_,_,_,_,rfl,hb,g0,g1,g2,g3,g4,g5,g6,g7,fun _=>rfl,g9,g10,g11⟩
    ·refine fun L a w'=>ex8 fun _ _ _ _ _ _ _ _=>ex2 fun _ _=>un8 fun ha hb g0 g1 g2 g3 g4 g5=>un4 fun g6 g7 g8 g9=>un1 fun g10 g11 hl hd K hK=>?_;subst ha
     simp[Region.binds]at hd;dsimp only at hK ⊢;have e0:=g0 (by simp[hd]);subst e0;have e8:=g8 (by simp[hd]);subst e8;have hB9:=g9;rw[hl]at hB9;have HWR:=Lib.hid (write_any (B:=B) (b:=b) (l:=L0) (m:=M1) ({ data:=#[40] } ++ B0 ++ { data:=#[32] }) w' hB9 (by rw[←HM1.out];simp[ByteArray.data_append,HBW.out]) (by rw[ByteArray.size_append,ByteArray.size_append];show L0.length+(1+B0.size+1)≤_;omega) (Nat.le_trans hBV g11));clear hB9;go_wp2_with fail
     refine HWR.out.mono ?_;rintro _ w4 ⟨rfl,hI4,hb4,hk4,hB4⟩;exact hK _ _ ⟨_,_,_,_,_,_,_,_,_,_,rfl,hb.trans hb4,g0,g1.keepB hk4 (by decide) (by omega),g2,g3,g4,g5.keepB hk4 (by decide) (by omega),g6,g7,g8,hI4,g10.trans hk4,Nat.le_trans g11 hb4.size⟩
   intro a w4 hI
   revert hI;refine ex8 fun _ _ _ _ _ _ _ _=>ex2 fun _ _=>un8 fun ha hb g0 g1 g2 g3 g4 g5=>un4 fun g6 g7 g8 g9=>un1 fun g10 g11=>?_;subst ha
   have I4:=Lib.hid (show IsB B b (Lib.byteCells M1) w4 from g9);have B4:=Lib.hid (VB.out.trans hb);have K4:=Lib.hid (VK.out.trans g10);have Z4:=Lib.hid (V0.out.trans (hb.mono H0B.out));have S4:=Lib.hid (g10 _ _ _ (by omega) (by decide) VS.out);have N4:=Lib.hid (g10 _ _ _ (by omega) (by decide) VN.out);have hB4:B≤w4.heap.size:=Nat.le_trans hBV g11;clear g0 g1 g2 g3 g4 g5 g6 g7 g8 g9 g10 g11 hb;have hxa:=List.getElem?_eq_getElem (show ea<p.length by omega);have hLa:=(siz_txt HK.out.ok ea _ hxa (by omega)).1;obtain ⟨M2,hM2⟩:∃ q,M1++txtI cs p ea=q:=⟨_,rfl⟩
   have HM2:=Lib.hid hM2;have hM2l:M2.length=M1.length+sizI cs p ea:=by rw[←hM2,List.length_append,hLa]
   clear hxa hLa;have HN2:=Lib.hid hM2l;have hM2b:M2.length≤L0.length+2+(wordP x.op).length+sizI cs p ea:=by omega
   clear hM2l;have HRC:=Lib.hid (IH.out ea (by omega) (by omega) (by omega) M1 w4 Z4.out hB4 I4.out (by omega));rw[hM2]at HRC;have bb:=N4.out;have n0:=bb.cell 0;have n1:=bb.cell 1;have n2:=bb.cell 2;have n3:=bb.cell 3;have n4:=bb.cell 4;have n5:=bb.cell 5;have n6:=bb.cell 6;have n7:=bb.cell 7;simp only[jA,jZ,jS]at n0 n1 n2 n3 n4 n5 n6 n7;clear bb;have bb:=S4.out;have s0:=bb.cell 0;have s1:=bb.cell 1;simp only[jA,jZ,jS]at s0 s1;clear bb;rw[HEA.out]at n6;go_wp2_with fail
   refine HRC.out.mono ?_;rintro _ w5 ⟨rfl,hI,hb,hkk,hB5⟩;have I5:=Lib.hid hI;have B5:=Lib.hid (B4.out.trans hb);have K5:=Lib.hid (K4.out.trans hkk);have Z5:=Lib.hid (Z4.out.trans (hb.mono H0B.out));have S5:=Lib.hid (hkk _ _ _ (by omega) (by decide) S4.out);have N5:=Lib.hid (hkk _ _ _ (by omega) (by decide) N4.out);clear hI hb hkk HRC;clear n0 n1 n2 n3 n4 n5 n6 n7;clear s0 s1;clear hM2;by_cases h11:x.op=11
   ·have HTX:=Lib.hid (show txtI cs p i=[40,110,111,116,32]++txtI cs p ea ++ [41] by have h:=txt_not (cs:=cs) HX.out h11 (by omega);rw[hta]at h;exact h);have HW11:=Lib.hid (show wordP x.op=[110,111,116] by rw[h11];rfl);have q11:(x.op != 11)=false:=by simp[h11]
    clear h11 hta;have bb:=N5.out;have n0:=bb.cell 0;have n1:=bb.cell 1;have n2:=bb.cell 2;have n3:=bb.cell 3;have n4:=bb.cell 4;have n5:=bb.cell 5;have n6:=bb.cell 6;have n7:=bb.cell 7;simp only[jA,jZ,jS]at n0 n1 n2 n3 n4 n5 n6 n7;clear bb;go_upto_region 9 with (fail)
    clear n0 n1 n2 n3 n4 n5 n6 n7;have HWR:=Lib.hid (write_any (B:=B) (b:=b) (l:=M2) (m:=(L0++txtI cs p i)) { data:=#[41] } w5 I5.out (by rw[←HM2.out,←HM1.out,HTX.out,HW11.out];simp) (by show M2.length+1≤_;omega) hB5);go_wp2_with fail
    refine HWR.out.mono ?_;rintro _ w6 ⟨rfl,hI,hb,hkk,hB6⟩;have I6:=Lib.hid hI;have B6:=Lib.hid (B5.out.trans hb);have K6:=Lib.hid (K5.out.trans hkk);have Z6:=Lib.hid (Z5.out.trans (hb.mono H0B.out));clear hI hb hkk HWR;go_wp2;go_end0
    exact ⟨rfl,I6.out,B6.out,K6.out,hB6⟩
   ·obtain ⟨b0,b1⟩:=hb h11;obtain ⟨eb,heb⟩:=Int.eq_ofNat_of_zero_le b0;have hbk:eb<i:=by omega
    have htb:x.b.toNat=eb:=by omega
    have hs2:=hs2 h11;rw[htb]at hs2;have HTX:=Lib.hid (show txtI cs p i=(40::wordP x.op ++ [32])++txtI cs p ea ++ [32]++txtI cs p eb ++ [41] by have h:=txt_two (cs:=cs) HX.out (by omega) h11 (by omega) (by omega);rw[hta,htb]at h;exact h);have HEB:=Lib.hid (show x.b=(eb:Int) from heb);have q11:(x.op != 11)=true:=by simpa using h11
    clear h11 hta htb heb b0 b1 hb h9;have bb:=N5.out;have n0:=bb.cell 0;have n1:=bb.cell 1;have n2:=bb.cell 2;have n3:=bb.cell 3;have n4:=bb.cell 4;have n5:=bb.cell 5;have n6:=bb.cell 6;have n7:=bb.cell 7;simp only[jA,jZ,jS]at n0 n1 n2 n3 n4 n5 n6 n7;clear bb;go_upto_region 7 with (fail)
    clear n0 n1 n2 n3 n4 n5 n6 n7;obtain ⟨M3,hM3⟩:∃ q,M2 ++ [32]=q:=⟨_,rfl⟩
    have HM3:=Lib.hid hM3;have hM3l:M3.length=M2.length+1:=by rw[←hM3,List.length_append];rfl
    have hM3b:M3.length≤L0.length+3+(wordP x.op).length+sizI cs p ea:=by omega
    clear hM3 hM3l;have HWR:=Lib.hid (write_any (B:=B) (b:=b) (l:=M2) (m:=M3) { data:=#[32] } w5 I5.out (by exact HM3.out) (by show M2.length+1≤_;omega) hB5);go_wp2_with fail
    refine HWR.out.mono ?_;rintro _ w6 ⟨rfl,hI,hb,hkk,hB6⟩;have I6:=Lib.hid hI;have B6:=Lib.hid (B5.out.trans hb);have K6:=Lib.hid (K5.out.trans hkk);have Z6:=Lib.hid (Z5.out.trans (hb.mono H0B.out));have S6:=Lib.hid (hkk _ _ _ (by omega) (by decide) S5.out);have N6:=Lib.hid (hkk _ _ _ (by omega) (by decide) N5.out);clear hI hb hkk HWR;have hxb:=List.getElem?_eq_getElem (show eb<p.length by omega);have hLb:=(siz_txt HK.out.ok eb _ hxb (by omega)).1;obtain ⟨M4,hM4⟩:∃ q,M3++txtI cs p eb=q:=⟨_,rfl⟩
    have HM4:=Lib.hid hM4;have hM4l:M4.length=M3.length+sizI cs p eb:=by rw[←hM4,List.length_append,hLb]
    have hM4b:M4.length≤L0.length+3+(wordP x.op).length+sizI cs p ea+sizI cs p eb:=by omega
    clear hxb hLb hM4l;have HRC:=Lib.hid (IH.out eb (by omega) (by omega) (by omega) M3 w6 Z6.out hB6 I6.out (by omega));rw[hM4]at HRC;have bb:=N6.out;have n0:=bb.cell 0;have n1:=bb.cell 1;have n2:=bb.cell 2;have n3:=bb.cell 3;have n4:=bb.cell 4;have n5:=bb.cell 5;have n6:=bb.cell 6;have n7:=bb.cell 7;simp only[jA,jZ,jS]at n0 n1 n2 n3 n4 n5 n6 n7;clear bb;have bb:=S6.out;have s0:=bb.cell 0;have s1:=bb.cell 1;simp only[jA,jZ,jS]at s0 s1;clear bb;rw[HEB.out]at n7;go_wp2_with fail
    refine HRC.out.mono ?_;rintro _ w7 ⟨rfl,hI,hb,hkk,hB7⟩;have I7:=Lib.hid hI;have B7:=Lib.hid (B6.out.trans hb);have K7:=Lib.hid (K6.out.trans hkk);have Z7:=Lib.hid (Z6.out.trans (hb.mono H0B.out));have S7:=Lib.hid (hkk _ _ _ (by omega) (by decide) S6.out);have N7:=Lib.hid (hkk _ _ _ (by omega) (by decide) N6.out);clear hI hb hkk HRC;clear n0 n1 n2 n3 n4 n5 n6 n7;clear s0 s1;clear hM4;have HWR:=Lib.hid (write_any (B:=B) (b:=b) (l:=M4) (m:=(L0++txtI cs p i)) { data:=#[41] } w7 I7.out (by rw[←HM4.out,←HM3.out,←HM2.out,←HM1.out,HTX.out];simp) (by show M4.length+1≤_;omega) hB7);go_wp2_with fail
    refine HWR.out.mono ?_;rintro _ w8 ⟨rfl,hI,hb,hkk,hB8⟩;have I8:=Lib.hid hI;have B8:=Lib.hid (B7.out.trans hb);have K8:=Lib.hid (K7.out.trans hkk);have Z8:=Lib.hid (Z7.out.trans (hb.mono H0B.out));clear hI hb hkk HWR;go_wp2;go_end0
    exact ⟨rfl,I8.out,B8.out,K8.out,hB8⟩

structure PBd (cs:List Col) (p:List Nd):Prop where
 cl:cs.length≤9223372036854775807
 pl:p.length≤9223372036854775807
 nm:∀ c ∈ cs,c.nm.size≤9223372036854775807
 rv:∀ x ∈ p,VR x.v
 rl:∀ x ∈ p,∀ e ∈ x.l,VR e
theorem PBd.pok {cs:List Col} {key:Int} {p:List Nd} (h:PBd cs p) (hc:pchkV cs key p=0):POk cs p:=by
 obtain ⟨h1,h2⟩:=pchk_ok hc;obtain ⟨_,v2,v3,_,_⟩:=schk_valid h1;exact ⟨h2,v2,v3,h.rv,h.rl⟩
theorem fmtP_err {cs:List Col} {key:Int} {p:List Nd} (h:pchkV cs key p≠0):fmtP cs key p=([],pchkV cs key p):=by unfold fmtP;rw[if_pos h]
theorem fmtP_nil {cs:List Col} {key:Int} {p:List Nd} (h:pchkV cs key p=0) (h0:p.length=0):fmtP cs key p=([],0):=by unfold fmtP;rw[if_neg (by simp[h]),if_pos h0]
theorem fmtP_full {cs:List Col} {key:Int} {p:List Nd} {m:Nat} (h:pchkV cs key p=0) (h0:p.length=m+1) (hs:65536<sizI cs p m):fmtP cs key p=([],7):=by
 unfold fmtP;rw[if_neg (by simp[h]),if_neg (by omega),h0,if_pos (by simpa using hs)]
theorem fmtP_text {cs:List Col} {key:Int} {p:List Nd} {m:Nat} (h:pchkV cs key p=0) (h0:p.length=m+1) (hs:¬ 65536<sizI cs p m):fmtP cs key p=(txtI cs p m,0):=by
 unfold fmtP;rw[if_neg (by simp[h]),if_neg (by omega),h0,if_neg (by simpa using hs)];rfl
theorem RetDec.of {w w':World} {r:List UInt8×Int} {l:List UInt8} {S:ByteArray} {x:Int} (h:r=(l,x)) (hS:S.data.toList=l) (hb:Below w.heap.size w w'):RetDec w r (.returned (.tuple #[.string S,.int .i64 x])) w':=RetDec.mk_ (by rw[h];exact hS) (by rw[h]) hb
set_option maxRecDepth 100000 in
set_option maxHeartbeats 8000000 in
theorem pfmt_any (v pv:Value) (key:Int) (cs:List Col) (p:List Nd) (w:World) (he:PEnv w v cs pv p) (hd:PBd cs p) :
  Calls Tryz.prog 11 #[.agg #[v,.int .i64 key],pv] w (RetDec w (fmtP cs key p)):=by
 obtain ⟨A,cA,rfl,hc1,hc2⟩:=he.hs.form;obtain ⟨AP,cP,rfl,hc3,hc4⟩:=he.hp.form;have HE:=Lib.hid he;have HD:=Lib.hid hd;have hpl:=hd.pl;obtain ⟨N0,hN0⟩:∃ N,w.heap.size=N:=⟨_,rfl⟩
 obtain ⟨W,hW⟩:∃ W,W=w.alloc (.cells #[.slice A cs.length cA,.int .i64 key] 28):=⟨_,rfl⟩
 have hb0:Below w.heap.size w W:=by rw[hW];exact (Below.refl _ _).alloc (Nat.le_refl _) _
 have BS:=Lib.hid (show Blk W N0 28 #[.slice A cs.length cA,.int .i64 key] by rw[hW,←hN0];exact Blk.new _ _ _);have HB0:=Lib.hid hb0;have HC:=Lib.hid (pchk_any (.slice A cs.length cA) (.slice AP p.length cP) key cs p W (he.hs.below hb0) (he.hp.below hb0) hd.cl hd.pl hd.nm (fun x hx=>(hd.rv x hx).2.2) (fun x hx e he=>(hd.rl x hx e he).2.2));have HF1:=Lib.hid (fmtP_err (cs:=cs) (key:=key) (p:=p));have HF2:=Lib.hid (fmtP_nil (cs:=cs) (key:=key) (p:=p));have HF3:=Lib.hid (fun m=>fmtP_full (cs:=cs) (key:=key) (p:=p) (m:=m));have HF4:=Lib.hid (fun m=>fmtP_text (cs:=cs) (key:=key) (p:=p) (m:=m));have HPK:=Lib.hid (fun h=>hd.pok (key:=key) h);obtain ⟨E,hE⟩:∃ E,pchkV cs key p=E:=⟨_,rfl⟩
 rw[hE]at HC HF1 HF2 HF3 HF4 HPK;clear he hd hb0 hE;go_enter Tryz.func11,Tryz.ntmps11
 go_upto_region 1 with (fail)
 rw[←hW];try simp only[hN0]
 clear hW;have bb:=BS.out;have s0:=bb.cell 0;have s1:=bb.cell 1;simp only[jA,jZ,jS]at s0 s1;clear bb;go_wp2_with fail
 refine HC.out.mono ?_;rintro _ w2 ⟨rfl,hb2⟩;have HB2:=Lib.hid (bst HB0.out hb2);have BS2:=Lib.hid (BS.out.below hb2 BS.out.lt);clear hb2 HC;clear s0 s1;by_cases hE:E=0
 case neg =>
  have q1:(E != 0)=true:=by simpa using hE
  have HF:=Lib.hid (HF1.out hE);clear hE HF1 HF2 HF3 HF4 HPK;go_wp2;go_ret2
  exact RetDec.of HF.out rfl HB2.out
 case pos =>
 subst hE;have HK:=Lib.hid (HPK.out rfl);by_cases h0:p.length=0
 ·have q2:((p.length:Int)==0)=true:=by simp[h0]
  have q2':(p.length==0)=true:=by simp[h0]
  have HF:=Lib.hid (HF2.out rfl h0);clear h0 HF1 HF2 HF3 HF4 HPK;go_wp2;go_ret2
  exact RetDec.of HF.out rfl HB2.out
 have q2:((p.length:Int)==0)=false:=by rw[beq_eq_false_iff_ne];omega
 have q2':(p.length==0)=false:=by simpa using h0
 obtain ⟨m,hm⟩:∃ m,p.length=m+1:=⟨p.length - 1,by omega⟩
 have hp64:p.length≤64:=HK.out.ok.len;have HM:=Lib.hid hm;have wm:IntKind.i64.wrap ((p.length:Int) - 1)=(m:Int):=by rw[hm];push_cast;rw[show (m:Int)+1 - 1=m by omega];exact IntWalk.i64_in _ (by omega)
 have qm:decide (m<p.length)=true:=decide_eq_true (by omega);have pm:(m<p.length)=True:=eq_true (by omega);have hm63:m≤63:=by omega
 have HLN:=Lib.hid (plen_any (.slice A cs.length cA) (.slice AP p.length cP) key cs p w2 ⟨HE.out.ht.below HB2.out,HE.out.hs.below HB2.out,HE.out.hp.below HB2.out⟩ HK.out);have hsz:=sizI_le cs p m;clear hm h0;have bb:=BS2.out;have s0:=bb.cell 0;have s1:=bb.cell 1;simp only[jA,jZ,jS]at s0 s1;clear bb;go_wp2_with fail
 refine HLN.out.mono ?_;rintro _ w3 ⟨v3,rfl,hb3,ho3⟩;obtain ⟨g,cap,hv3⟩:∃ g cap,v3=.slice (some ⟨g,0,none⟩) p.length cap:=by
  rcases ho3.2 with ⟨_,h0⟩|⟨g,cap,cur,e0,_⟩
  ·exact absurd h0 (by have:=HM.out;omega)
  ·exact ⟨g,cap,e0⟩
 subst hv3;have hcell:=own_cellI ho3 (szL_get (cs:=cs) (p:=p) (i:=m) (by have:=HM.out;omega));obtain ⟨sz,hse⟩:∃ q,sizI cs p m=q:=⟨_,rfl⟩
 rw[hse]at hcell hsz;have HSE:=Lib.hid hse;have HB3:=Lib.hid (bst HB2.out hb3);have BS3:=Lib.hid (BS2.out.below hb3 BS2.out.lt);clear hb3 ho3 HLN hse;clear s0 s1;by_cases hfull:65536<sz
 ·have q3:decide (65536<sz)=true:=decide_eq_true hfull;have q3':decide ((65536:Int)<(sz:Int))=true:=decide_eq_true (by omega);have HF:=Lib.hid (HF3.out m (by first | rfl | trivial) HM.out (by rw[HSE.out];exact hfull));clear hfull HF1 HF2 HF3 HF4 HPK;go_wp2;go_ret2
  exact RetDec.of HF.out rfl HB3.out
 have q3:decide (65536<sz)=false:=decide_eq_false hfull;have q3':decide ((65536:Int)<(sz:Int))=false:=decide_eq_false (by omega);have HF:=Lib.hid (HF4.out m (by first | rfl | trivial) HM.out (by rw[HSE.out];exact hfull));obtain ⟨B,hB⟩:∃ B,w3.heap.size=B:=⟨_,rfl⟩
 obtain ⟨X,hX⟩:∃ X,X=w3.alloc (.cells #[.pointer none,.slice none 0 0] 61):=⟨_,rfl⟩
 have hb3X:Below w3.heap.size w3 X:=by rw[hX];exact (Below.refl _ _).alloc (Nat.le_refl _) _
 have bb:=Blk.new w3 61 #[.pointer none,.slice none 0 0];rw[←hX,hB]at bb;have XI:=Lib.hid (show IsB B B (Lib.byteCells []) X from .inl ⟨Nat.le_refl _,_,bb,World.ownsRow_nil _ _ _ _,by simp[Value.ownBlock]⟩);have XB:=Lib.hid (bst HB3.out hb3X);have XS:=Lib.hid (BS3.out.below hb3X BS3.out.lt);have hwB:w.heap.size≤B:=by rw[←hB];exact HB3.out.size
 have hBX:B≤X.heap.size:=by rw[←hB];exact hb3X.size
 have HTX:=Lib.hid (ptext_any (.slice A cs.length cA) (.slice AP p.length cP) key cs p w B B HE.out HK.out hwB m (by have:=HM.out;omega) (by rw[HSE.out];omega) [] X XB.out hBX XI.out (by rw[HSE.out];simp;omega));rw[List.nil_append]at HTX;clear hfull HF1 HF2 HF3 HF4 HPK hb3X bb;go_upto_region 9 with (fail)
 rw[←hX];try simp only[hB]
 clear hX hB hcell;have bb:=XS.out;have s0:=bb.cell 0;have s1:=bb.cell 1;simp only[jA,jZ,jS]at s0 s1;clear bb;go_wp2_with fail
 refine HTX.out.mono ?_;rintro _ w4 ⟨rfl,hI4,hb4,_,hB4⟩;have B4:=Lib.hid (XB.out.trans (hb4.mono hwB));have HST:=Lib.hid (Tryz.Builder_String_any B B (txtI cs p m) w4 hI4 hB4);clear hI4 HTX hb4;clear s0 s1;go_wp2_with fail
 refine HST.out.mono ?_;rintro _ w5 ⟨rfl,hb5⟩;have B5:=Lib.hid (B4.out.trans (hb5.mono hwB));clear hb5 HST;go_wp2;go_ret2
 exact RetDec.of HF.out (by simp) B5.out
theorem chk_of_ok {t n:Int} {cn b:Bool} {s:ByteArray} (h:ValOk t cn b n s) (h1:1≤t) (h5:t≤5):checkV t cn b n s=0:=by
  obtain ⟨ha,hb,hc,hd⟩:=h;unfold checkV
  rw[if_neg (by omega)];cases b with
  | true =>
    obtain ⟨e1,e2,e3⟩:=ha rfl;rw[if_neg (by simp[e3]),if_neg (by simp[e2]),if_neg (by simp[e1]),if_neg (by simp)]
  | false =>
    obtain ⟨f1,f2,f3,f4,f5⟩:=hb rfl;rw[if_neg,if_neg,if_neg (by simp),if_neg]
    · rintro ⟨_,hp⟩
      unfold permB at hp
      by_cases e2:t=2
      · rw[if_pos e2]at hp;have:=f3 e2;simp at hp;omega
      · rw[if_neg e2]at hp
        by_cases e4:t=4
        · rw[if_pos e4]at hp;have:=f4 e4;simp at hp;omega
        · rw[if_neg e4]at hp
          by_cases e5:t=5
          · rw[if_pos e5]at hp;have:=f5 e5;simp at hp;omega
          · rw[if_neg e5]at hp
            by_cases e3:t=3
            · rw[if_pos e3]at hp;have:=f1 e3;simp at hp;omega
            · rw[if_neg e3]at hp;cases hp
    · rintro ⟨h,h'⟩
      rcases h with h|h
      · cases h
      · exact h' (f1 h).1
    · rintro ⟨h,h'⟩
      rcases h with h|h
      · cases h
      · exact h' (f2 h)
theorem ok_small {t n:Int} {cn b:Bool} {s:ByteArray} (h:ValOk t cn b n s):s.size≤3:=by
  obtain ⟨ha,hb,_,_⟩:=h;cases b with
  | true=>have:=(ha rfl).2.2;omega
  | false =>
    obtain ⟨f1,f2,_⟩:=hb rfl;by_cases e:t=3
    · exact (f1 e).2
    · have:=f2 e;omega
theorem ok_vr {t n:Int} {cn b:Bool} {s:ByteArray} (h:ValOk t cn b n s):VR ⟨b,n,s⟩:=⟨h.2.2.1,h.2.2.2,by have:=ok_small h;show s.size≤9223372036854775807;omega⟩
theorem ok_null {t n:Int} {b:Bool} {s:ByteArray} (h:ValOk t false b n s):b=false:=by
  cases b with
  | true=>exact absurd (h.1 rfl).1 (by simp)
  | false=>rfl
theorem ok_cn {t n:Int} {cn b:Bool} {s:ByteArray} (h:ValOk t cn b n s):ValOk t true b n s:=⟨fun hb=>⟨rfl,(h.1 hb).2⟩,h.2⟩
structure NodeOk (cs:List Col) (i:Nat) (x:Nd):Prop where
  ok:nodeV cs i x=0
  rv:VR x.v
  rl:∀ y ∈ x.l,VR y
  ll:x.l.length≤4
  sv:x.v.s.size≤3
  sl:∀ y ∈ x.l,y.s.size≤3
def v0:Vl:=⟨false,0,{ data:=#[] }⟩
theorem vr0:VR v0:=⟨by decide,by decide,Nat.zero_le _⟩
theorem node_sub_ok {cs:List Col} {i:Nat} {o a b:Int} (h9:9≤o) (h11:o≤11) (a0:0≤a) (ai:a<i) (hb:o≠11→0≤b∧b<i):NodeOk cs i ⟨o,0,v0,[],a,b⟩ :=
  ⟨by rw[nv_sub (by show ¬(o<1∨11<o);omega) h9,if_neg]
      show ¬(a<0∨(i:Int)≤a∨(o≠11∧(b<0∨(i:Int)≤b)))
      rintro (h|h|⟨h,h'⟩)
      · omega
      · omega
      · have:=hb h;omega,vr0,nofun,Nat.zero_le _,Nat.zero_le _,nofun⟩
theorem node_null_ok {cs:List Col} {i K:Nat} {c:Col} (hc:cs[K]?=some c):NodeOk cs i ⟨8,K,v0,[],0,0⟩ :=
  ⟨by rw[nv_leaf (K:=K) (by show ¬((8:Int)<1∨11<(8:Int));decide) (by show ¬ (9:Int)≤8;decide) rfl hc];rfl,vr0,nofun,Nat.zero_le _,Nat.zero_le _,nofun⟩
theorem node_cmp_ok {cs:List Col} {i K:Nat} {c:Col} {o n:Int} {b:Bool} {s:ByteArray} (h1:1≤o) (h6:o≤6) (hc:cs[K]?=some c) (hv:ValOk c.ty false b n s) (t1:1≤c.ty) (t5:c.ty≤5):NodeOk cs i ⟨o,K,⟨b,n,s⟩,[],0,0⟩:=by
  have hb:=ok_null hv;subst hb;have hk:=chk_of_ok hv t1 t5;refine ⟨?_,ok_vr hv,nofun,Nat.zero_le _,ok_small hv,nofun⟩
  rw[nv_leaf (K:=K) (by show ¬(o<1∨11<o);omega) (by show ¬ 9≤o;omega) rfl hc,if_neg (by show ¬ o=8;omega),if_pos (by show o≠7;omega)];show (if false=true then 12 else checkV c.ty c.nu false n s)=0
  rw[if_neg (by decide)];unfold checkV at hk ⊢
  simpa using hk
theorem firstE_none {f:Nat→Int}:∀ {n:Nat},(∀ k,k<n→f k=0)→firstE f n=0
  | 0,_=>rfl
  | n+1,h=>by
    simp only[firstE];rw[firstE_none (fun k hk=>h k (by omega)),if_neg (by decide)];exact h n (by omega)
theorem node_in_ok {cs:List Col} {i K:Nat} {c:Col} {l:List Vl} (h0:0<l.length) (h4:l.length≤4) (hc:cs[K]?=some c) (hv:∀ y ∈ l,ValOk c.ty true y.nu y.n y.s) (t1:1≤c.ty) (t5:c.ty≤5):NodeOk cs i ⟨7,K,v0,l,0,0⟩:=by
  refine ⟨?_,vr0,fun y hy=>ok_vr (hv y hy),h4,Nat.zero_le _,fun y hy=>ok_small (hv y hy)⟩
  rw[nv_leaf (K:=K) (by show ¬((7:Int)<1∨11<(7:Int));decide) (by show ¬ (9:Int)≤7;decide) rfl hc,if_neg (by show ¬ (7:Int)=8;decide),if_neg (by show ¬ (7:Int)≠7;decide)];show (if l.length=0 then (1:Int) else if 16<l.length then 7 else firstE (listE c l) l.length)=0
  rw[if_neg (by omega),if_neg (by omega)];refine firstE_none fun k hk=>?_
  have hx:=List.getElem?_eq_getElem hk;rw[listE_at hx];exact chk_of_ok (hv _ (List.mem_of_getElem? hx)) t1 t5
end Go.Proofs.YtjnamjkdjcndiaaGreatDoor
