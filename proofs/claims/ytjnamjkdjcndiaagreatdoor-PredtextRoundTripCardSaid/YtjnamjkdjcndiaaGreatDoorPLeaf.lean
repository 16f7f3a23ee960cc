/-
 The contracts of predtext.words and predtext.leaf.
-/
import Derived.Test.YtjnamjkdjcndiaaGreatDoorM13
import Derived.Test.YtjnamjkdjcndiaaGreatDoorStrs
import Derived.Test.YtjnamjkdjcndiaaGreatDoorShelf
namespace Go.Proofs.YtjnamjkdjcndiaaGreatDoor
open Go.RowKit Go.Sort

theorem info_strP:(Tryz.prog.info? 9).map (fun i=>(i.zero,i.size,i.bytes))=some (some (.string ByteArray.empty),1,16):=by kernel_rfl
theorem under_strP:Tryz.prog.underlying 85=some (.slice 9):=Tryz.underlying85
theorem own_blkS {w:World} {base g n size:Nat} {t:TypeId} {cs:Array Value} (h:Blk w g t cs) (hb:base≤g) (hn:cs.size=n * size) (hm:n≤maxLen):w.ownsRow base t size (.slice (some ⟨g,0,none⟩) n n) n cs.toList :=
 ⟨by rw[Array.length_toList];exact hn,.inr ⟨g,n,cs,rfl,hb,h,Nat.le_refl _,hm,hn,by rw[←hn,←Array.length_toList,List.take_length]⟩⟩
theorem bytes_ext {S T:ByteArray} (h:S.data.toList=T.data.toList):S=T:=by
 cases S;cases T;simp only[ByteArray.mk.injEq];exact Array.toList_inj.1 h
def RetWds (w:World) (e:Ending) (w':World):Prop:=∃ g,e=.returned (.slice (some ⟨g,0,none⟩) 11 11)∧w.heap.size≤g∧Blk w' g 9 #[.string { data:=#[101,113] },.string { data:=#[110,101] },.string { data:=#[108,116] },.string { data:=#[108,101] },.string { data:=#[103,116] },.string { data:=#[103,101] },.string { data:=#[105,110] },.string { data:=#[110,117,108,108] },.string { data:=#[97,110,100] },.string { data:=#[111,114] },.string { data:=#[110,111,116] }]∧Below w.heap.size w w'
theorem pwords_any (w:World):Calls Tryz.prog 46 #[] w (RetWds w):=by
 go_enter Tryz.func46,Tryz.ntmps46
 go_wp2;go_ret;exact ⟨_,rfl,Nat.le_refl _,Blk.new _ _ _,(Below.refl _ _).alloc (Nat.le_refl _) _⟩
theorem word_at {op:Int} (h1:1≤op) (h2:op≤11):∃ (J:Nat) (B:ByteArray),op=(J:Int)+1∧J<11∧(#[.string { data:=#[101,113] },.string { data:=#[110,101] },.string { data:=#[108,116] },.string { data:=#[108,101] },.string { data:=#[103,116] },.string { data:=#[103,101] },.string { data:=#[105,110] },.string { data:=#[110,117,108,108] },.string { data:=#[97,110,100] },.string { data:=#[111,114] },.string { data:=#[110,111,116] }]:Array Value)[J]?=some (.string B)∧B.data.toList=wordP op:=by
 obtain rfl|rfl|rfl|rfl|rfl|rfl|rfl|rfl|rfl|rfl|rfl:op=1∨op=2∨op=3∨op=4∨op=5∨op=6∨op=7∨op=8∨op=9∨op=10∨op=11:=by omega
 ·exact ⟨0,_,rfl,by decide,rfl,rfl⟩
 ·exact ⟨1,_,rfl,by decide,rfl,rfl⟩
 ·exact ⟨2,_,rfl,by decide,rfl,rfl⟩
 ·exact ⟨3,_,rfl,by decide,rfl,rfl⟩
 ·exact ⟨4,_,rfl,by decide,rfl,rfl⟩
 ·exact ⟨5,_,rfl,by decide,rfl,rfl⟩
 ·exact ⟨6,_,rfl,by decide,rfl,rfl⟩
 ·exact ⟨7,_,rfl,by decide,rfl,rfl⟩
 ·exact ⟨8,_,rfl,by decide,rfl,rfl⟩
 ·exact ⟨9,_,rfl,by decide,rfl,rfl⟩
 ·exact ⟨10,_,rfl,by decide,rfl,rfl⟩
theorem fmt_cn (t k:Int) (cn:Bool) (n:Int) (s:ByteArray):fmtV t k cn false n s=fmtV t k true false n s:=by
 have:checkV t cn false n s=checkV t true false n s:=by unfold checkV;simp
 unfold fmtV;rw[this]
theorem vtxt_null {c:Col} {x:Vl} (h:VlOk c x) (hsc:¬(c.ty=5∧(c.sc<0∨18<c.sc))) (hn:x.nu=true):vtxt c x=[110,117,108,108]:=by
 unfold vtxt fmtV
 rw[if_neg hsc,h.chk,if_neg (by simp),if_pos hn]
theorem join_leaf (x y:List UInt8) (l:List (List UInt8)):Lib.join (x::y::l) [32]=x++(32::y)++l.flatMap (fun z=>32::z):=by
 rw[Lib.join_cons];have:∀ r:List (List UInt8),Lib.joinTail [32] r=r.flatMap (fun z=>32::z):=by
  intro r
  unfold Lib.joinTail
  rw[List.flatMap_def];rfl
 rw[this];simp
set_option maxRecDepth 100000 in
set_option maxHeartbeats 8000000 in
theorem pleaf_any (v:Value) (key:Int) (cs:List Col) (op:Int) (KC:Nat) (vn:Bool) (vi:Int) (vs:ByteArray) (l:List Vl) (u:Value) (fa fb:Int) (c:Col) (w:World) (ht:Tab w) (hs:Sl w 4 v cs.length (cols cs)) (hu:Sl w 3 u l.length (vls l)) (_hcl:cs.length≤1000000) (hc:cs[KC]?=some c) (hnm:c.nm.size≤1000) (hsc:¬(c.ty=5∧(c.sc<0∨18<c.sc))) (h1:1≤op) (h8:op≤8)
  (hv:∀ x ∈ valsP ⟨op,KC,⟨vn,vi,vs⟩,l,fa,fb⟩,VlOk c x) (hvl:(valsP ⟨op,KC,⟨vn,vi,vs⟩,l,fa,fb⟩).length≤16) :
  Calls Tryz.prog 50 #[.agg #[v,.int .i64 key],.agg #[.int .i64 op,.int .i64 (KC:Int),.bool vn,.int .i64 vi,.string vs,u,.int .i64 fa,.int .i64 fb]] w (RetT w (leafC c ⟨op,KC,⟨vn,vi,vs⟩,l,fa,fb⟩)):=by
 obtain ⟨A,cA,rfl,hc1,hc2⟩:=hs.form;obtain ⟨AL,cL,rfl,hc3,hc4⟩:=hu.form;obtain ⟨x,hx⟩:∃ x:Nd,x=⟨op,KC,⟨vn,vi,vs⟩,l,fa,fb⟩:=⟨_,rfl⟩
 have xop:x.op=op:=by rw[hx]
 have xv:x.v=⟨vn,vi,vs⟩:=by rw[hx]
 have xl:x.l=l:=by rw[hx]
 rw[←hx]at hv hvl ⊢;have HV:=Lib.hid hv;have HVL:=Lib.hid hvl;have HP:=Lib.hid (show valsP x=if op<7 then [⟨vn,vi,vs⟩] else if op=8 then [] else l by unfold valsP;rw[xop,xv,xl]);have HLC:=Lib.hid (show leafC c x=40::(wordP op++(32::c.nm.data.toList)++vtxts c (valsP x) ++ [41]) by unfold leafC;rw[xop]);have HSC:=Lib.hid hsc;clear hx xop xv xl hv hvl hsc;obtain ⟨J,B0,hJ,hJ11,hBJ,hBW⟩:=word_at h1 (show op≤11 by omega);have HJ:=Lib.hid hJ;have HBJ:=Lib.hid hBJ;have HW:=Lib.hid hBW;have wj:IntKind.i64.wrap (op - 1)=(J:Int):=by rw[hJ,show (J:Int)+1 - 1=(J:Int) by omega];exact IntWalk.i64_in _ (by omega)
 have qj:decide (J<11)=true:=decide_eq_true hJ11;have pj:((J:Int)<11)=True:=eq_true (by omega);have hws:B0.size≤4:=by rw[size_of hBW];exact wordP_len op
 clear hJ hBJ hBW;obtain ⟨W,hW⟩:∃ W,W=(w.alloc (.cells #[.slice A cs.length cA,.int .i64 key] 28)).alloc (.cells #[.int .i64 op,.int .i64 (KC:Int),.bool vn,.int .i64 vi,.string vs,.slice AL l.length cL,.int .i64 fa,.int .i64 fb] 66):=⟨_,rfl⟩
 have hb0:Below w.heap.size w W:=by rw[hW];exact abelS _ _ _
 have BS:=Lib.hid (show Blk W w.heap.size 28 #[.slice A cs.length cA,.int .i64 key] by rw[hW];exact (Blk.new _ _ _).alloc _);have BN:=Lib.hid (show Blk W (w.heap.size+1) 66 #[.int .i64 op,.int .i64 (KC:Int),.bool vn,.int .i64 vi,.string vs,.slice AL l.length cL,.int .i64 fa,.int .i64 fb] by rw[hW];have h:=Blk.new (w.alloc (.cells #[.slice A cs.length cA,.int .i64 key] 28)) 66 #[.int .i64 op,.int .i64 (KC:Int),.bool vn,.int .i64 vi,.string vs,.slice AL l.length cL,.int .i64 fa,.int .i64 fb];simpa using h);have hKC:KC<cs.length:=(List.getElem?_eq_some_iff.1 hc).1;obtain ⟨ad,c',pc,rfl,hc',hpc,hE⟩:=(hs.below hb0).col_load rfl hKC;rw[hc]at hc';injection hc' with hc'
 subst hc';obtain ⟨hplt,k0,k1,k2,k3⟩:=hE;have qK:decide (KC<cs.length)=true:=decide_eq_true hKC;obtain ⟨M,hM⟩:∃ M,W.heap.size=M:=⟨_,rfl⟩
 obtain ⟨X,hX⟩:∃ W2,W2=W.alloc (.cells #[.string c.nm,.int .i64 c.ty,.int .i64 c.sc,.bool c.nu] 56):=⟨_,rfl⟩
 have hbW:Below W.heap.size W X:=by rw[hX];exact (Below.refl _ _).alloc (Nat.le_refl _) _
 have hb2:Below w.heap.size w X:=by rw[hX];exact hb0.alloc hb0.size _
 have XC:=Lib.hid (show Blk X M 56 #[.string c.nm,.int .i64 c.ty,.int .i64 c.sc,.bool c.nu] by rw[hX,←hM];exact Blk.new _ _ _);have XN:=Lib.hid (BN.out.below hbW BN.out.lt);have XU:=Lib.hid (hu.below hb2);have XB:=Lib.hid hb2;have XT:=Lib.hid (ht.below hb2);clear hs hu hb0 hbW hb2 hc ht;go_enter Tryz.func50,Tryz.ntmps50
 go_upto_region 1 with (fail)
 rw[←hW];clear hW;have bb:=BS.out;have s0:=bb.cell 0;have s1:=bb.cell 1;simp only[jA,jZ,jS]at s0 s1;clear bb;have bb:=BN.out;have n0:=bb.cell 0;have n1:=bb.cell 1;have n2:=bb.cell 2;have n3:=bb.cell 3;have n4:=bb.cell 4;have n5:=bb.cell 5;have n6:=bb.cell 6;have n7:=bb.cell 7;simp only[jA,jZ,jS]at n0 n1 n2 n3 n4 n5 n6 n7;clear bb;go_upto_region 2 with (fail)
 rw[←hX];try simp only[hM]
 clear hX hM k0 k1 k2 k3 hpc hplt;clear s0 s1;clear n0 n1 n2 n3 n4 n5 n6 n7;by_cases h7:op<7
 ·have q6:decide (op<7)=true:=decide_eq_true h7;have q8:(op==8)=false:=by rw[beq_eq_false_iff_ne];omega
  have HPV:=Lib.hid (show valsP x=[⟨vn,vi,vs⟩] by rw[HP.out,if_pos h7]);obtain ⟨L0,hL0⟩:∃ N,X.heap.size=N:=⟨_,rfl⟩
  obtain ⟨Y,hY⟩:∃ Y,Y=X.alloc (.cells #[.bool vn,.int .i64 vi,.string vs] 64):=⟨_,rfl⟩
  have hXY:Below X.heap.size X Y:=by rw[hY];exact (Below.refl _ _).alloc (Nat.le_refl _) _
  have YL:=Blk.new X 64 #[.bool vn,.int .i64 vi,.string vs];rw[←hY,hL0]at YL;have YU:=Lib.hid (show Sl Y 3 (.slice (some ⟨L0,0,none⟩) 1 1) 1 (vls [⟨vn,vi,vs⟩]) from one_vl YL);have YN:=Lib.hid (XN.out.below hXY XN.out.lt);have YC:=Lib.hid (XC.out.below hXY XC.out.lt);have YB:=Lib.hid (bst XB.out hXY);have YT:=Lib.hid (XT.out.below hXY);clear hXY YL XT XB XC XU h7;have bb:=XN.out;have n0:=bb.cell 0;have n1:=bb.cell 1;have n2:=bb.cell 2;have n3:=bb.cell 3;have n4:=bb.cell 4;have n5:=bb.cell 5;have n6:=bb.cell 6;have n7:=bb.cell 7;simp only[jA,jZ,jS]at n0 n1 n2 n3 n4 n5 n6 n7;clear bb;go_upto_region 5 with (fail)
  rw[←hY];try simp only[hL0]
  clear hY hL0 XN;clear n0 n1 n2 n3 n4 n5 n6 n7;have bb:=YN.out;have n0:=bb.cell 0;have n1:=bb.cell 1;have n2:=bb.cell 2;have n3:=bb.cell 3;have n4:=bb.cell 4;have n5:=bb.cell 5;have n6:=bb.cell 6;have n7:=bb.cell 7;simp only[jA,jZ,jS]at n0 n1 n2 n3 n4 n5 n6 n7;clear bb;go_upto_region 7 with (fail)
  clear n0 n1 n2 n3 n4 n5 n6 n7;refine wp_region_inv (by kernel_rfl) (by kernel_rfl) (fun L a w'=>∃ u28 u29 u30 u31 u32 u33 u34 u35 u36 u7:Value,a=⟨#[.agg #[.slice (some ad) cs.length cA,.int .i64 key],.agg #[.int .i64 op,.int .i64 KC,.bool vn,.int .i64 vi,.string vs,.slice AL l.length cL,.int .i64 fa,.int .i64 fb],.pointer (some ⟨w.heap.size,0,none⟩),.pointer (some ⟨w.heap.size+1,0,none⟩),.string { data:=#[] },.pointer (some ⟨M,0,none⟩),.slice (some ⟨L0,0,none⟩) 1 1,u7,undef,undef,undef,.pointer (some ⟨w.heap.size,0,none⟩),.slice (some ad) cs.length cA,.pointer (some ⟨w.heap.size+1,1,none⟩),.int .i64 KC,.pointer (some pc),.agg #[.string c.nm,.int .i64 c.ty,.int .i64 c.sc,.bool c.nu],.pointer (some ⟨w.heap.size+1,5,none⟩),.slice AL l.length cL,.pointer (some ⟨w.heap.size+1,0,none⟩),.int .i64 op,.bool true,.pointer (some ⟨w.heap.size+1,2,none⟩),.agg #[.bool vn,.int .i64 vi,.string vs],.slice (some ⟨L0,0,none⟩) 1 1,.pointer (some ⟨w.heap.size+1,0,none⟩),.int .i64 op,.bool false,u28,u29,u30,u31,u32,u33,u34,u35,u36,undef,undef,undef,undef,undef,undef,undef,undef,undef,undef,undef,undef,undef,undef,undef,undef,undef,undef,undef,undef,undef,undef,undef,undef],[]⟩ ∧
    Below Y.heap.size Y w'∧GotRow (L 0) Y.heap.size u28 11 9 #[.string { data:=#[101,113] },.string { data:=#[110,101] },.string { data:=#[108,116] },.string { data:=#[108,101] },.string { data:=#[103,116] },.string { data:=#[103,101] },.string { data:=#[105,110] },.string { data:=#[110,117,108,108] },.string { data:=#[97,110,100] },.string { data:=#[111,114] },.string { data:=#[110,111,116] }] w'∧Got (L 1) u29 (.pointer (some ⟨w.heap.size+1,0,none⟩))∧Got (L 2) u30 (.int .i64 op)∧Got (L 3) u31 (.int .i64 (J:Int))∧GotPtr (L 4) Y.heap.size u32 J 9 #[.string { data:=#[101,113] },.string { data:=#[110,101] },.string { data:=#[108,116] },.string { data:=#[108,101] },.string { data:=#[103,116] },.string { data:=#[103,101] },.string { data:=#[105,110] },.string { data:=#[110,117,108,108] },.string { data:=#[97,110,100] },.string { data:=#[111,114] },.string { data:=#[110,111,116] }] w'∧Got (L 5) u33 (.string B0)∧Got (L 6) u34 (.pointer (some ⟨M,0,none⟩))∧Got (L 7) u35 (.string c.nm)∧GotRow (L 8) Y.heap.size u36 2 9 #[.string B0,.string c.nm] w'∧GotRow (L 9) Y.heap.size u7 2 9 #[.string B0,.string c.nm] w')
   ?_ ?_ ?_
  ·exact ⟨_,_,_,_,_,_,_,_,_,_,rfl,(Below.refl _ _).drew,nofun,nofun,nofun,nofun,nofun,nofun,nofun,nofun,nofun,nofun⟩
  ·refine ⟨?_,?_,?_,?_,?_,?_,?_,?_,?_,?_,trivial⟩
   ·refine fun L a w'=>ex8 fun _ _ _ _ _ _ _ _=>ex2 fun _ _=>un8 fun ha hb g0 g1 g2 g3 g4 g5=>un2 fun g6 g7=>un1 fun g8 g9 hl hd K hK=>?_;subst ha
    dsimp only at hK ⊢;go_wp2_with fail
    refine (pwords_any w').mono ?_;rintro _ w4 ⟨g,rfl,hg,hB,hb4⟩;exact hK _ _ ⟨_,_,_,_,_,_,_,_,_,_,rfl,bst hb hb4,fun _=>⟨g,rfl,Nat.le_trans hb.size hg,hB⟩,g1,g2,g3,g4.below hb4,g5,g6,g7,g8.below hb4,g9.below hb4⟩
   ·refine fun L a w'=>ex8 fun _ _ _ _ _ _ _ _=>ex2 fun _ _=>un8 fun ha hb g0 g1 g2 g3 g4 g5=>un2 fun g6 g7=>un1 fun g8 g9 hl hd K hK=>?_;subst ha
    dsimp only at hK ⊢;go_simp;exact hK _ _ ⟨_,_,_,_,_,_,_,_,_,_,rfl,hb,g0,fun _=>rfl,g2,g3,g4,g5,g6,g7,g8,g9⟩
   ·refine fun L a w'=>ex8 fun _ _ _ _ _ _ _ _=>ex2 fun _ _=>un8 fun ha hb g0 g1 g2 g3 g4 g5=>un2 fun g6 g7=>un1 fun g8 g9 hl hd K hK=>?_;subst ha
    simp[Region.binds]at hd;dsimp only at hK ⊢;have e1:=g1 (by simp[hd]);subst e1;have bb:=YN.out.below hb YN.out.lt;have c0:=bb.cell 0;have c1:=bb.cell 1;have c2:=bb.cell 2;have c3:=bb.cell 3;have c4:=bb.cell 4;have c5:=bb.cell 5;have c6:=bb.cell 6;have c7:=bb.cell 7;simp only[jA,jZ,jS]at c0 c1 c2 c3 c4 c5 c6 c7;clear bb;go_simp;exact hK _ _ ⟨_,_,_,_,_,_,_,_,_,_,rfl,hb,g0,g1,fun _=>rfl,g3,g4,g5,g6,g7,g8,g9⟩
   ·refine fun L a w'=>ex8 fun _ _ _ _ _ _ _ _=>ex2 fun _ _=>un8 fun ha hb g0 g1 g2 g3 g4 g5=>un2 fun g6 g7=>un1 fun g8 g9 hl hd K hK=>?_;subst ha
    simp[Region.binds]at hd;dsimp only at hK ⊢;have e2:=g2 (by simp[hd]);subst e2;go_simp;exact hK _ _ ⟨_,_,_,_,_,_,_,_,_,_,rfl,hb,g0,g1,g2,fun _=>rfl,g4,g5,g6,g7,g8,g9⟩
   ·refine fun L a w'=>ex8 fun _ _ _ _ _ _ _ _=>ex2 fun _ _=>un8 fun ha hb g0 g1 g2 g3 g4 g5=>un2 fun g6 g7=>un1 fun g8 g9 hl hd K hK=>?_;subst ha
    simp[Region.binds]at hd;dsimp only at hK ⊢;have e3:=g3 (by simp[hd]);subst e3;obtain ⟨g,hg0,hgN,hgB⟩:=g0 (by simp[hd]);subst hg0;go_simp;exact hK _ _ ⟨_,_,_,_,_,_,_,_,_,_,rfl,hb,fun _=>⟨g,rfl,hgN,hgB⟩,g1,g2,g3,fun _=>⟨g,rfl,hgN,hgB⟩,g5,g6,g7,g8,g9⟩
   ·refine fun L a w'=>ex8 fun _ _ _ _ _ _ _ _=>ex2 fun _ _=>un8 fun ha hb g0 g1 g2 g3 g4 g5=>un2 fun g6 g7=>un1 fun g8 g9 hl hd K hK=>?_;subst ha
    simp[Region.binds]at hd;dsimp only at hK ⊢;obtain ⟨g,hg0,hgN,hgB⟩:=g4 (by simp[hd]);subst hg0;have cc:=(hgB.cell J).trans HBJ.out;go_simp;exact hK _ _ ⟨_,_,_,_,_,_,_,_,_,_,rfl,hb,g0,g1,g2,g3,fun _=>⟨g,rfl,hgN,hgB⟩,fun _=>rfl,g6,g7,g8,g9⟩
   ·refine fun L a w'=>ex8 fun _ _ _ _ _ _ _ _=>ex2 fun _ _=>un8 fun ha hb g0 g1 g2 g3 g4 g5=>un2 fun g6 g7=>un1 fun g8 g9 hl hd K hK=>?_;subst ha
    dsimp only at hK ⊢;go_simp;exact hK _ _ ⟨_,_,_,_,_,_,_,_,_,_,rfl,hb,g0,g1,g2,g3,g4,g5,fun _=>rfl,g7,g8,g9⟩
   ·refine fun L a w'=>ex8 fun _ _ _ _ _ _ _ _=>ex2 fun _ _=>un8 fun ha hb g0 g1 g2 g3 g4 g5=>un2 fun g6 g7=>un1 fun g8 g9 hl hd K hK=>?_;subst ha
    simp[Region.binds]at hd;dsimp only at hK ⊢;have e6:=g6 (by simp[hd]);subst e6;have bb:=YC.out.below hb YC.out.lt;have c0:=bb.cell 0;have c1:=bb.cell 1;have c2:=bb.cell 2;have c3:=bb.cell 3;simp only[jA,jZ,jS]at c0 c1 c2 c3;clear bb;go_simp;exact hK _ _ ⟨_,_,_,_,_,_,_,_,_,_,rfl,hb,g0,g1,g2,g3,g4,g5,g6,fun _=>rfl,g8,g9⟩
   ·refine fun L a w'=>ex8 fun _ _ _ _ _ _ _ _=>ex2 fun _ _=>un8 fun ha hb g0 g1 g2 g3 g4 g5=>un2 fun g6 g7=>un1 fun g8 g9 hl hd K hK=>?_;subst ha
    simp[Region.binds]at hd;dsimp only at hK ⊢;have e5:=g5 (by simp[hd]);subst e5;have e7:=g7 (by simp[hd]);subst e7;go_simp;exact hK _ _ ⟨_,_,_,_,_,_,_,_,_,_,rfl,hb.alloc hb.size _,g0.below ((Below.refl w'.heap.size w').alloc (Nat.le_refl _) _),g1,g2,g3,g4.below ((Below.refl w'.heap.size w').alloc (Nat.le_refl _) _),g5,g6,g7,fun _=>⟨_,rfl,hb.size,Blk.new _ _ _⟩,g9.below ((Below.refl w'.heap.size w').alloc (Nat.le_refl _) _)⟩
   ·refine fun L a w'=>ex8 fun _ _ _ _ _ _ _ _=>ex2 fun _ _=>un8 fun ha hb g0 g1 g2 g3 g4 g5=>un2 fun g6 g7=>un1 fun g8 g9 hl hd K hK=>?_;subst ha
    simp[Region.binds]at hd;dsimp only at hK ⊢;obtain ⟨g,hg0,hgN,hgB⟩:=g8 (by simp[hd]);subst hg0;go_simp;exact hK _ _ ⟨_,_,_,_,_,_,_,_,_,_,rfl,hb,g0,g1,g2,g3,g4,g5,g6,g7,fun _=>⟨g,rfl,hgN,hgB⟩,fun _=>⟨g,rfl,hgN,hgB⟩⟩
  intro a w7 hI
  revert hI;refine ex8 fun _ _ _ _ _ _ _ _=>ex2 fun _ u7=>un8 fun ha hb g0 g1 g2 g3 g4 g5=>un2 fun g6 g7=>un1 fun g8 g9=>?_;subst ha
  obtain ⟨gw,hgw,hgNw,hgBw⟩:=g9 rfl;subst hgw;have ZB:=Lib.hid hb;have HO7:=Lib.hid (own_blkS (base:=Y.heap.size) (n:=2) (size:=1) hgBw hgNw rfl (by decide));clear g0 g1 g2 g3 g4 g5 g6 g7 g8 g9 hb hgNw hgBw;rw[HPV.out]at HV HVL HLC;clear HPV HP;go_wp2;go_loopw [7,39] (fun o i wr=>∃ (k:Nat) (ps:List ByteArray),k≤1∧i=.int .i64 (k:Int)∧ps.length=k+2∧Hid (ps.map (·.data.toList)=wordP op::c.nm.data.toList::([⟨vn,vi,vs⟩].take k).map (vtxt c))∧wr.ownsRow Y.heap.size 9 1 o ps.length (strV ps)∧Below Y.heap.size Y wr) (fun _ i _=>1 - (intOf i).toNat)
  case atStart=>exact ⟨0,[B0,c.nm],by omega,rfl,rfl,Lib.hid (by rw[←HW.out];rfl),HO7.out,ZB.out⟩
  case round =>
   obtain ⟨k,ps,hk,rfl,hpl,hps,hown,hbel⟩:=hrel;by_cases hlt:k<1
   ·obtain ⟨ad2,e,pe,e0,he,hpe,hE⟩:=(YU.out.below hbel).vl_load rfl hlt;cases e0;rw[Addr.add_lit,Nat.zero_add]at hpe;subst hpe
    obtain ⟨hplt,c0,c1,c2⟩:=hE;have HLT:=Lib.hid hlt;have qm:decide (k<1)=true:=decide_eq_true hlt;have HOK:=Lib.hid (HV.out e (List.mem_of_getElem? he));have HN:=Lib.hid (show ([⟨vn,vi,vs⟩].take (k+1)).map (vtxt c)=([⟨vn,vi,vs⟩].take k).map (vtxt c) ++ [vtxt c e] by rw[List.take_add_one,he];simp);obtain ⟨N5,hN5⟩:∃ N,wr.heap.size=N:=⟨_,rfl⟩
    obtain ⟨V,hV⟩:∃ V,V=wr.alloc (.cells #[.bool e.nu,.int .i64 e.n,.string e.s] 64):=⟨_,rfl⟩
    have hbV:Below wr.heap.size wr V:=by rw[hV];exact (Below.refl _ _).alloc (Nat.le_refl _) _
    have VB:=Lib.hid (show Below Y.heap.size Y V by rw[hV];exact hbel.alloc hbel.size _);have VE:=Lib.hid (show Blk V N5 64 #[.bool e.nu,.int .i64 e.n,.string e.s] by rw[hV,←hN5];exact Blk.new _ _ _);have VC:=Lib.hid (YC.out.below VB.out YC.out.lt);have VO:=Lib.hid (own_below hown hbV);have HPL:=Lib.hid hpl;obtain ⟨Rn,hRn⟩:∃ q,ps.length=q:=⟨_,rfl⟩
    rw[hRn]at VO hpl;have hRb:Rn≤100:=by omega
    have HRn:=Lib.hid hRn;clear hpl;obtain ⟨nb,hnb⟩:∃ q,e.nu=q:=⟨_,rfl⟩
    rw[hnb]at VE;have HNB:=Lib.hid hnb;clear he hbel hown hbV hRn hnb;go_upto_region 11 with (fail)
    rw[←hV];try simp only[hN5]
    try rw[HNB.out]
    clear hV hN5 c0 c1 c2 hplt;try clear hpe
    obtain ⟨B,hBl⟩:∃ B:ByteArray,B.data.toList=vtxt c e:=⟨⟨(vtxt c e).toArray⟩,by simp⟩
    have HB:=Lib.hid hBl;clear hBl;cases nb with
    | true =>
     have hB4:B={ data:=#[110,117,108,108] }:=by
      have h:=vtxt_null HOK.out HSC.out HNB.out;rw[←HB.out]at h;exact bytes_ext h
     have bb:=VE.out;have v0:=bb.cell 0;have v1:=bb.cell 1;have v2:=bb.cell 2;simp only[jA,jZ,jS]at v0 v1 v2;clear bb;have hO:=VO.out;have hB:=VB.out;have hsz:=hB.size;go_upto_region 14 with (fail)
     clear v0 v1 v2;go_wp2_with (at_builtin;go_must (refine app1 _ _ hO hB (Nat.le_refl _) hsz under_strP info_strP rfl (by decide) rfl (oneStr _) (by omega) (by omega) rfl rfl rfl rfl ?_))
     intro g9 cap9 w9 hO9 hB9 hgr9 _
     have HO9:=Lib.hid (show w9.ownsRow Y.heap.size 9 1 (.slice (some ⟨g9,0,none⟩) (Rn+1) cap9) (ps ++ [B]).length (strV (ps ++ [B])) by rw[List.length_append,HRn.out,strV_snoc];rw[hB4];exact hO9);have HB9:=Lib.hid hB9;have HNE:=Lib.hid (show (ps ++ [B]).map (·.data.toList)=wordP op::c.nm.data.toList::([⟨vn,vi,vs⟩].take (k+1)).map (vtxt c) by rw[List.map_append,hps.out,HN.out];simp[HB.out]);clear hO hB hsz hO9 hB9 hgr9;go_wp2;go_roundw
     case rel=>exact ⟨k+1,ps ++ [B],HLT.out,by go_num,by rw[List.length_append,HPL.out];rfl,HNE,by have h:=HO9.out;rw[List.length_append,HRn.out]at h ⊢;exact h,HB9.out⟩
     case measure=>have:=HLT.out;simp[intOf];omega
    | false =>
     obtain ⟨F,hF⟩:∃ F,fmtV c.ty c.sc c.nu false e.n e.s=F:=⟨_,rfl⟩
     have hFB:(⟨F.1.toArray⟩:ByteArray)=B:=bytes_ext (by rw[HB.out];unfold vtxt;rw[HNB.out,←fmt_cn c.ty c.sc c.nu,hF]);obtain ⟨r,hr⟩:∃ r,F.2=r:=⟨_,rfl⟩
     have HFM:=Lib.hid (show Calls Tryz.prog 74 #[.agg #[.string c.nm,.int .i64 c.ty,.int .i64 c.sc,.bool c.nu],.agg #[.bool false,.int .i64 e.n,.string e.s]] V (fun d w'=>d=.returned (.tuple #[.string B,.int .i64 r])∧Below V.heap.size V w') by
      have h:=vfmt_any c.nm c.ty c.sc c.nu false e.n e.s V (YT.out.below VB.out) ⟨HOK.out.lo,HOK.out.hi⟩ HOK.out.sz;rw[hF]at h;unfold RetDec at h
      rw[hFB,hr]at h;exact h)
     clear hF hFB hr;have bb:=VE.out;have v0:=bb.cell 0;have v1:=bb.cell 1;have v2:=bb.cell 2;simp only[jA,jZ,jS]at v0 v1 v2;clear bb;have bb:=VC.out;have k0:=bb.cell 0;have k1:=bb.cell 1;have k2:=bb.cell 2;have k3:=bb.cell 3;simp only[jA,jZ,jS]at k0 k1 k2 k3;clear bb;go_wp2_with fail
     refine HFM.out.mono ?_;rintro _ w4 ⟨rfl,hb4⟩;have VO4:=Lib.hid (own_below VO.out hb4);have VB4:=Lib.hid (bst VB.out hb4);clear v0 v1 v2 k0 k1 k2 k3;clear hb4 HFM;have hO:=VO4.out;have hB:=VB4.out;have hsz:=hB.size;go_wp2_with (at_builtin;go_must (refine app1 _ _ hO hB (Nat.le_refl _) hsz under_strP info_strP rfl (by decide) rfl (oneStr _) (by omega) (by omega) rfl rfl rfl rfl ?_))
     intro g9 cap9 w9 hO9 hB9 hgr9 _
     have HO9:=Lib.hid (show w9.ownsRow Y.heap.size 9 1 (.slice (some ⟨g9,0,none⟩) (Rn+1) cap9) (ps ++ [B]).length (strV (ps ++ [B])) by rw[List.length_append,HRn.out,strV_snoc]; exact hO9);have HB9:=Lib.hid hB9;have HNE:=Lib.hid (show (ps ++ [B]).map (·.data.toList)=wordP op::c.nm.data.toList::([⟨vn,vi,vs⟩].take (k+1)).map (vtxt c) by rw[List.map_append,hps.out,HN.out];simp[HB.out]);clear hO hB hsz hO9 hB9 hgr9;go_wp2;go_roundw
     case rel=>exact ⟨k+1,ps ++ [B],HLT.out,by go_num,by rw[List.length_append,HPL.out];rfl,HNE,by have h:=HO9.out;rw[List.length_append,HRn.out]at h ⊢;exact h,HB9.out⟩
     case measure=>have:=HLT.out;simp[intOf];omega
   ·have qm:decide (k<1)=false:=decide_eq_false hlt;have HE:=Lib.hid (show ps.map (·.data.toList)=wordP op::c.nm.data.toList :: [⟨vn,vi,vs⟩].map (vtxt c) by rw[hps.out,List.take_of_length_le (by first | (simp;done) | (simp;omega))]);have HBX:=Lib.hid hbel;have HO:=Lib.hid hown;obtain ⟨g,cap,hpv⟩:∃ g cap,u7=.slice (some ⟨g,0,none⟩) ps.length cap:=by
     rcases hown.2 with ⟨_,h0⟩|⟨g,cap,cur,e0,_⟩
     ·exact absurd h0 (by omega)
     ·exact ⟨g,cap,e0⟩
    subst hpv;have hcap:ps.length≤cap:=by
     obtain ⟨A',c',e0,h1,_⟩:=Sl.of_own hown;injection e0 with e1 e2 e3
     omega
    have hjl:Lib.join (ps.map (·.data.toList)) [32]=wordP op++(32::c.nm.data.toList)++vtxts c [⟨vn,vi,vs⟩]:=by
     rw[HE.out,join_leaf];unfold vtxts
     rw[List.flatMap_map]
    have hjs:(Lib.join (ps.map (·.data.toList)) [32]).length≤4300:=by
     rw[hjl];simp only[List.length_append,List.length_cons];have h3:=vtxts_take (c:=c) HV.out HVL.out ([⟨vn,vi,vs⟩]:List Vl).length;rw[List.take_length]at h3;have:=wordP_len op
     have:=sizeD c.nm
     omega
    have HJN:=Lib.hid (Tryz.strings_Join g 0 cap ps { data:=#[32] } wr (fun j y hj=>by
     have h:=World.ownsRow.cells hown (g:=g) rfl j (.string y) (by unfold strV;rw[List.getElem?_map,hj];rfl);rw[Addr.add_lit,Nat.zero_add]at h;rw[Nat.zero_add];exact h) (hown.lt g rfl).2 (by omega) hcap (by show (Lib.join (ps.map (·.data.toList)) [32]).length≤_;omega))
    obtain ⟨JB,hJB⟩:∃ JB:ByteArray,(⟨(Lib.join (ps.map (·.data.toList)) [32]).toArray⟩:ByteArray)=JB:=⟨_,rfl⟩
    have HJB:=Lib.hid (show JB.data.toList=wordP op++(32::c.nm.data.toList)++vtxts c [⟨vn,vi,vs⟩] by rw[←hJB,←hjl]);have hJs:JB.size≤4300:=by rw[size_of HJB.out,←hjl];exact hjs
    change Hid (Calls _ _ _ _ fun e w'=>e=.returned (.string ⟨(Lib.join (ps.map (·.data.toList)) [32]).toArray⟩)∧_) at HJN
    rw[hJB]at HJN;obtain ⟨Rn,hRn⟩:∃ q,ps.length=q:=⟨_,rfl⟩
    rw[hRn]at HJN;try simp only[hRn]
    clear hjl hjs hJB hown hbel hps hpl hRn;go_wp2_with fail
    refine HJN.out.mono ?_;rintro _ w5 ⟨rfl,hb5⟩;have HX:=Lib.hid (bst YB.out (bst HBX.out hb5));clear hb5 HJN;go_wp2;go_ret;exact RetT.mk_ (by rw[HLC.out];simp[ByteArray.data_append,HJB.out]) HX.out
 have q6:decide (op<7)=false:=decide_eq_false h7;have YC:=XC;have YN:=XN;have YB:=XB;have YT:=XT;by_cases e8:op=8
 ·subst e8;obtain rfl:J=7:=by have:=HJ.out;omega
  have w7:IntKind.i64.wrap 7=7:=IntWalk.i64_in _ (by omega);have HPV:=Lib.hid (show valsP x=[] by rw[HP.out,if_neg (by omega),if_pos rfl]);have YU:=Lib.hid (show Sl X 3 (.slice none 0 0) 0 (vls []) from Sl.nil X 3);clear h7 XC XN XB XT XU;have bb:=YN.out;have n0:=bb.cell 0;have n1:=bb.cell 1;have n2:=bb.cell 2;have n3:=bb.cell 3;have n4:=bb.cell 4;have n5:=bb.cell 5;have n6:=bb.cell 6;have n7:=bb.cell 7;simp only[jA,jZ,jS]at n0 n1 n2 n3 n4 n5 n6 n7;clear bb;go_upto_region 7 with (fail)
  clear n0 n1 n2 n3 n4 n5 n6 n7;have XN:=YN;have XC:=YC;refine wp_region_inv (by kernel_rfl) (by kernel_rfl) (fun L a w'=>∃ u28 u29 u30 u31 u32 u33 u34 u35 u36 u7:Value,a=⟨#[.agg #[.slice (some ad) cs.length cA,.int .i64 key],.agg #[.int .i64 8,.int .i64 KC,.bool vn,.int .i64 vi,.string vs,.slice AL l.length cL,.int .i64 fa,.int .i64 fb],.pointer (some ⟨w.heap.size,0,none⟩),.pointer (some ⟨w.heap.size+1,0,none⟩),.string { data:=#[] },.pointer (some ⟨M,0,none⟩),.slice none 0 0,u7,undef,undef,undef,.pointer (some ⟨w.heap.size,0,none⟩),.slice (some ad) cs.length cA,.pointer (some ⟨w.heap.size+1,1,none⟩),.int .i64 KC,.pointer (some pc),.agg #[.string c.nm,.int .i64 c.ty,.int .i64 c.sc,.bool c.nu],.pointer (some ⟨w.heap.size+1,5,none⟩),.slice AL l.length cL,.pointer (some ⟨w.heap.size+1,0,none⟩),.int .i64 8,.bool false,undef,undef,undef,.pointer (some ⟨w.heap.size+1,0,none⟩),.int .i64 8,.bool true,u28,u29,u30,u31,u32,u33,u34,u35,u36,undef,undef,undef,undef,undef,undef,undef,undef,undef,undef,undef,undef,undef,undef,undef,undef,undef,undef,undef,undef,undef,undef,undef,undef],[]⟩ ∧
    Below X.heap.size X w'∧GotRow (L 0) X.heap.size u28 11 9 #[.string { data:=#[101,113] },.string { data:=#[110,101] },.string { data:=#[108,116] },.string { data:=#[108,101] },.string { data:=#[103,116] },.string { data:=#[103,101] },.string { data:=#[105,110] },.string { data:=#[110,117,108,108] },.string { data:=#[97,110,100] },.string { data:=#[111,114] },.string { data:=#[110,111,116] }] w'∧Got (L 1) u29 (.pointer (some ⟨w.heap.size+1,0,none⟩))∧Got (L 2) u30 (.int .i64 8)∧Got (L 3) u31 (.int .i64 7)∧GotPtr (L 4) X.heap.size u32 7 9 #[.string { data:=#[101,113] },.string { data:=#[110,101] },.string { data:=#[108,116] },.string { data:=#[108,101] },.string { data:=#[103,116] },.string { data:=#[103,101] },.string { data:=#[105,110] },.string { data:=#[110,117,108,108] },.string { data:=#[97,110,100] },.string { data:=#[111,114] },.string { data:=#[110,111,116] }] w'∧Got (L 5) u33 (.string B0)∧Got (L 6) u34 (.pointer (some ⟨M,0,none⟩))∧Got (L 7) u35 (.string c.nm)∧GotRow (L 8) X.heap.size u36 2 9 #[.string B0,.string c.nm] w'∧GotRow (L 9) X.heap.size u7 2 9 #[.string B0,.string c.nm] w')
   ?_ ?_ ?_
  ·exact ⟨_,_,_,_,_,_,_,_,_,_,rfl,(Below.refl _ _).drew,nofun,nofun,nofun,nofun,nofun,nofun,nofun,nofun,nofun,nofun⟩
  ·refine ⟨?_,?_,?_,?_,?_,?_,?_,?_,?_,?_,trivial⟩
   ·refine fun L a w'=>ex8 fun _ _ _ _ _ _ _ _=>ex2 fun _ _=>un8 fun ha hb g0 g1 g2 g3 g4 g5=>un2 fun g6 g7=>un1 fun g8 g9 hl hd K hK=>?_;subst ha
    dsimp only at hK ⊢;go_wp2_with fail
    refine (pwords_any w').mono ?_;rintro _ w4 ⟨g,rfl,hg,hB,hb4⟩;exact hK _ _ ⟨_,_,_,_,_,_,_,_,_,_,rfl,bst hb hb4,fun _=>⟨g,rfl,Nat.le_trans hb.size hg,hB⟩,g1,g2,g3,g4.below hb4,g5,g6,g7,g8.below hb4,g9.below hb4⟩
   ·refine fun L a w'=>ex8 fun _ _ _ _ _ _ _ _=>ex2 fun _ _=>un8 fun ha hb g0 g1 g2 g3 g4 g5=>un2 fun g6 g7=>un1 fun g8 g9 hl hd K hK=>?_;subst ha
    dsimp only at hK ⊢;go_simp;exact hK _ _ ⟨_,_,_,_,_,_,_,_,_,_,rfl,hb,g0,fun _=>rfl,g2,g3,g4,g5,g6,g7,g8,g9⟩
   ·refine fun L a w'=>ex8 fun _ _ _ _ _ _ _ _=>ex2 fun _ _=>un8 fun ha hb g0 g1 g2 g3 g4 g5=>un2 fun g6 g7=>un1 fun g8 g9 hl hd K hK=>?_;subst ha
    simp[Region.binds]at hd;dsimp only at hK ⊢;have e1:=g1 (by simp[hd]);subst e1;have bb:=XN.out.below hb XN.out.lt;have c0:=bb.cell 0;have c1:=bb.cell 1;have c2:=bb.cell 2;have c3:=bb.cell 3;have c4:=bb.cell 4;have c5:=bb.cell 5;have c6:=bb.cell 6;have c7:=bb.cell 7;simp only[jA,jZ,jS]at c0 c1 c2 c3 c4 c5 c6 c7;clear bb;go_simp;exact hK _ _ ⟨_,_,_,_,_,_,_,_,_,_,rfl,hb,g0,g1,fun _=>rfl,g3,g4,g5,g6,g7,g8,g9⟩
   ·refine fun L a w'=>ex8 fun _ _ _ _ _ _ _ _=>ex2 fun _ _=>un8 fun ha hb g0 g1 g2 g3 g4 g5=>un2 fun g6 g7=>un1 fun g8 g9 hl hd K hK=>?_;subst ha
    simp[Region.binds]at hd;dsimp only at hK ⊢;have e2:=g2 (by simp[hd]);subst e2;go_simp;exact hK _ _ ⟨_,_,_,_,_,_,_,_,_,_,rfl,hb,g0,g1,g2,fun _=>rfl,g4,g5,g6,g7,g8,g9⟩
   ·refine fun L a w'=>ex8 fun _ _ _ _ _ _ _ _=>ex2 fun _ _=>un8 fun ha hb g0 g1 g2 g3 g4 g5=>un2 fun g6 g7=>un1 fun g8 g9 hl hd K hK=>?_;subst ha
    simp[Region.binds]at hd;dsimp only at hK ⊢;have e3:=g3 (by simp[hd]);subst e3;obtain ⟨g,hg0,hgN,hgB⟩:=g0 (by simp[hd]);subst hg0;go_simp;exact hK _ _ ⟨_,_,_,_,_,_,_,_,_,_,rfl,hb,fun _=>⟨g,rfl,hgN,hgB⟩,g1,g2,g3,fun _=>⟨g,rfl,hgN,hgB⟩,g5,g6,g7,g8,g9⟩
   ·refine fun L a w'=>ex8 fun _ _ _ _ _ _ _ _=>ex2 fun _ _=>un8 fun ha hb g0 g1 g2 g3 g4 g5=>un2 fun g6 g7=>un1 fun g8 g9 hl hd K hK=>?_;subst ha
    simp[Region.binds]at hd;dsimp only at hK ⊢;obtain ⟨g,hg0,hgN,hgB⟩:=g4 (by simp[hd]);subst hg0;have cc:=(hgB.cell 7).trans HBJ.out;go_simp;exact hK _ _ ⟨_,_,_,_,_,_,_,_,_,_,rfl,hb,g0,g1,g2,g3,fun _=>⟨g,rfl,hgN,hgB⟩,fun _=>rfl,g6,g7,g8,g9⟩
   ·refine fun L a w'=>ex8 fun _ _ _ _ _ _ _ _=>ex2 fun _ _=>un8 fun ha hb g0 g1 g2 g3 g4 g5=>un2 fun g6 g7=>un1 fun g8 g9 hl hd K hK=>?_;subst ha
    dsimp only at hK ⊢;go_simp;exact hK _ _ ⟨_,_,_,_,_,_,_,_,_,_,rfl,hb,g0,g1,g2,g3,g4,g5,fun _=>rfl,g7,g8,g9⟩
   ·refine fun L a w'=>ex8 fun _ _ _ _ _ _ _ _=>ex2 fun _ _=>un8 fun ha hb g0 g1 g2 g3 g4 g5=>un2 fun g6 g7=>un1 fun g8 g9 hl hd K hK=>?_;subst ha
    simp[Region.binds]at hd;dsimp only at hK ⊢;have e6:=g6 (by simp[hd]);subst e6;have bb:=XC.out.below hb XC.out.lt;have c0:=bb.cell 0;have c1:=bb.cell 1;have c2:=bb.cell 2;have c3:=bb.cell 3;simp only[jA,jZ,jS]at c0 c1 c2 c3;clear bb;go_simp;exact hK _ _ ⟨_,_,_,_,_,_,_,_,_,_,rfl,hb,g0,g1,g2,g3,g4,g5,g6,fun _=>rfl,g8,g9⟩
   ·refine fun L a w'=>ex8 fun _ _ _ _ _ _ _ _=>ex2 fun _ _=>un8 fun ha hb g0 g1 g2 g3 g4 g5=>un2 fun g6 g7=>un1 fun g8 g9 hl hd K hK=>?_;subst ha
    simp[Region.binds]at hd;dsimp only at hK ⊢;have e5:=g5 (by simp[hd]);subst e5;have e7:=g7 (by simp[hd]);subst e7;go_simp;exact hK _ _ ⟨_,_,_,_,_,_,_,_,_,_,rfl,hb.alloc hb.size _,g0.below ((Below.refl w'.heap.size w').alloc (Nat.le_refl _) _),g1,g2,g3,g4.below ((Below.refl w'.heap.size w').alloc (Nat.le_refl _) _),g5,g6,g7,fun _=>⟨_,rfl,hb.size,Blk.new _ _ _⟩,g9.below ((Below.refl w'.heap.size w').alloc (Nat.le_refl _) _)⟩
   ·refine fun L a w'=>ex8 fun _ _ _ _ _ _ _ _=>ex2 fun _ _=>un8 fun ha hb g0 g1 g2 g3 g4 g5=>un2 fun g6 g7=>un1 fun g8 g9 hl hd K hK=>?_;subst ha
    simp[Region.binds]at hd;dsimp only at hK ⊢;obtain ⟨g,hg0,hgN,hgB⟩:=g8 (by simp[hd]);subst hg0;go_simp;exact hK _ _ ⟨_,_,_,_,_,_,_,_,_,_,rfl,hb,g0,g1,g2,g3,g4,g5,g6,g7,fun _=>⟨g,rfl,hgN,hgB⟩,fun _=>⟨g,rfl,hgN,hgB⟩⟩
  intro a w7 hI
  revert hI;refine ex8 fun _ _ _ _ _ _ _ _=>ex2 fun _ u7=>un8 fun ha hb g0 g1 g2 g3 g4 g5=>un2 fun g6 g7=>un1 fun g8 g9=>?_;subst ha
  obtain ⟨gw,hgw,hgNw,hgBw⟩:=g9 rfl;subst hgw;have ZB:=Lib.hid hb;have HO7:=Lib.hid (own_blkS (base:=X.heap.size) (n:=2) (size:=1) hgBw hgNw rfl (by decide));clear g0 g1 g2 g3 g4 g5 g6 g7 g8 g9 hb hgNw hgBw;rw[HPV.out]at HV HVL HLC;clear HPV HP;go_wp2;go_loopw [7,39] (fun o i wr=>∃ (k:Nat) (ps:List ByteArray),k≤0∧i=.int .i64 (k:Int)∧ps.length=k+2∧Hid (ps.map (·.data.toList)=wordP 8::c.nm.data.toList::(([]:List Vl).take k).map (vtxt c))∧wr.ownsRow X.heap.size 9 1 o ps.length (strV ps)∧Below X.heap.size X wr) (fun _ i _=>0 - (intOf i).toNat)
  case atStart=>exact ⟨0,[B0,c.nm],by omega,rfl,rfl,Lib.hid (by rw[←HW.out];rfl),HO7.out,ZB.out⟩
  case round =>
   obtain ⟨k,ps,hk,rfl,hpl,hps,hown,hbel⟩:=hrel;by_cases hlt:k<0
   ·exact absurd hlt (Nat.not_lt_zero _)
   ·have qm:decide (k<0)=false:=decide_eq_false hlt;have HE:=Lib.hid (show ps.map (·.data.toList)=wordP 8::c.nm.data.toList::([]:List Vl).map (vtxt c) by rw[hps.out,List.take_of_length_le (by first | (simp;done) | (simp;omega))]);have HBX:=Lib.hid hbel;have HO:=Lib.hid hown;obtain ⟨g,cap,hpv⟩:∃ g cap,u7=.slice (some ⟨g,0,none⟩) ps.length cap:=by
     rcases hown.2 with ⟨_,h0⟩|⟨g,cap,cur,e0,_⟩
     ·exact absurd h0 (by omega)
     ·exact ⟨g,cap,e0⟩
    subst hpv;have hcap:ps.length≤cap:=by
     obtain ⟨A',c',e0,h1,_⟩:=Sl.of_own hown;injection e0 with e1 e2 e3
     omega
    have hjl:Lib.join (ps.map (·.data.toList)) [32]=wordP 8++(32::c.nm.data.toList)++vtxts c ([]:List Vl):=by
     rw[HE.out,join_leaf];unfold vtxts
     rw[List.flatMap_map]
    have hjs:(Lib.join (ps.map (·.data.toList)) [32]).length≤4300:=by
     rw[hjl];simp only[List.length_append,List.length_cons];have h3:=vtxts_take (c:=c) HV.out HVL.out (([]:List Vl):List Vl).length;rw[List.take_length]at h3;have:=wordP_len 8
     have:=sizeD c.nm
     omega
    have HJN:=Lib.hid (Tryz.strings_Join g 0 cap ps { data:=#[32] } wr (fun j y hj=>by
     have h:=World.ownsRow.cells hown (g:=g) rfl j (.string y) (by unfold strV;rw[List.getElem?_map,hj];rfl);rw[Addr.add_lit,Nat.zero_add]at h;rw[Nat.zero_add];exact h) (hown.lt g rfl).2 (by omega) hcap (by show (Lib.join (ps.map (·.data.toList)) [32]).length≤_;omega))
    obtain ⟨JB,hJB⟩:∃ JB:ByteArray,(⟨(Lib.join (ps.map (·.data.toList)) [32]).toArray⟩:ByteArray)=JB:=⟨_,rfl⟩
    have HJB:=Lib.hid (show JB.data.toList=wordP 8++(32::c.nm.data.toList)++vtxts c ([]:List Vl) by rw[←hJB,←hjl]);have hJs:JB.size≤4300:=by rw[size_of HJB.out,←hjl];exact hjs
    change Hid (Calls _ _ _ _ fun e w'=>e=.returned (.string ⟨(Lib.join (ps.map (·.data.toList)) [32]).toArray⟩)∧_) at HJN
    rw[hJB]at HJN;obtain ⟨Rn,hRn⟩:∃ q,ps.length=q:=⟨_,rfl⟩
    rw[hRn]at HJN;try simp only[hRn]
    clear hjl hjs hJB hown hbel hps hpl hRn;go_wp2_with fail
    refine HJN.out.mono ?_;rintro _ w5 ⟨rfl,hb5⟩;have HX:=Lib.hid (bst YB.out (bst HBX.out hb5));clear hb5 HJN;go_wp2;go_ret;exact RetT.mk_ (by rw[HLC.out];simp[ByteArray.data_append,HJB.out]) HX.out
 ·have e7:op=7:=by omega
  subst e7;obtain rfl:J=6:=by have:=HJ.out;omega
  have w6:IntKind.i64.wrap 6=6:=IntWalk.i64_in _ (by omega);have HPV:=Lib.hid (show valsP x=l by rw[HP.out,if_neg (by omega),if_neg (by omega)]);have YU:=XU;have hl16:l.length≤16:=by have:=HVL.out;rw[HPV.out]at this;exact this
  clear h7 e8 XC XN XB XT XU;have bb:=YN.out;have n0:=bb.cell 0;have n1:=bb.cell 1;have n2:=bb.cell 2;have n3:=bb.cell 3;have n4:=bb.cell 4;have n5:=bb.cell 5;have n6:=bb.cell 6;have n7:=bb.cell 7;simp only[jA,jZ,jS]at n0 n1 n2 n3 n4 n5 n6 n7;clear bb;go_upto_region 7 with (fail)
  clear n0 n1 n2 n3 n4 n5 n6 n7;have XN:=YN;have XC:=YC;refine wp_region_inv (by kernel_rfl) (by kernel_rfl) (fun L a w'=>∃ u28 u29 u30 u31 u32 u33 u34 u35 u36 u7:Value,a=⟨#[.agg #[.slice (some ad) cs.length cA,.int .i64 key],.agg #[.int .i64 7,.int .i64 KC,.bool vn,.int .i64 vi,.string vs,.slice AL l.length cL,.int .i64 fa,.int .i64 fb],.pointer (some ⟨w.heap.size,0,none⟩),.pointer (some ⟨w.heap.size+1,0,none⟩),.string { data:=#[] },.pointer (some ⟨M,0,none⟩),.slice AL l.length cL,u7,undef,undef,undef,.pointer (some ⟨w.heap.size,0,none⟩),.slice (some ad) cs.length cA,.pointer (some ⟨w.heap.size+1,1,none⟩),.int .i64 KC,.pointer (some pc),.agg #[.string c.nm,.int .i64 c.ty,.int .i64 c.sc,.bool c.nu],.pointer (some ⟨w.heap.size+1,5,none⟩),.slice AL l.length cL,.pointer (some ⟨w.heap.size+1,0,none⟩),.int .i64 7,.bool false,undef,undef,undef,.pointer (some ⟨w.heap.size+1,0,none⟩),.int .i64 7,.bool false,u28,u29,u30,u31,u32,u33,u34,u35,u36,undef,undef,undef,undef,undef,undef,undef,undef,undef,undef,undef,undef,undef,undef,undef,undef,undef,undef,undef,undef,undef,undef,undef,undef],[]⟩ ∧
    Below X.heap.size X w'∧GotRow (L 0) X.heap.size u28 11 9 #[.string { data:=#[101,113] },.string { data:=#[110,101] },.string { data:=#[108,116] },.string { data:=#[108,101] },.string { data:=#[103,116] },.string { data:=#[103,101] },.string { data:=#[105,110] },.string { data:=#[110,117,108,108] },.string { data:=#[97,110,100] },.string { data:=#[111,114] },.string { data:=#[110,111,116] }] w'∧Got (L 1) u29 (.pointer (some ⟨w.heap.size+1,0,none⟩))∧Got (L 2) u30 (.int .i64 7)∧Got (L 3) u31 (.int .i64 6)∧GotPtr (L 4) X.heap.size u32 6 9 #[.string { data:=#[101,113] },.string { data:=#[110,101] },.string { data:=#[108,116] },.string { data:=#[108,101] },.string { data:=#[103,116] },.string { data:=#[103,101] },.string { data:=#[105,110] },.string { data:=#[110,117,108,108] },.string { data:=#[97,110,100] },.string { data:=#[111,114] },.string { data:=#[110,111,116] }] w'∧Got (L 5) u33 (.string B0)∧Got (L 6) u34 (.pointer (some ⟨M,0,none⟩))∧Got (L 7) u35 (.string c.nm)∧GotRow (L 8) X.heap.size u36 2 9 #[.string B0,.string c.nm] w'∧GotRow (L 9) X.heap.size u7 2 9 #[.string B0,.string c.nm] w')
   ?_ ?_ ?_
  ·exact ⟨_,_,_,_,_,_,_,_,_,_,rfl,(Below.refl _ _).drew,nofun,nofun,nofun,nofun,nofun,nofun,nofun,nofun,nofun,nofun⟩
  ·refine ⟨?_,?_,?_,?_,?_,?_,?_,?_,?_,?_,trivial⟩
   ·refine fun L a w'=>ex8 fun _ _ _ _ _ _ _ _=>ex2 fun _ _=>un8 fun ha hb g0 g1 g2 g3 g4 g5=>un2 fun g6 g7=>un1 fun g8 g9 hl hd K hK=>?_;subst ha
    dsimp only at hK ⊢;go_wp2_with fail
    refine (pwords_any w').mono ?_;rintro _ w4 ⟨g,rfl,hg,hB,hb4⟩;exact hK _ _ ⟨_,_,_,_,_,_,_,_,_,_,rfl,bst hb hb4,fun _=>⟨g,rfl,Nat.le_trans hb.size hg,hB⟩,g1,g2,g3,g4.below hb4,g5,g6,g7,g8.below hb4,g9.below hb4⟩
   ·refine fun L a w'=>ex8 fun _ _ _ _ _ _ _ _=>ex2 fun _ _=>un8 fun ha hb g0 g1 g2 g3 g4 g5=>un2 fun g6 g7=>un1 fun g8 g9 hl hd K hK=>?_;subst ha
    dsimp only at hK ⊢;go_simp;exact hK _ _ ⟨_,_,_,_,_,_,_,_,_,_,rfl,hb,g0,fun _=>rfl,g2,g3,g4,g5,g6,g7,g8,g9⟩
   ·refine fun L a w'=>ex8 fun _ _ _ _ _ _ _ _=>ex2 fun _ _=>un8 fun ha hb g0 g1 g2 g3 g4 g5=>un2 fun g6 g7=>un1 fun g8 g9 hl hd K hK=>?_;subst ha
    simp[Region.binds]at hd;dsimp only at hK ⊢;have e1:=g1 (by simp[hd]);subst e1;have bb:=XN.out.below hb XN.out.lt;have c0:=bb.cell 0;have c1:=bb.cell 1;have c2:=bb.cell 2;have c3:=bb.cell 3;have c4:=bb.cell 4;have c5:=bb.cell 5;have c6:=bb.cell 6;have c7:=bb.cell 7;simp only[jA,jZ,jS]at c0 c1 c2 c3 c4 c5 c6 c7;clear bb;go_simp;exact hK _ _ ⟨_,_,_,_,_,_,_,_,_,_,rfl,hb,g0,g1,fun _=>rfl,g3,g4,g5,g6,g7,g8,g9⟩
   ·refine fun L a w'=>ex8 fun _ _ _ _ _ _ _ _=>ex2 fun _ _=>un8 fun ha hb g0 g1 g2 g3 g4 g5=>un2 fun g6 g7=>un1 fun g8 g9 hl hd K hK=>?_;subst ha
    simp[Region.binds]at hd;dsimp only at hK ⊢;have e2:=g2 (by simp[hd]);subst e2;go_simp;exact hK _ _ ⟨_,_,_,_,_,_,_,_,_,_,rfl,hb,g0,g1,g2,fun _=>rfl,g4,g5,g6,g7,g8,g9⟩
   ·refine fun L a w'=>ex8 fun _ _ _ _ _ _ _ _=>ex2 fun _ _=>un8 fun ha hb g0 g1 g2 g3 g4 g5=>un2 fun g6 g7=>un1 fun g8 g9 hl hd K hK=>?_;subst ha
    simp[Region.binds]at hd;dsimp only at hK ⊢;have e3:=g3 (by simp[hd]);subst e3;obtain ⟨g,hg0,hgN,hgB⟩:=g0 (by simp[hd]);subst hg0;go_simp;exact hK _ _ ⟨_,_,_,_,_,_,_,_,_,_,rfl,hb,fun _=>⟨g,rfl,hgN,hgB⟩,g1,g2,g3,fun _=>⟨g,rfl,hgN,hgB⟩,g5,g6,g7,g8,g9⟩
   ·refine fun L a w'=>ex8 fun _ _ _ _ _ _ _ _=>ex2 fun _ _=>un8 fun ha hb g0 g1 g2 g3 g4 g5=>un2 fun g6 g7=>un1 fun g8 g9 hl hd K hK=>?_;subst ha
    simp[Region.binds]at hd;dsimp only at hK ⊢;obtain ⟨g,hg0,hgN,hgB⟩:=g4 (by simp[hd]);subst hg0;have cc:=(hgB.cell 6).trans HBJ.out;go_simp;exact hK _ _ ⟨_,_,_,_,_,_,_,_,_,_,rfl,hb,g0,g1,g2,g3,fun _=>⟨g,rfl,hgN,hgB⟩,fun _=>rfl,g6,g7,g8,g9⟩
   ·refine fun L a w'=>ex8 fun _ _ _ _ _ _ _ _=>ex2 fun _ _=>un8 fun ha hb g0 g1 g2 g3 g4 g5=>un2 fun g6 g7=>un1 fun g8 g9 hl hd K hK=>?_;subst ha
    dsimp only at hK ⊢;go_simp;exact hK _ _ ⟨_,_,_,_,_,_,_,_,_,_,rfl,hb,g0,g1,g2,g3,g4,g5,fun _=>rfl,g7,g8,g9⟩
   ·refine fun L a w'=>ex8 fun _ _ _ _ _ _ _ _=>ex2 fun _ _=>un8 fun ha hb g0 g1 g2 g3 g4 g5=>un2 fun g6 g7=>un1 fun g8 g9 hl hd K hK=>?_;subst ha
    simp[Region.binds]at hd;dsimp only at hK ⊢;have e6:=g6 (by simp[hd]);subst e6;have bb:=XC.out.below hb XC.out.lt;have c0:=bb.cell 0;have c1:=bb.cell 1;have c2:=bb.cell 2;have c3:=bb.cell 3;simp only[jA,jZ,jS]at c0 c1 c2 c3;clear bb;go_simp;exact hK _ _ ⟨_,_,_,_,_,_,_,_,_,_,rfl,hb,g0,g1,g2,g3,g4,g5,g6,fun _=>rfl,g8,g9⟩
   ·refine fun L a w'=>ex8 fun _ _ _ _ _ _ _ _=>ex2 fun _ _=>un8 fun ha hb g0 g1 g2 g3 g4 g5=>un2 fun g6 g7=>un1 fun g8 g9 hl hd K hK=>?_;subst ha
    simp[Region.binds]at hd;dsimp only at hK ⊢;have e5:=g5 (by simp[hd]);subst e5;have e7:=g7 (by simp[hd]);subst e7;go_simp;exact hK _ _ ⟨_,_,_,_,_,_,_,_,_,_,rfl,hb.alloc hb.size _,g0.below ((Below.refl w'.heap.size w').alloc (Nat.le_refl _) _),g1,g2,g3,g4.below ((Below.refl w'.heap.size w').alloc (Nat.le_refl _) _),g5,g6,g7,fun _=>⟨_,rfl,hb.size,Blk.new _ _ _⟩,g9.below ((Below.refl w'.heap.size w').alloc (Nat.le_refl _) _)⟩
   ·refine fun L a w'=>ex8 fun _ _ _ _ _ _ _ _=>ex2 fun _ _=>un8 fun ha hb g0 g1 g2 g3 g4 g5=>un2 fun g6 g7=>un1 fun g8 g9 hl hd K hK=>?_;subst ha
    simp[Region.binds]at hd;dsimp only at hK ⊢;obtain ⟨g,hg0,hgN,hgB⟩:=g8 (by simp[hd]);subst hg0;go_simp;exact hK _ _ ⟨_,_,_,_,_,_,_,_,_,_,rfl,hb,g0,g1,g2,g3,g4,g5,g6,g7,fun _=>⟨g,rfl,hgN,hgB⟩,fun _=>⟨g,rfl,hgN,hgB⟩⟩
  intro a w7 hI
  revert hI;refine ex8 fun _ _ _ _ _ _ _ _=>ex2 fun _ u7=>un8 fun ha hb g0 g1 g2 g3 g4 g5=>un2 fun g6 g7=>un1 fun g8 g9=>?_;subst ha
  obtain ⟨gw,hgw,hgNw,hgBw⟩:=g9 rfl;subst hgw;have ZB:=Lib.hid hb;have HO7:=Lib.hid (own_blkS (base:=X.heap.size) (n:=2) (size:=1) hgBw hgNw rfl (by decide));clear g0 g1 g2 g3 g4 g5 g6 g7 g8 g9 hb hgNw hgBw;rw[HPV.out]at HV HVL HLC;clear HPV HP;go_wp2;go_loopw [7,39] (fun o i wr=>∃ (k:Nat) (ps:List ByteArray),k≤l.length∧i=.int .i64 (k:Int)∧ps.length=k+2∧Hid (ps.map (·.data.toList)=wordP 7::c.nm.data.toList::(l.take k).map (vtxt c))∧wr.ownsRow X.heap.size 9 1 o ps.length (strV ps)∧Below X.heap.size X wr) (fun _ i _=>l.length - (intOf i).toNat)
  case atStart=>exact ⟨0,[B0,c.nm],by omega,rfl,rfl,Lib.hid (by rw[←HW.out];rfl),HO7.out,ZB.out⟩
  case round =>
   obtain ⟨k,ps,hk,rfl,hpl,hps,hown,hbel⟩:=hrel;by_cases hlt:k<l.length
   ·obtain ⟨ad2,e,pe,e0,he,hpe,hE⟩:=(YU.out.below hbel).vl_load rfl hlt;subst e0;obtain ⟨hplt,c0,c1,c2⟩:=hE;have HLT:=Lib.hid hlt;have qm:decide (k<l.length)=true:=decide_eq_true hlt;have HOK:=Lib.hid (HV.out e (List.mem_of_getElem? he));have HN:=Lib.hid (show (l.take (k+1)).map (vtxt c)=(l.take k).map (vtxt c) ++ [vtxt c e] by rw[List.take_add_one,he];simp);obtain ⟨N5,hN5⟩:∃ N,wr.heap.size=N:=⟨_,rfl⟩
    obtain ⟨V,hV⟩:∃ V,V=wr.alloc (.cells #[.bool e.nu,.int .i64 e.n,.string e.s] 64):=⟨_,rfl⟩
    have hbV:Below wr.heap.size wr V:=by rw[hV];exact (Below.refl _ _).alloc (Nat.le_refl _) _
    have VB:=Lib.hid (show Below X.heap.size X V by rw[hV];exact hbel.alloc hbel.size _);have VE:=Lib.hid (show Blk V N5 64 #[.bool e.nu,.int .i64 e.n,.string e.s] by rw[hV,←hN5];exact Blk.new _ _ _);have VC:=Lib.hid (YC.out.below VB.out YC.out.lt);have VO:=Lib.hid (own_below hown hbV);have HPL:=Lib.hid hpl;obtain ⟨Rn,hRn⟩:∃ q,ps.length=q:=⟨_,rfl⟩
    rw[hRn]at VO hpl;have hRb:Rn≤100:=by omega
    have HRn:=Lib.hid hRn;clear hpl;obtain ⟨nb,hnb⟩:∃ q,e.nu=q:=⟨_,rfl⟩
    rw[hnb]at VE;have HNB:=Lib.hid hnb;clear he hbel hown hbV hRn hnb;go_upto_region 11 with (fail)
    rw[←hV];try simp only[hN5]
    try rw[HNB.out]
    clear hV hN5 c0 c1 c2 hplt;try clear hpe
    obtain ⟨B,hBl⟩:∃ B:ByteArray,B.data.toList=vtxt c e:=⟨⟨(vtxt c e).toArray⟩,by simp⟩
    have HB:=Lib.hid hBl;clear hBl;cases nb with
    | true =>
     have hB4:B={ data:=#[110,117,108,108] }:=by
      have h:=vtxt_null HOK.out HSC.out HNB.out;rw[←HB.out]at h;exact bytes_ext h
     have bb:=VE.out;have v0:=bb.cell 0;have v1:=bb.cell 1;have v2:=bb.cell 2;simp only[jA,jZ,jS]at v0 v1 v2;clear bb;have hO:=VO.out;have hB:=VB.out;have hsz:=hB.size;go_upto_region 14 with (fail)
     clear v0 v1 v2;go_wp2_with (at_builtin;go_must (refine app1 _ _ hO hB (Nat.le_refl _) hsz under_strP info_strP rfl (by decide) rfl (oneStr _) (by omega) (by omega) rfl rfl rfl rfl ?_))
     intro g9 cap9 w9 hO9 hB9 hgr9 _
     have HO9:=Lib.hid (show w9.ownsRow X.heap.size 9 1 (.slice (some ⟨g9,0,none⟩) (Rn+1) cap9) (ps ++ [B]).length (strV (ps ++ [B])) by rw[List.length_append,HRn.out,strV_snoc];rw[hB4];exact hO9);have HB9:=Lib.hid hB9;have HNE:=Lib.hid (show (ps ++ [B]).map (·.data.toList)=wordP 7::c.nm.data.toList::(l.take (k+1)).map (vtxt c) by rw[List.map_append,hps.out,HN.out];simp[HB.out]);clear hO hB hsz hO9 hB9 hgr9;go_wp2;go_roundw
     case rel=>exact ⟨k+1,ps ++ [B],HLT.out,by go_num,by rw[List.length_append,HPL.out];rfl,HNE,by have h:=HO9.out;rw[List.length_append,HRn.out]at h ⊢;exact h,HB9.out⟩
     case measure=>have:=HLT.out;simp[intOf];omega
    | false =>
     obtain ⟨F,hF⟩:∃ F,fmtV c.ty c.sc c.nu false e.n e.s=F:=⟨_,rfl⟩
     have hFB:(⟨F.1.toArray⟩:ByteArray)=B:=bytes_ext (by rw[HB.out];unfold vtxt;rw[HNB.out,←fmt_cn c.ty c.sc c.nu,hF]);obtain ⟨r,hr⟩:∃ r,F.2=r:=⟨_,rfl⟩
     have HFM:=Lib.hid (show Calls Tryz.prog 74 #[.agg #[.string c.nm,.int .i64 c.ty,.int .i64 c.sc,.bool c.nu],.agg #[.bool false,.int .i64 e.n,.string e.s]] V (fun d w'=>d=.returned (.tuple #[.string B,.int .i64 r])∧Below V.heap.size V w') by
      have h:=vfmt_any c.nm c.ty c.sc c.nu false e.n e.s V (YT.out.below VB.out) ⟨HOK.out.lo,HOK.out.hi⟩ HOK.out.sz;rw[hF]at h;unfold RetDec at h
      rw[hFB,hr]at h;exact h)
     clear hF hFB hr;have bb:=VE.out;have v0:=bb.cell 0;have v1:=bb.cell 1;have v2:=bb.cell 2;simp only[jA,jZ,jS]at v0 v1 v2;clear bb;have bb:=VC.out;have k0:=bb.cell 0;have k1:=bb.cell 1;have k2:=bb.cell 2;have k3:=bb.cell 3;simp only[jA,jZ,jS]at k0 k1 k2 k3;clear bb;go_wp2_with fail
     refine HFM.out.mono ?_;rintro _ w4 ⟨rfl,hb4⟩;have VO4:=Lib.hid (own_below VO.out hb4);have VB4:=Lib.hid (bst VB.out hb4);clear v0 v1 v2 k0 k1 k2 k3;clear hb4 HFM;have hO:=VO4.out;have hB:=VB4.out;have hsz:=hB.size;go_wp2_with (at_builtin;go_must (refine app1 _ _ hO hB (Nat.le_refl _) hsz under_strP info_strP rfl (by decide) rfl (oneStr _) (by omega) (by omega) rfl rfl rfl rfl ?_))
     intro g9 cap9 w9 hO9 hB9 hgr9 _
     have HO9:=Lib.hid (show w9.ownsRow X.heap.size 9 1 (.slice (some ⟨g9,0,none⟩) (Rn+1) cap9) (ps ++ [B]).length (strV (ps ++ [B])) by rw[List.length_append,HRn.out,strV_snoc]; exact hO9);have HB9:=Lib.hid hB9;have HNE:=Lib.hid (show (ps ++ [B]).map (·.data.toList)=wordP 7::c.nm.data.toList::(l.take (k+1)).map (vtxt c) by rw[List.map_append,hps.out,HN.out];simp[HB.out]);clear hO hB hsz hO9 hB9 hgr9;go_wp2;go_roundw
     case rel=>exact ⟨k+1,ps ++ [B],HLT.out,by go_num,by rw[List.length_append,HPL.out];rfl,HNE,by have h:=HO9.out;rw[List.length_append,HRn.out]at h ⊢;exact h,HB9.out⟩
     case measure=>have:=HLT.out;simp[intOf];omega
   ·have qm:decide (k<l.length)=false:=decide_eq_false hlt;have HE:=Lib.hid (show ps.map (·.data.toList)=wordP 7::c.nm.data.toList::l.map (vtxt c) by rw[hps.out,List.take_of_length_le (by omega)]);have HBX:=Lib.hid hbel;have HO:=Lib.hid hown;obtain ⟨g,cap,hpv⟩:∃ g cap,u7=.slice (some ⟨g,0,none⟩) ps.length cap:=by
     rcases hown.2 with ⟨_,h0⟩|⟨g,cap,cur,e0,_⟩
     ·exact absurd h0 (by omega)
     ·exact ⟨g,cap,e0⟩
    subst hpv;have hcap:ps.length≤cap:=by
     obtain ⟨A',c',e0,h1,_⟩:=Sl.of_own hown;injection e0 with e1 e2 e3
     omega
    have hjl:Lib.join (ps.map (·.data.toList)) [32]=wordP 7++(32::c.nm.data.toList)++vtxts c l:=by
     rw[HE.out,join_leaf];unfold vtxts
     rw[List.flatMap_map]
    have hjs:(Lib.join (ps.map (·.data.toList)) [32]).length≤4300:=by
     rw[hjl];simp only[List.length_append,List.length_cons];have h3:=vtxts_take (c:=c) HV.out HVL.out (l:List Vl).length;rw[List.take_length]at h3;have:=wordP_len 7
     have:=sizeD c.nm
     omega
    have HJN:=Lib.hid (Tryz.strings_Join g 0 cap ps { data:=#[32] } wr (fun j y hj=>by
     have h:=World.ownsRow.cells hown (g:=g) rfl j (.string y) (by unfold strV;rw[List.getElem?_map,hj];rfl);rw[Addr.add_lit,Nat.zero_add]at h;rw[Nat.zero_add];exact h) (hown.lt g rfl).2 (by omega) hcap (by show (Lib.join (ps.map (·.data.toList)) [32]).length≤_;omega))
    obtain ⟨JB,hJB⟩:∃ JB:ByteArray,(⟨(Lib.join (ps.map (·.data.toList)) [32]).toArray⟩:ByteArray)=JB:=⟨_,rfl⟩
    have HJB:=Lib.hid (show JB.data.toList=wordP 7++(32::c.nm.data.toList)++vtxts c l by rw[←hJB,←hjl]);have hJs:JB.size≤4300:=by rw[size_of HJB.out,←hjl];exact hjs
    change Hid (Calls _ _ _ _ fun e w'=>e=.returned (.string ⟨(Lib.join (ps.map (·.data.toList)) [32]).toArray⟩)∧_) at HJN
    rw[hJB]at HJN;obtain ⟨Rn,hRn⟩:∃ q,ps.length=q:=⟨_,rfl⟩
    rw[hRn]at HJN;try simp only[hRn]
    clear hjl hjs hJB hown hbel hps hpl hRn;go_wp2_with fail
    refine HJN.out.mono ?_;rintro _ w5 ⟨rfl,hb5⟩;have HX:=Lib.hid (bst YB.out (bst HBX.out hb5));clear hb5 HJN;go_wp2;go_ret;exact RetT.mk_ (by rw[HLC.out];simp[ByteArray.data_append,HJB.out]) HX.out
end Go.Proofs.YtjnamjkdjcndiaaGreatDoor
