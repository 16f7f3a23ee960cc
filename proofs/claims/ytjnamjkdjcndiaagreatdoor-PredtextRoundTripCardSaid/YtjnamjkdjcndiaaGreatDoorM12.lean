/-
  Words, plain laws and contracts on which the walks lean, in one text.
-/
import Derived.Test.YtjnamjkdjcndiaaGreatDoorM11
import Derived.Test.YtjnamjkdjcndiaaGreatDoorM6
import Derived.Test.YtjnamjkdjcndiaaGreatDoorM2
import Derived.Test.YtjnamjkdjcndiaaGreatDoorM5
import Derived.Test.YtjnamjkdjcndiaaGreatDoorM1
import Derived.Test.YtjnamjkdjcndiaaGreatDoorNumLaw
import Derived.Test.YtjnamjkdjcndiaaGreatDoorM7
namespace Go.Proofs.YtjnamjkdjcndiaaGreatDoor
open Go.RowKit Go.Sort

theorem blkC4 {w:World} {A:Nat} {T:TypeId} {x y z u:Value} (a b c d:Value) (h:Blk w A T #[x,y,z,u]) :
  Blk ((((w.setCell ⟨A,0,none⟩ a).setCell ⟨A,1,none⟩ b).setCell ⟨A,2,none⟩ c).setCell ⟨A,3,none⟩ d) A T #[a,b,c,d]:=by
 have h0:=h.set_ 0 a;simp only[jI,jY]at h0;have h1:=h0.set_ 1 b;simp only[jI,jY,jT]at h1;have h2:=h1.set_ 2 c;simp only[jI,jY,jT]at h2;have h3:=h2.set_ 3 d;simp only[jI,jY,jT]at h3;exact h3
theorem grownC4 (w:World) (A:Nat) (a b c d:Value):w.grownBy ((((w.setCell ⟨A,0,none⟩ a).setCell ⟨A,1,none⟩ b).setCell ⟨A,2,none⟩ c).setCell ⟨A,3,none⟩ d) (some A) :=
 grown_trans' (grown_trans' (grown_trans' (grownBy_set w ⟨A,0,none⟩ a) (grownBy_set _ ⟨A,1,none⟩ b)) (grownBy_set _ ⟨A,2,none⟩ c)) (grownBy_set _ ⟨A,3,none⟩ d)
theorem reg_n {P:Program} {f:FuncId} {args:Array Value} {w:World} {v:Value} (h:∀ W,Below w.heap.size w W→Calls P f args W fun e w'=>e=.returned v∧Below W.heap.size W w'):∀ d os,Calls P f args (grow (redrawn w d) os) fun e w''=>e=.returned v∧∃ p:Regrown,w''=grow (redrawn w p.d) p.os :=
 fun d os=>Calls.regrown_of ((h (grow (redrawn w d) os) (below_regrown w d os)).mono fun _ _ h=>h)
theorem rleaf_any (op:Int) (w:World) {b:Bool} (h1:decide (1≤op)=true) (h2:decide (op≤8)=b):Calls Tryz.prog 79 #[.int .i64 op] w fun e w'=>e=.returned (.bool b)∧w=w':=by
 go_enter Tryz.func79,Tryz.ntmps79
 go_wp2;go_ret;exact ⟨rfl,rfl⟩
theorem rcomp_any (op:Int) (w:World) {b:Bool} (h1:decide (1≤op)=true) (h2:decide (op≤6)=b):Calls Tryz.prog 54 #[.int .i64 op] w fun e w'=>e=.returned (.bool b)∧w=w':=by
 go_enter Tryz.func54,Tryz.ntmps54
 go_wp2;go_ret;exact ⟨rfl,rfl⟩

set_option maxRecDepth 100000 in
set_option maxHeartbeats 8000000 in
theorem rnull_any (c:Col) (w:World):Calls Tryz.prog 56 #[.agg #[.string c.nm,.int .i64 c.ty,.int .i64 c.sc,.bool c.nu]] w fun e w'=>e=.returned (.agg #[.string c.nm,.int .i64 c.ty,.int .i64 c.sc,.bool true])∧Below w.heap.size w w':=by
 obtain ⟨W,hW⟩:∃ W,W=(w.alloc (.cells #[.string c.nm,.int .i64 c.ty,.int .i64 c.sc,.bool c.nu] 56)).alloc (.cells #[.string { data:=#[] },.int .i64 0,.int .i64 0,.bool false] 56):=⟨_,rfl⟩
 have hb0:Below w.heap.size w W:=by rw[hW];exact abelS _ _ _
 have BC:=Lib.hid (show Blk W w.heap.size 56 #[.string c.nm,.int .i64 c.ty,.int .i64 c.sc,.bool c.nu] by rw[hW];exact (Blk.new _ _ _).alloc _);have BR:=Lib.hid (show Blk W (w.heap.size+1) 56 #[.string { data:=#[] },.int .i64 0,.int .i64 0,.bool false] by rw[hW];have h:=Blk.new (w.alloc (.cells #[.string c.nm,.int .i64 c.ty,.int .i64 c.sc,.bool c.nu] 56)) 56 #[.string { data:=#[] },.int .i64 0,.int .i64 0,.bool false];simpa using h);have HB0:=Lib.hid hb0;obtain ⟨W2,hW2⟩:∃ W2,W.setCell ⟨w.heap.size,3,none⟩ (.bool true)=W2:=⟨_,rfl⟩
 have kg:=grownBy_set W ⟨w.heap.size,3,none⟩ (.bool true);rw[hW2]at kg;have BC2:=Lib.hid (show Blk W2 w.heap.size 56 #[.string c.nm,.int .i64 c.ty,.int .i64 c.sc,.bool true] by
  have h:=BC.out.set_ 3 (.bool true);simp only[jI,jY,jT]at h;rw[hW2]at h;exact h)
 have BR2:=Lib.hid (BR.out.grown kg (by intro e;injection e with e;simp at e));have HB2:=Lib.hid (show Below w.heap.size w W2 by rw[←hW2];exact HB0.out.setCell (p:=⟨w.heap.size,3,none⟩) (Nat.le_refl _) _);have fz:=BC.out.frozen 3;clear hb0 kg;go_enter Tryz.func56,Tryz.ntmps56
 go_upto_region 1 with (fail)
 rw[←hW];clear hW;have bb:=BC.out;have k0:=bb.cell 0;have k1:=bb.cell 1;have k2:=bb.cell 2;have k3:=bb.cell 3;simp only[jA,jZ,jS]at k0 k1 k2 k3;clear bb;go_upto_region 2 with (fail)
 try rw[hW2]
 clear fz;clear k0 k1 k2 k3;have bb:=BC2.out;have k0:=bb.cell 0;have k1:=bb.cell 1;have k2:=bb.cell 2;have k3:=bb.cell 3;simp only[jA,jZ,jS]at k0 k1 k2 k3;clear bb;have bb:=BR2.out;have z0:=bb.cell 0;have z1:=bb.cell 1;have z2:=bb.cell 2;have z3:=bb.cell 3;simp only[jA,jZ,jS]at z0 z1 z2 z3;clear bb;have fz0:=(BR2.out).frozen 0;have fz1:=(BR2.out).frozen 1;have fz2:=(BR2.out).frozen 2;have fz3:=(BR2.out).frozen 3;go_wp2;have kg:=grownC4 W2 (w.heap.size+1) (.string c.nm) (.int .i64 c.ty) (.int .i64 c.sc) (.bool true);have kb:=blkC4 (.string c.nm) (.int .i64 c.ty) (.int .i64 c.sc) (.bool true) BR2.out;have kw:=below_row HB2.out kg (Nat.le_succ _) HB2.out.size;obtain ⟨V,hV⟩:∃ V,V=(((W2.setCell ⟨w.heap.size+1,0,none⟩ (.string c.nm)).setCell ⟨w.heap.size+1,1,none⟩ (.int .i64 c.ty)).setCell ⟨w.heap.size+1,2,none⟩ (.int .i64 c.sc)).setCell ⟨w.heap.size+1,3,none⟩ (.bool true):=⟨_,rfl⟩
 rw[←hV]at kb kw ⊢;clear k0 k1 k2 k3;have bb:=kb;have d0:=bb.cell 0;have d1:=bb.cell 1;have d2:=bb.cell 2;have d3:=bb.cell 3;simp only[jA,jZ,jS]at d0 d1 d2 d3;clear bb;exact bodyPost_ret (v:=.agg #[.string c.nm,.int .i64 c.ty,.int .i64 c.sc,.bool true]) (by simp[results,Tryz.results56,go_sem,d0,d1,d2,d3]) rfl ⟨rfl,kw⟩
set_option maxRecDepth 100000 in
set_option maxHeartbeats 8000000 in
theorem rnode_any (v:Value) (key:Int) (cs:List Col) (i:Nat) (op col:Int) (vn:Bool) (vi:Int) (vs:ByteArray) (l:List Vl) (u:Value) (a b:Int) (w:World) (hs:Sl w 4 v cs.length (cols cs)) (hu:Sl w 3 u l.length (vls l)) (_hcl:cs.length≤1000000) (_hi:i≤1000000) (hvs:vs.size≤9223372036854775807) (hls:∀ e ∈ l,e.s.size≤9223372036854775807) :
  Calls Tryz.prog 53 #[.agg #[v,.int .i64 key],.agg #[.int .i64 op,.int .i64 col,.bool vn,.int .i64 vi,.string vs,u,.int .i64 a,.int .i64 b],.int .i64 (i:Int)] w (RetN w (nodeV cs i ⟨op,col,⟨vn,vi,vs⟩,l,a,b⟩)):=by
 obtain ⟨A,cA,rfl,hc1,hc2⟩:=hs.form;obtain ⟨AL,cL,rfl,hc3,hc4⟩:=hu.form;obtain ⟨W,hW⟩:∃ W,W=(w.alloc (.cells #[.slice A cs.length cA,.int .i64 key] 28)).alloc (.cells #[.int .i64 op,.int .i64 col,.bool vn,.int .i64 vi,.string vs,.slice AL l.length cL,.int .i64 a,.int .i64 b] 66):=⟨_,rfl⟩
 have hb0:Below w.heap.size w W:=by rw[hW];exact abelS _ _ _
 have BS:=Lib.hid (show Blk W w.heap.size 28 #[.slice A cs.length cA,.int .i64 key] by rw[hW];exact (Blk.new _ _ _).alloc _);have BN:=Lib.hid (show Blk W (w.heap.size+1) 66 #[.int .i64 op,.int .i64 col,.bool vn,.int .i64 vi,.string vs,.slice AL l.length cL,.int .i64 a,.int .i64 b] by rw[hW];have h:=Blk.new (w.alloc (.cells #[.slice A cs.length cA,.int .i64 key] 28)) 66 #[.int .i64 op,.int .i64 col,.bool vn,.int .i64 vi,.string vs,.slice AL l.length cL,.int .i64 a,.int .i64 b];simpa using h);have HS:=Lib.hid (hs.below hb0);have HU:=Lib.hid (hu.below hb0);have HB0:=Lib.hid hb0;have HV:=Lib.hid (show nodeV cs i ⟨op,col,⟨vn,vi,vs⟩,l,a,b⟩=nodeV cs i ⟨op,col,⟨vn,vi,vs⟩,l,a,b⟩ from rfl);obtain ⟨x,hx⟩:∃ x:Nd,x=⟨op,col,⟨vn,vi,vs⟩,l,a,b⟩:=⟨_,rfl⟩
 have xop:x.op=op:=by rw[hx]
 have xcol:x.col=col:=by rw[hx]
 have xa:x.a=a:=by rw[hx]
 have xb:x.b=b:=by rw[hx]
 have xv:x.v=⟨vn,vi,vs⟩:=by rw[hx]
 have xl:x.l=l:=by rw[hx]
 rw[←hx];have Xop:=Lib.hid xop;have Xcol:=Lib.hid xcol;have Xa:=Lib.hid xa;have Xb:=Lib.hid xb;have Xv:=Lib.hid xv;have Xl:=Lib.hid xl;have H1:=Lib.hid (nv_op (cs:=cs) (i:=i) (x:=x));have H2:=Lib.hid (nv_sub (cs:=cs) (i:=i) (x:=x));have H3:=Lib.hid (nv_col (cs:=cs) (i:=i) (x:=x));have H4:=Lib.hid (fun (K:Nat) (c:Col)=>nv_leaf (cs:=cs) (i:=i) (K:=K) (x:=x) (c:=c));rw[xop]at H1 H2 H3 H4;rw[xa,xb]at H2;rw[xcol]at H3 H4;rw[xv,xl]at H4;clear HV hs hu hb0 xop xcol xa xb xv xl hx;go_enter Tryz.func53,Tryz.ntmps53
 go_upto_region 1 with (fail)
 rw[←hW];clear hW;have bb:=BS.out;have s0:=bb.cell 0;have s1:=bb.cell 1;simp only[jA,jZ,jS]at s0 s1;clear bb;have bb:=BN.out;have n0:=bb.cell 0;have n1:=bb.cell 1;have n2:=bb.cell 2;have n3:=bb.cell 3;have n4:=bb.cell 4;have n5:=bb.cell 5;have n6:=bb.cell 6;have n7:=bb.cell 7;simp only[jA,jZ,jS]at n0 n1 n2 n3 n4 n5 n6 n7;clear bb;by_cases h1:op<1
 ·have q1:decide (op<1)=true:=decide_eq_true h1;have HF:=Lib.hid (show nodeV cs i x=1 by exact H1.out (.inl h1));clear H1 H2 H3 H4;go_wp2;go_ret;exact RetN.mk_ HF.out HB0.out
 have q1:decide (op<1)=false:=decide_eq_false h1;by_cases h2:11<op
 ·have q2:decide (11<op)=true:=decide_eq_true h2;have HF:=Lib.hid (show nodeV cs i x=1 by exact H1.out (.inr h2));clear H1 H2 H3 H4;go_wp2;go_ret;exact RetN.mk_ HF.out HB0.out
 have q2:decide (11<op)=false:=decide_eq_false h2;have h12:¬(op<1∨11<op):=by omega
 have p1:decide (1≤op)=true:=decide_eq_true (by omega);by_cases h9:9≤op
 ·have q3:decide (op≤8)=false:=decide_eq_false (by omega);go_wp2_with fail
  refine (rleaf_any op _ p1 q3).mono ?_;rintro _ _ ⟨rfl,rfl⟩;have HD:=Lib.hid (H2.out h12 h9);clear h1 h2 h12 h9 H1 H2 H3 H4;by_cases ha:a<0
  ·have q4:decide (a<0)=true:=decide_eq_true ha;have HF:=Lib.hid (show nodeV cs i x=4 by rw[HD.out];rw[if_pos (.inl ha)]);clear HD;go_wp2;go_ret;exact RetN.mk_ HF.out HB0.out
  have q4:decide (a<0)=false:=decide_eq_false ha;by_cases ha2:(i:Int)≤a
  ·have q5:decide ((i:Int)≤a)=true:=decide_eq_true ha2;have HF:=Lib.hid (show nodeV cs i x=4 by rw[HD.out];rw[if_pos (.inr (.inl ha2))]);clear HD;go_wp2;go_ret;exact RetN.mk_ HF.out HB0.out
  have q5:decide ((i:Int)≤a)=false:=decide_eq_false ha2;by_cases h11:op=11
  ·have q6:(op != 11)=false:=by simp[h11]
   have HF:=Lib.hid (show nodeV cs i x=0 by rw[HD.out];rw[if_neg (by rintro (h | h | h);exact ha h;exact ha2 h;exact h.1 h11)]);clear HD;go_wp2;go_ret;exact RetN.mk_ HF.out HB0.out
  have q6:(op != 11)=true:=by simp[h11]
  by_cases hb:b<0
  ·have q7:decide (b<0)=true:=decide_eq_true hb;have HF:=Lib.hid (show nodeV cs i x=4 by rw[HD.out];rw[if_pos (.inr (.inr ⟨h11,.inl hb⟩))]);clear HD;go_wp2;go_ret;exact RetN.mk_ HF.out HB0.out
  have q7:decide (b<0)=false:=decide_eq_false hb;by_cases hb2:(i:Int)≤b
  ·have q8:decide ((i:Int)≤b)=true:=decide_eq_true hb2;have HF:=Lib.hid (show nodeV cs i x=4 by rw[HD.out];rw[if_pos (.inr (.inr ⟨h11,.inr hb2⟩))]);clear HD;go_wp2;go_ret;exact RetN.mk_ HF.out HB0.out
  have q8:decide ((i:Int)≤b)=false:=decide_eq_false hb2;have HF:=Lib.hid (show nodeV cs i x=0 by rw[HD.out];rw[if_neg (by rintro (h | h | h);exact ha h;exact ha2 h;exact h.2.elim hb hb2)]);clear HD;go_wp2;go_ret;exact RetN.mk_ HF.out HB0.out
 have q3:decide (op≤8)=true:=decide_eq_true (by omega);go_wp2_with fail
 refine (rleaf_any op _ p1 q3).mono ?_;rintro _ _ ⟨rfl,rfl⟩;by_cases hc0:col<0
 ·have q4:decide (col<0)=true:=decide_eq_true hc0;have HF:=Lib.hid (show nodeV cs i x=4 by exact H3.out h12 h9 (.inl hc0));clear H1 H2 H3 H4;go_wp2;go_ret;exact RetN.mk_ HF.out HB0.out
 have q4:decide (col<0)=false:=decide_eq_false hc0;by_cases hc1':(cs.length:Int)≤col
 ·have q5:decide ((cs.length:Int)≤col)=true:=decide_eq_true hc1';have HF:=Lib.hid (show nodeV cs i x=4 by exact H3.out h12 h9 (.inr hc1'));clear H1 H2 H3 H4;go_wp2;go_ret;exact RetN.mk_ HF.out HB0.out
 obtain ⟨K,rfl⟩:=Int.eq_ofNat_of_zero_le (show 0≤col by omega);have hK:K<cs.length:=by omega
 have q5:decide (cs.length≤K)=false:=decide_eq_false (by omega);have q5':decide ((cs.length:Int)≤(K:Int))=false:=decide_eq_false (by omega);have q6:decide (K<cs.length)=true:=decide_eq_true hK;obtain ⟨ad,c,pc,rfl,hc,hpc,hE⟩:=HS.out.col_load rfl hK;obtain ⟨hplt,c0,c1,c2,c3⟩:=hE;have HD:=Lib.hid (H4.out K c h12 h9 rfl hc);clear H1 H2 H3 H4 hc h12 h9 h1 h2 hc0 hc1';obtain ⟨M,hM⟩:∃ M,W.heap.size=M:=⟨_,rfl⟩
 obtain ⟨W2,hW2⟩:∃ W2,W2=W.alloc (.cells #[.string c.nm,.int .i64 c.ty,.int .i64 c.sc,.bool c.nu] 56):=⟨_,rfl⟩
 have hb2:Below w.heap.size w W2:=by rw[hW2];exact HB0.out.alloc HB0.out.size _
 have hbW:Below W.heap.size W W2:=by rw[hW2];exact (Below.refl _ _).alloc (Nat.le_refl _) _
 have BC:=Lib.hid (show Blk W2 M 56 #[.string c.nm,.int .i64 c.ty,.int .i64 c.sc,.bool c.nu] by rw[hW2,←hM];exact Blk.new _ _ _);have BN2:=Lib.hid (BN.out.below hbW BN.out.lt);have HU2:=Lib.hid (HU.out.below hbW);have HB2:=Lib.hid hb2;have HBW:=Lib.hid hbW;have hMW:W.heap.size≤M:=by omega
 have hMw:w.heap.size≤M:=by rw[←hM];exact HB0.out.size
 have hNM:w.heap.size+1<M:=by rw[←hM];exact BN.out.lt
 clear hb2 hbW;go_upto_region 10 with (fail)
 rw[←hW2];try simp only[hM]
 clear hW2 hM c0 c1 c2 c3 hpc hplt;clear s0 s1;clear n0 n1 n2 n3 n4 n5 n6 n7;have bb:=BC.out;have k0:=bb.cell 0;have k1:=bb.cell 1;have k2:=bb.cell 2;have k3:=bb.cell 3;simp only[jA,jZ,jS]at k0 k1 k2 k3;clear bb;have bb:=BN2.out;have n0:=bb.cell 0;have n1:=bb.cell 1;have n2:=bb.cell 2;have n3:=bb.cell 3;have n4:=bb.cell 4;have n5:=bb.cell 5;have n6:=bb.cell 6;have n7:=bb.cell 7;simp only[jA,jZ,jS]at n0 n1 n2 n3 n4 n5 n6 n7;clear bb;by_cases h6:op≤6
 ·have q6:decide (op≤6)=true:=decide_eq_true h6;have h8:¬ op=8:=by omega
  have h7:op≠7:=by omega
  clear h6;go_wp2_with fail
  refine (rcomp_any op _ p1 q6).mono ?_;rintro _ _ ⟨rfl,rfl⟩;cases vn with
  | true =>
   have HF:=Lib.hid (show nodeV cs i x=12 by rw[HD.out];rw[if_neg h8,if_pos h7,if_pos rfl]);clear HD;go_wp2;go_ret;exact RetN.mk_ HF.out HB2.out
  | false =>
   have HCH:=Lib.hid (fun X=>rvcheck_any c.nm c.ty c.sc c.nu false vi vs X hvs);obtain ⟨r,hr⟩:∃ r,checkV c.ty c.nu false vi vs=r:=⟨_,rfl⟩
   have HF:=Lib.hid (show nodeV cs i x=r by rw[HD.out,if_neg h8,if_pos h7,if_neg (by simp),←hr]);rw[hr]at HCH;clear HD hr h8 h7;go_wp2_with fail
   refine (HCH.out _).mono ?_;rintro _ w3 ⟨rfl,hb3⟩;have HX:=Lib.hid (bst HB2.out hb3);clear hb3;go_wp2;go_ret;exact RetN.mk_ HF.out HX.out
 have q6:decide (op≤6)=false:=decide_eq_false h6;go_wp2_with fail
 refine (rcomp_any op _ p1 q6).mono ?_;rintro _ _ ⟨rfl,rfl⟩;by_cases h8:op=8
 ·have q7:(op==8)=true:=by simp[h8]
  have HF:=Lib.hid (show nodeV cs i x=0 by rw[HD.out];rw[if_pos h8]);clear HD;go_wp2;go_ret;exact RetN.mk_ HF.out HB2.out
 have q7:(op==8)=false:=by simpa using h8
 have h7:op=7:=by
  have:=of_decide_eq_false q2
  have:=of_decide_eq_true q3
  omega
 clear h6;subst h7;by_cases hl0:l.length=0
 ·have q9:((l.length:Int)==0)=true:=by simp[hl0]
  have q9':(l.length==0)=true:=by simp[hl0]
  have HF:=Lib.hid (show nodeV cs i x=1 by rw[HD.out];rw[if_neg h8,if_neg (by simp),if_pos hl0]);clear HD;go_wp2;go_ret;exact RetN.mk_ HF.out HB2.out
 have q9:((l.length:Int)==0)=false:=by rw[beq_eq_false_iff_ne];omega
 have q9':(l.length==0)=false:=by simpa using hl0
 by_cases hl16:16<l.length
 ·have q10:decide (16<l.length)=true:=decide_eq_true hl16;have q10':decide ((16:Int)<(l.length:Int))=true:=decide_eq_true (by omega);have HF:=Lib.hid (show nodeV cs i x=7 by rw[HD.out];rw[if_neg h8,if_neg (by simp),if_neg hl0,if_pos hl16]);clear HD;go_wp2;go_ret;exact RetN.mk_ HF.out HB2.out
 have q10:decide (16<l.length)=false:=decide_eq_false hl16;have q10':decide ((16:Int)<(l.length:Int))=false:=decide_eq_false (by omega);have HE:=Lib.hid (show nodeV cs i x=firstE (listE c l) l.length by rw[HD.out,if_neg h8,if_neg (by simp),if_neg hl0,if_neg hl16]);clear HD h8 hl0;go_wp2;go_loopw [89] (fun i wr=>∃ k:Nat,k≤l.length∧i=.int .i64 (k:Int)∧Below W2.heap.size W2 wr∧Hid (firstE (listE c l) k=0)) (fun i _=>l.length - (intOf i).toNat)
 case atStart=>exact ⟨0,by omega,rfl,Below.refl _ _,Lib.hid rfl⟩
 case round =>
  obtain ⟨k,hk,rfl,hbel,hno⟩:=hrel;by_cases hlt:k<l.length
  ·obtain ⟨ad2,e,pe,e0,he,hpe,hE⟩:=(HU2.out.below hbel).vl_load rfl hlt;subst e0;obtain ⟨hplt,c0,c1,c2⟩:=hE;have HLT:=Lib.hid hlt;have qm:decide (k<l.length)=true:=decide_eq_true hlt;have hes:=hls e (List.mem_of_getElem? he);have hLE:=listE_at (c:=c) he;obtain ⟨r,hr⟩:∃ r,checkV c.ty true e.nu e.n e.s=r:=⟨_,rfl⟩
   rw[hr]at hLE;obtain ⟨N5,hN5⟩:∃ N,wr.heap.size=N:=⟨_,rfl⟩
   obtain ⟨V,hV⟩:∃ V,V=wr.alloc (.cells #[.bool e.nu,.int .i64 e.n,.string e.s] 64):=⟨_,rfl⟩
   have VB:=Lib.hid (show Below W2.heap.size W2 V by rw[hV];exact hbel.alloc hbel.size _);have VE:=Lib.hid (show Blk V N5 64 #[.bool e.nu,.int .i64 e.n,.string e.s] by rw[hV,←hN5];exact Blk.new _ _ _);have VC:=Lib.hid (BC.out.below VB.out BC.out.lt);have AA1:=Lib.hid (reg_n (w:=V) (fun X _=>rnull_any c X));have AA2:=Lib.hid (reg_n (w:=V) (fun X _=>show Calls Tryz.prog 61 #[.agg #[.string c.nm,.int .i64 c.ty,.int .i64 c.sc,.bool true],.agg #[.bool e.nu,.int .i64 e.n,.string e.s]] X (RetN X r) by rw[←hr];exact rvcheck_any c.nm c.ty c.sc true e.nu e.n e.s X hes));clear he hbel hr;have f0:=fun d os=>(VC.out.below (below_regrown V d os) VC.out.lt).cell 0
   have f1:=fun d os=>(VC.out.below (below_regrown V d os) VC.out.lt).cell 1
   have f2:=fun d os=>(VC.out.below (below_regrown V d os) VC.out.lt).cell 2
   have f3:=fun d os=>(VC.out.below (below_regrown V d os) VC.out.lt).cell 3
   have g0:=fun d os=>(VE.out.below (below_regrown V d os) VE.out.lt).cell 0
   have g1:=fun d os=>(VE.out.below (below_regrown V d os) VE.out.lt).cell 1
   have g2:=fun d os=>(VE.out.below (below_regrown V d os) VE.out.lt).cell 2
   simp only[jA,jZ,jS]at f0 f1 f2 f3 g0 g1 g2;go_upto_region 23 with (fail)
   rw[←hV];try simp only[hN5]
   clear hV hN5 c0 c1 c2 hpe hplt;refine wp_region_quiet_below (by kernel_rfl) (by kernel_rfl) ?_
   repeat (go_big_quiet_step ((first | (with_reducible exact AA1.out _ _) | (with_reducible exact AA2.out _ _))))
   refine wpQuiet_nil ?_
   intro _ hw'
   obtain ⟨⟨dq,osq⟩,hw''⟩:=hw';subst hw'';have XB4:=Lib.hid (bst VB.out (below_regrown V dq osq));obtain ⟨X4,hX4⟩:∃ X,grow (redrawn V dq) osq=X:=⟨_,rfl⟩
   simp only[hX4]at XB4;clear f0 f1 f2 f3 g0 g1 g2 AA1 AA2;by_cases h0:r=0
   ·have t0:(r != 0)=false:=by simp[h0]
    have HN:=Lib.hid (firstE_next hno.out (by rw[hLE,h0]));clear h0 hLE;go_wp2;try simp only[hX4]
    go_roundw
    case rel=>exact ⟨k+1,HLT.out,by go_num,XB4.out,HN⟩
    case measure=>have:=HLT.out;simp[intOf];omega
   ·have t0:(r != 0)=true:=by simpa using h0
    have HF:=Lib.hid (show nodeV cs i x=r by rw[HE.out];exact first_stop hno.out hLE h0 HLT.out);clear h0 hLE;go_wp2;try simp only[hX4]
    go_ret;exact RetN.mk_ HF.out (HB2.out.trans (XB4.out.mono HB2.out.size))
  ·have qm:decide (k<l.length)=false:=decide_eq_false hlt;have HF:=Lib.hid (show nodeV cs i x=0 by rw[HE.out,show l.length=k by omega];exact hno.out);have HX:=Lib.hid (HB2.out.trans (hbel.mono HB2.out.size));clear hbel;go_wp2;go_ret;exact RetN.mk_ HF.out HX.out
set_option maxRecDepth 100000 in
set_option maxHeartbeats 8000000 in
theorem rpchk_any (v pv:Value) (key:Int) (cs:List Col) (p:List Nd) (w:World) (hs:Sl w 4 v cs.length (cols cs)) (hp:SlNd w pv p) (hcl:cs.length≤9223372036854775807) (hpl:p.length≤9223372036854775807) (hnm:∀ c ∈ cs,c.nm.size≤9223372036854775807) (hvs:∀ x ∈ p,x.v.s.size≤9223372036854775807) (hls:∀ x ∈ p,∀ e ∈ x.l,e.s.size≤9223372036854775807) :
  Calls Tryz.prog 32 #[.agg #[v,.int .i64 key],pv] w (RetN w (pchkV cs key p)):=by
 obtain ⟨A,cA,rfl,hc1,hc2⟩:=hs.form;obtain ⟨AP,cP,rfl,hc3,hc4⟩:=hp.form;obtain ⟨W,hW⟩:∃ W,W=w.alloc (.cells #[.slice A cs.length cA,.int .i64 key] 28):=⟨_,rfl⟩
 have hb0:Below w.heap.size w W:=by rw[hW];exact (Below.refl _ _).alloc (Nat.le_refl _) _
 have BS:=Lib.hid (show Blk W w.heap.size 28 #[.slice A cs.length cA,.int .i64 key] by rw[hW];exact Blk.new _ _ _);have HS:=Lib.hid (hs.below hb0);have HP:=Lib.hid (hp.below hb0);have HB0:=Lib.hid hb0;have HSC:=Lib.hid (rschk_any (.slice A cs.length cA) cs key W HS.out hcl hnm);obtain ⟨E,hE⟩:∃ E,schkV cs key=E:=⟨_,rfl⟩
 have HV:=Lib.hid (show pchkV cs key p=if E≠0 then E else if 64<p.length then 7 else firstE (nodeE cs p) p.length by unfold pchkV;rw[hE]);have HSK:=Lib.hid hE;rw[hE]at HSC;obtain ⟨R,hR⟩:∃ R,pchkV cs key p=R:=⟨_,rfl⟩
 rw[hR]at HV ⊢;clear hs hp hb0 hE hR;go_enter Tryz.func32,Tryz.ntmps32
 go_upto_region 1 with (fail)
 rw[←hW];clear hW;have bb:=BS.out;have s0:=bb.cell 0;have s1:=bb.cell 1;simp only[jA,jZ,jS]at s0 s1;clear bb;go_wp2_with fail
 refine HSC.out.mono ?_;rintro _ w2 ⟨rfl,hb2⟩;have HB2:=Lib.hid (bst HB0.out hb2);have BS2:=Lib.hid (BS.out.below hb2 BS.out.lt);have HS2:=Lib.hid (HS.out.below hb2);have HP2:=Lib.hid (HP.out.below hb2);clear hb2 HSC;clear s0 s1;by_cases hE:E=0
 case neg =>
  have q1:(E != 0)=true:=by simpa using hE
  have HF:=Lib.hid (show R=E by rw[HV.out,if_pos hE]);clear hE HV;go_wp2;go_ret;exact RetN.mk_ HF.out HB2.out
 case pos =>
 have q1:(E != 0)=false:=by simp[hE]
 by_cases h64:64<p.length
 ·have q2:decide (64<p.length)=true:=decide_eq_true h64;have q2':decide ((64:Int)<(p.length:Int))=true:=decide_eq_true (by omega);have HF:=Lib.hid (show R=7 by rw[HV.out,if_neg (by rw[hE];simp),if_pos h64]);clear hE HV;go_wp2;go_ret;exact RetN.mk_ HF.out HB2.out
 have q2:decide (64<p.length)=false:=decide_eq_false h64;have q2':decide ((64:Int)<(p.length:Int))=false:=decide_eq_false (by omega);have HE:=Lib.hid (show R=firstE (nodeE cs p) p.length by rw[HV.out,if_neg (by rw[hE];simp),if_neg h64]);have hp64:p.length≤64:=by omega
 have hc12:cs.length≤12:=by
  have h:=HSK.out;rw[hE]at h;unfold schkV at h
  by_cases a1:cs.length=0
  ·rw[if_pos a1]at h;cases h
  ·rw[if_neg a1]at h;by_cases a2:12<cs.length
   ·rw[if_pos a2]at h;cases h
   ·omega
 clear hE HV h64;go_wp2;go_loopw [19] (fun i wr=>∃ k:Nat,k≤p.length∧i=.int .i64 (k:Int)∧Below w2.heap.size w2 wr∧Hid (firstE (nodeE cs p) k=0)) (fun i _=>p.length - (intOf i).toNat)
 case atStart=>exact ⟨0,by omega,rfl,Below.refl _ _,Lib.hid rfl⟩
 case round =>
  obtain ⟨k,hk,rfl,hbel,hno⟩:=hrel;by_cases hlt:k<p.length
  ·obtain ⟨ad,x,u,px,rfl,hx,hpx,hE,hu⟩:=(HP2.out.below hbel).nd_load rfl hlt;obtain ⟨AU,cU,rfl,_,_⟩:=hu.form;obtain ⟨hplt,c0,c1,c2,c3,c4,c5,c6,c7⟩:=hE;have HLT:=Lib.hid hlt;have qm:decide (k<p.length)=true:=decide_eq_true hlt;have hxm:=List.mem_of_getElem? hx;have hNE:=nodeE_at (cs:=cs) hx;obtain ⟨r,hr⟩:∃ r,nodeV cs k x=r:=⟨_,rfl⟩
   rw[hr]at hNE;obtain ⟨N5,hN5⟩:∃ N,wr.heap.size=N:=⟨_,rfl⟩
   obtain ⟨V,hV⟩:∃ V,V=wr.alloc (.cells #[.int .i64 x.op,.int .i64 x.col,.bool x.v.nu,.int .i64 x.v.n,.string x.v.s,.slice AU x.l.length cU,.int .i64 x.a,.int .i64 x.b] 66):=⟨_,rfl⟩
   have hbV:Below wr.heap.size wr V:=by rw[hV];exact (Below.refl _ _).alloc (Nat.le_refl _) _
   have VB:=Lib.hid (show Below w2.heap.size w2 V by rw[hV];exact hbel.alloc hbel.size _);have VE:=Lib.hid (show Blk V N5 66 #[.int .i64 x.op,.int .i64 x.col,.bool x.v.nu,.int .i64 x.v.n,.string x.v.s,.slice AU x.l.length cU,.int .i64 x.a,.int .i64 x.b] by rw[hV,←hN5];exact Blk.new _ _ _);have VS:=Lib.hid (BS2.out.below VB.out BS2.out.lt);have HCN:=Lib.hid (show Calls Tryz.prog 53 #[.agg #[.slice A cs.length cA,.int .i64 key],.agg #[.int .i64 x.op,.int .i64 x.col,.bool x.v.nu,.int .i64 x.v.n,.string x.v.s,.slice AU x.l.length cU,.int .i64 x.a,.int .i64 x.b],.int .i64 (k:Int)] V (RetN V r) by rw[←hr];exact rnode_any _ key cs k x.op x.col x.v.nu x.v.n x.v.s x.l _ x.a x.b V (HS2.out.below VB.out) (hu.below hbV) (by omega) (by omega) (hvs x hxm) (hls x hxm));clear hx hbel hr hbV hu hxm;go_upto_region 9 with (fail)
   rw[←hV];try simp only[hN5]
   clear hV hN5 c0 c1 c2 c3 c4 c5 c6 c7 hpx hplt;have bb:=VE.out;have v0:=bb.cell 0;have v1:=bb.cell 1;have v2:=bb.cell 2;have v3:=bb.cell 3;have v4:=bb.cell 4;have v5:=bb.cell 5;have v6:=bb.cell 6;have v7:=bb.cell 7;simp only[jA,jZ,jS]at v0 v1 v2 v3 v4 v5 v6 v7;clear bb;have bb:=VS.out;have s0:=bb.cell 0;have s1:=bb.cell 1;simp only[jA,jZ,jS]at s0 s1;clear bb;go_wp2_with fail
   refine HCN.out.mono ?_;rintro _ w4 ⟨rfl,hb4⟩;have XB4:=Lib.hid (bst VB.out hb4);clear hb4 HCN;clear v0 v1 v2 v3 v4 v5 v6 v7;clear s0 s1;by_cases h0:r=0
   ·have t0:(r != 0)=false:=by simp[h0]
    have HN:=Lib.hid (firstE_next hno.out (by rw[hNE,h0]));clear h0 hNE;go_wp2;go_roundw
    case rel=>exact ⟨k+1,HLT.out,by go_num,XB4.out,HN⟩
    case measure=>have:=HLT.out;simp[intOf];omega
   ·have t0:(r != 0)=true:=by simpa using h0
    have HF:=Lib.hid (show R=r by rw[HE.out];exact first_stop hno.out hNE h0 HLT.out);clear h0 hNE;go_wp2;go_ret;exact RetN.mk_ HF.out (bst HB2.out XB4.out)
  ·have qm:decide (k<p.length)=false:=decide_eq_false hlt;have HF:=Lib.hid (show R=0 by rw[HE.out,show p.length=k by omega];exact hno.out);have HX:=Lib.hid (bst HB2.out hbel);clear hbel;go_wp2;go_ret;exact RetN.mk_ HF.out HX.out
open Go.RowKit
theorem firstE_zero {f:Nat→Int}:∀ n,firstE f n=0→∀ k,k<n→f k=0
 | 0,_,k,hk=>by omega
 | n+1,h,k,hk=>by
  simp only[firstE]at h;by_cases e:firstE f n=0
  ·rw[if_neg (by rw[e];simp)]at h;by_cases ek:k=n
   ·subst ek;exact h
   ·exact firstE_zero n e k (by omega)
  ·rw[if_pos e]at h;exact absurd h e
structure ColValid (c:Col):Prop where
 nm:c.nm.size≤16
 ty:1≤c.ty∧c.ty≤5
 sc:0≤c.sc∧c.sc≤18
theorem nameB_len {s:ByteArray} (h:nameB s.data.toList=true):s.size≤16:=by
 unfold nameB at h
 simp only[Bool.and_eq_true,decide_eq_true_eq]at h;have:=h.1.1.1.2
 rw[size_data]at this;exact this
theorem colErr_zero {l:List Col} {k:Nat} {c:Col} (h:colErr l k c=0):ColValid c:=by
 unfold colErr at h
 split at h
 ·cases h
 ·rename_i h1
  split at h
  ·cases h
  ·split at h
   ·cases h
   ·split at h
    ·cases h
    ·exact ⟨nameB_len (by simpa using h1),by omega,by omega⟩
theorem schk_valid {l:List Col} {key:Int} (h:schkV l key=0):0<l.length∧l.length≤12∧(∀ c ∈ l,ColValid c)∧0≤key∧key<l.length:=by
 unfold schkV at h
 split at h
 ·cases h
 ·split at h
  ·cases h
  ·split at h
   ·rename_i h1;exact absurd h h1
   ·rename_i h1
    split at h
    ·cases h
    ·refine ⟨by omega,by omega,fun c hc=>?_,by omega,by omega⟩
     obtain ⟨k,hk⟩:=List.mem_iff_getElem?.1 hc;have hz:firstE (colE l) l.length=0:=by simpa using h1
     have:=firstE_zero _ hz k (List.getElem?_eq_some_iff.1 hk).1
     rw[colE_at hk]at this;exact colErr_zero this
set_option linter.unusedVariables false
set_option linter.unusedVariables false
structure ColGood (c:Col):Prop where
 nm:nameB c.nm.data.toList=true
 ty:1≤c.ty∧c.ty≤5
 sc:0≤c.sc∧c.sc≤18
 s0:c.ty≠5→c.sc=0
theorem colErr_good {l:List Col} {k:Nat} {c:Col} (h:colErr l k c=0):ColGood c∧(k:Int)≤findC l c.nm:=by
 unfold colErr at h
 split at h
 ·cases h
 ·rename_i h1
  split at h
  ·cases h
  ·split at h
   ·cases h
   ·split at h
    ·cases h
    ·exact ⟨⟨by simpa using h1,by omega,by omega,by omega⟩,by omega⟩
theorem schk_good {l:List Col} {key:Int} (h:schkV l key=0):∀ (k:Nat) (c:Col),l[k]?=some c→ColGood c∧findC l c.nm=k:=by
 intro k c hk
 unfold schkV at h
 split at h
 ·cases h
 ·split at h
  ·cases h
  ·split at h
   ·rename_i h1;exact absurd h h1
   ·rename_i h1
    have hz:firstE (colE l) l.length=0:=by simpa using h1
    have:=firstE_zero _ hz k (List.getElem?_eq_some_iff.1 hk).1
    rw[colE_at hk]at this;obtain ⟨g1,g2⟩:=colErr_good this;exact ⟨g1,by have:=findC_le hk rfl;omega⟩
end Go.Proofs.YtjnamjkdjcndiaaGreatDoor
