/-
  Words, plain laws and contracts on which the walks lean, in one text.
-/
import Derived.Test.YtjnamjkdjcndiaaGreatDoorM22
import Derived.Test.YtjnamjkdjcndiaaGreatDoorM26
namespace Go.Proofs.YtjnamjkdjcndiaaGreatDoor
open Go.RowKit Go.Sort
def amN (l:List Vl) (k:Nat):Bool:=(l.take k).any (fun x=>x.nu)
def amE (t:Int) (v x:Vl):Bool:=cmpV t v.nu v.n v.s x.nu x.n x.s==0
def amF (t:Int) (v:Vl) (l:List Vl) (k:Nat):Bool:=(l.take k).any (fun x=>!x.nu&&amE t v x)
theorem any_next {p:Vl→Bool} {l:List Vl} {k:Nat} {x:Vl} (h:l[k]?=some x):(l.take (k+1)).any p=((l.take k).any p || p x):=by
 rw[List.take_add_one,h];simp
set_option maxRecDepth 100000 in
set_option maxHeartbeats 4000000 in
theorem ramong_any (t:Int) (v:Vl) (lv:Value) (l:List Vl) (w:World) (hl:Sl w 3 lv l.length (vls l)) :
  Calls Tryz.prog 91 #[.int .i64 t,.agg #[.bool v.nu,.int .i64 v.n,.string v.s],lv] w
   fun e w'=>e=.returned (.tuple #[.bool (amF t v l l.length),.bool (amN l l.length)])∧Below w.heap.size w w':=by
 obtain ⟨A,c,rfl,hc1,hc2⟩:=hl.form;unfold maxLen at hc2
 obtain ⟨W,hW⟩:∃ W,W=w.alloc (.cells #[.bool v.nu,.int .i64 v.n,.string v.s] 64):=⟨_,rfl⟩
 have hb0:Below w.heap.size w W:=by rw[hW];exact (Below.refl _ _).alloc (Nat.le_refl _) _
 have BV:=Lib.hid (show Blk W w.heap.size 64 #[.bool v.nu,.int .i64 v.n,.string v.s] by rw[hW];exact Blk.new _ _ _);have HL:=Lib.hid (hl.below hb0);have HB0:=Lib.hid hb0;clear hl hb0;go_enter Tryz.func91,Tryz.ntmps91
 go_upto_region 1 with (fail)
 rw[←hW];clear hW;go_wp2_with fail
 go_loopw [8,9,14] (fun f n i wr=>∃ k:Nat,k≤l.length∧i=.int .i64 k∧f=.bool (amF t v l k)∧n=.bool (amN l k)∧Below W.heap.size W wr) (fun _ _ i _=>l.length - (intOf i).toNat)
 case atStart=>exact ⟨0,by omega,rfl,rfl,rfl,Below.refl _ _⟩
 case round =>
  obtain ⟨k,hk,rfl,rfl,rfl,hbel⟩:=hrel;have HBw:=Lib.hid (bst HB0.out hbel);by_cases hlt:k<l.length
  ·obtain ⟨ad,x,p,rfl,hx,hp,hX⟩:=(HL.out.below hbel).vl_load rfl hlt;obtain ⟨_,x0,x1,x2⟩:=hX;have HF:=Lib.hid (show amF t v l (k+1)=(amF t v l k || (!x.nu&&amE t v x)) from any_next hx);have HN:=Lib.hid (show amN l (k+1)=(amN l k || x.nu) from any_next hx);obtain ⟨F,hF⟩:∃ F,amF t v l k=F:=⟨_,rfl⟩
   obtain ⟨N,hN⟩:∃ N,amN l k=N:=⟨_,rfl⟩
   rw[hF]at HF ⊢;rw[hN]at HN ⊢;obtain ⟨b,hb⟩:∃ b,x.nu=b:=⟨_,rfl⟩
   have HE:=Lib.hid (show amE t v x=(cmpV t v.nu v.n v.s b x.n x.s==0) by unfold amE;rw[hb]);rw[hb]at x0 HF HN;clear hx hF hN hb;obtain ⟨W1,hW1⟩:∃ W1,W1=wr.alloc (.cells #[.bool b,.int .i64 x.n,.string x.s] 64):=⟨_,rfl⟩
   have BX:=Lib.hid (show Blk W1 wr.heap.size 64 #[.bool b,.int .i64 x.n,.string x.s] by rw[hW1];exact Blk.new _ _ _);have h1:Below wr.heap.size wr W1:=by rw[hW1];exact below_new _ _
   have BW:=Lib.hid (BV.out.below (bst hbel h1) BV.out.lt);have HW1:=Lib.hid (bst hbel h1);clear hbel h1;go_upto_region 5 with (fail)
   try rw[←hW1]
   clear hW1;have bb:=BW.out;have v0:=bb.cell 0;have v1:=bb.cell 1;have v2:=bb.cell 2;simp only[jA,jZ,jS]at v0 v1 v2;clear bb x0 x1 x2;have bb:=BX.out;have y0:=bb.cell 0;have y1:=bb.cell 1;have y2:=bb.cell 2;simp only[jA,jZ,jS]at y0 y1 y2;clear bb;cases b
   ·cases F
    ·have HC:=Lib.hid (fun X=>rcompare_any t v.nu v.n v.s false x.n x.s X);cases N
     all_goals
      go_wp2_with fail
      refine (HC.out _).mono ?_;rintro _ w2 ⟨rfl,hb2⟩;have HWX:=Lib.hid (bst HW1.out hb2);clear hb2 v0 v1 v2 y0 y1 y2;go_wp2;go_roundw
      case rel=>exact ⟨k+1,by omega,by go_num,by rw[HF.out,HE.out];rfl,by rw[HN.out];rfl,HWX.out⟩
      case measure=>simp[intOf];omega
    ·cases N
     all_goals
      go_wp2;go_roundw
      case rel=>exact ⟨k+1,by omega,by go_num,by rw[HF.out];rfl,by rw[HN.out];rfl,HW1.out⟩
      case measure=>simp[intOf];omega
   ·cases F <;> cases N
    all_goals
     go_wp2;go_roundw
     case rel=>exact ⟨k+1,by omega,by go_num,by rw[HF.out];rfl,by rw[HN.out];rfl,HW1.out⟩
     case measure=>simp[intOf];omega
  ·obtain rfl:k=l.length:=by omega
   go_wp2;go_ret2
   exact ⟨rfl,HBw.out⟩
def trB (b:Bool):Int:=if b then 1 else 0
theorem trB_in (b:Bool):0≤trB b∧trB b≤2:=by cases b <;> decide
theorem rtruth2_any (b:Bool) (w:World):Calls Tryz.prog 88 #[.bool b] w fun e w'=>e=.returned (.int .i64 (trB b))∧w=w':=rtruth_any b w
def leafTr (t:Int) (x:Nd) (v:Vl):Int :=
 if x.op=8 then trB v.nu else if v.nu then 2 else if x.op≤6 then trB (holdsV x.op (cmpV t v.nu v.n v.s x.v.nu x.v.n x.v.s))
 else if (!amF t v x.l x.l.length&&amN x.l x.l.length) then 2 else trB (amF t v x.l x.l.length)
theorem leafTr_in (t:Int) (x:Nd) (v:Vl):0≤leafTr t x v∧leafTr t x v≤2:=by
 have h:=fun b=>trB_in b
 unfold leafTr
 repeat' split
 all_goals first | exact h _ | omega
theorem leafTr_nrm (t:Int) (x:Nd) (v:Vl) (h:x.op<9):leafTr t (nrm x) v=leafTr t x v:=by
 unfold leafTr
 have e1:(nrm x).op=x.op:=rfl;have e2:x.op≤6→(nrm x).v=x.v:=fun h=>by show (if x.op<7 then x.v else v0)=x.v;rw[if_pos (by omega)]
 have e3:x.op=7→(nrm x).l=x.l:=fun h=>by show (if x.op=7 then x.l else [])=x.l;rw[if_pos h]
 rw[e1];by_cases h8:x.op=8
 ·rw[if_pos h8,if_pos h8]
 ·rw[if_neg h8,if_neg h8];by_cases h6:x.op≤6
  ·rw[if_pos h6,if_pos h6,e2 h6]
  ·rw[if_neg h6,if_neg h6];by_cases h7:x.op=7
   ·rw[e3 h7]
   ·omega
set_option maxRecDepth 100000 in
set_option maxHeartbeats 8000000 in
theorem rleafT_any (sv:Value) (key:Int) (cs:List Col) (K:Nat) (c:Col) (x:Nd) (u:Value) (v:Vl) (w:World) (hs:Sl w 4 sv cs.length (cols cs)) (hu:Sl w 3 u x.l.length (vls x.l)) (hK:cs[K]?=some c) (hc:x.col=(K:Int)) (h1:1≤x.op) (h8:x.op≤8) :
  Calls Tryz.prog 65 #[.agg #[sv,.int .i64 key],.agg #[.int .i64 x.op,.int .i64 x.col,.bool x.v.nu,.int .i64 x.v.n,.string x.v.s,u,.int .i64 x.a,.int .i64 x.b],.agg #[.bool v.nu,.int .i64 v.n,.string v.s]] w
   fun e w'=>e=.returned (.int .i64 (leafTr c.ty x v))∧Below w.heap.size w w':=by
 obtain ⟨A,cA,rfl,hc1,hc2⟩:=hs.form;obtain ⟨AL,cL,rfl,hc3,hc4⟩:=hu.form;rw[hc];obtain ⟨op,hop⟩:∃ op,x.op=op:=⟨_,rfl⟩
 obtain ⟨W,hW⟩:∃ W,W=((w.alloc (.cells #[.slice A cs.length cA,.int .i64 key] 28)).alloc (.cells #[.int .i64 op,.int .i64 (K:Int),.bool x.v.nu,.int .i64 x.v.n,.string x.v.s,.slice AL x.l.length cL,.int .i64 x.a,.int .i64 x.b] 66)).alloc (.cells #[.bool v.nu,.int .i64 v.n,.string v.s] 64):=⟨_,rfl⟩
 have hb0:Below w.heap.size w W:=by rw[hW];exact (abelS _ _ _).alloc (by simp;omega) _
 have BS:=Lib.hid (show Blk W w.heap.size 28 #[.slice A cs.length cA,.int .i64 key] by rw[hW];exact ((Blk.new _ _ _).alloc _).alloc _);have BN:=Lib.hid (show Blk W (w.heap.size+1) 66 #[.int .i64 op,.int .i64 (K:Int),.bool x.v.nu,.int .i64 x.v.n,.string x.v.s,.slice AL x.l.length cL,.int .i64 x.a,.int .i64 x.b] by rw[hW];have h:=(Blk.new (w.alloc (.cells #[.slice A cs.length cA,.int .i64 key] 28)) 66 #[.int .i64 op,.int .i64 (K:Int),.bool x.v.nu,.int .i64 x.v.n,.string x.v.s,.slice AL x.l.length cL,.int .i64 x.a,.int .i64 x.b]).alloc (.cells #[.bool v.nu,.int .i64 v.n,.string v.s] 64);simpa using h);have BV:=Lib.hid (show Blk W (w.heap.size+2) 64 #[.bool v.nu,.int .i64 v.n,.string v.s] by rw[hW];have h:=Blk.new ((w.alloc (.cells #[.slice A cs.length cA,.int .i64 key] 28)).alloc (.cells #[.int .i64 op,.int .i64 (K:Int),.bool x.v.nu,.int .i64 x.v.n,.string x.v.s,.slice AL x.l.length cL,.int .i64 x.a,.int .i64 x.b] 66)) 64 #[.bool v.nu,.int .i64 v.n,.string v.s];simpa using h);have hlt:K<cs.length:=(List.getElem?_eq_some_iff.1 hK).1;have HCOL:=(hs.below hb0).col_load rfl hlt;have HU:=Lib.hid (hu.below hb0);have HB0:=Lib.hid hb0;have L1:=Lib.hid (fun h:op=8=>show leafTr c.ty x v=trB v.nu by unfold leafTr;rw[hop,if_pos h]);have L2:=Lib.hid (fun (h:op≠8) (hn:v.nu=true)=>show leafTr c.ty x v=2 by unfold leafTr;rw[hop,if_neg h,if_pos hn]);have L3:=Lib.hid (fun (h:op≤6) (hn:v.nu=false)=>show leafTr c.ty x v=trB (holdsV op (cmpV c.ty v.nu v.n v.s x.v.nu x.v.n x.v.s)) by unfold leafTr;rw[hop,if_neg (by omega),if_neg (by rw[hn];simp),if_pos h]);have L4:=Lib.hid (fun (h:op=7) (hn:v.nu=false)=>show leafTr c.ty x v=(if (!amF c.ty v x.l x.l.length&&amN x.l x.l.length) then 2 else trB (amF c.ty v x.l x.l.length)) by unfold leafTr;rw[hop,if_neg (by omega),if_neg (by rw[hn];simp),if_neg (by omega)]);obtain ⟨ad,e,p,rfl,he,hp,hE⟩:=HCOL;rw[hK]at he;have he:=Option.some.inj he;subst he;obtain ⟨hplt,d0,d1,d2,d3⟩:=hE;rw[hop]at h1 h8 ⊢;have LE:=Lib.hid (fun X=>rcompare_any c.ty v.nu v.n v.s x.v.nu x.v.n x.v.s X);have LA:=Lib.hid (fun X h=>ramong_any c.ty v (.slice AL x.l.length cL) x.l X h);obtain ⟨R,hR⟩:∃ R,leafTr c.ty x v=R:=⟨_,rfl⟩
 rw[hR]at L1 L2 L3 L4 ⊢;obtain ⟨F,hF⟩:∃ F,amF c.ty v x.l x.l.length=F:=⟨_,rfl⟩
 rw[hF]at L4 LA;obtain ⟨N,hN⟩:∃ N,amN x.l x.l.length=N:=⟨_,rfl⟩
 rw[hN]at L4 LA;obtain ⟨C,hC⟩:∃ C,cmpV c.ty v.nu v.n v.s x.v.nu x.v.n x.v.s=C:=⟨_,rfl⟩
 rw[hC]at L3 LE;obtain ⟨b,hb⟩:∃ b,v.nu=b:=⟨_,rfl⟩
 rw[hb]at L1 L2 L3 L4 LE LA BV;clear hb;clear hR hF hN hC hs hu hb0 hop hK hc d0 d2 d3 he;go_enter Tryz.func65,Tryz.ntmps65
 go_upto_region 1 with (fail)
 try rw[←hW]
 clear hW;have bb:=BS.out;have s0:=bb.cell 0;have s1:=bb.cell 1;simp only[jA,jZ,jS]at s0 s1;clear bb;have bb:=BN.out;have n0:=bb.cell 0;have n1:=bb.cell 1;have n2:=bb.cell 2;have n3:=bb.cell 3;have n4:=bb.cell 4;have n5:=bb.cell 5;have n6:=bb.cell 6;have n7:=bb.cell 7;simp only[jA,jZ,jS]at n0 n1 n2 n3 n4 n5 n6 n7;clear bb;have bb:=BV.out;have v0:=bb.cell 0;have v1:=bb.cell 1;have v2:=bb.cell 2;simp only[jA,jZ,jS]at v0 v1 v2;clear bb;by_cases q8:op=8
 ·have e8:(op==8)=true:=by rw[beq_iff_eq];exact q8
  have HR:=Lib.hid (L1.out q8);clear q8 h1 h8;go_wp2_with fail
  refine (rtruth2_any b _).mono ?_;rintro _ _ ⟨rfl,rfl⟩;go_wp2;go_ret;exact ⟨by rw[HR.out];rfl,HB0.out⟩
 ·have e8:(op==8)=false:=by rw[beq_eq_false_iff_ne];exact q8
  cases b
  case true =>
   have HR:=Lib.hid (L2.out q8 rfl);clear q8 h1 h8;go_wp2;go_ret;exact ⟨by rw[HR.out];rfl,HB0.out⟩
  case false =>
   by_cases q6:op≤6
   ·have HR:=Lib.hid (L3.out q6 rfl);have HC6:=Lib.hid (fun X=>rcomp_any op X (b:=true) (decide_eq_true h1) (decide_eq_true q6));have HH:=Lib.hid (fun X=>rholds_any op C X h1 q6);clear q6 q8 h1 h8;go_wp2_with fail
    refine (HC6.out _).mono ?_;rintro _ _ ⟨rfl,rfl⟩;go_upto_region 7 with (fail)
    clear s0 s1 n0 n1 n2 n3 n4 n5 n6 n7 v0 v1 v2 d1;refine wp_region_inv (by kernel_rfl) (by kernel_rfl) (fun L a w'=>∃ u31 u32 u33 u34 u35 u36 u37 u38 u39 u6:Value,a=⟨#[.agg #[.slice (some ad) cs.length cA,.int .i64 key],.agg #[.int .i64 op,.int .i64 ↑K,.bool x.v.nu,.int .i64 x.v.n,.string x.v.s,.slice AL x.l.length cL,.int .i64 x.a,.int .i64 x.b],.agg #[.bool v.nu,.int .i64 v.n,.string v.s],.pointer (some ⟨w.heap.size,0,none⟩),.pointer (some ⟨w.heap.size+1,0,none⟩),.pointer (some ⟨w.heap.size+1+1,0,none⟩),u6,.int .i64 c.ty,undef,undef,.pointer (some ⟨w.heap.size,0,none⟩),.slice (some ad) cs.length cA,.pointer (some ⟨w.heap.size+1,1,none⟩),.int .i64 ↑K,.pointer (some p),.pointer (some ⟨p.block,p.off+1,none⟩),.int .i64 c.ty,.bool false,.pointer (some ⟨w.heap.size+1,0,none⟩),.int .i64 op,.bool false,undef,undef,undef,.bool false,.pointer (some ⟨w.heap.size+1+1,0,none⟩),.bool false,.bool true,.pointer (some ⟨w.heap.size+1,0,none⟩),.int .i64 op,.bool true,u31,u32,u33,u34,u35,u36,u37,u38,u39,undef,undef,undef,undef,undef,undef,undef,undef,undef,undef,undef,undef,undef,undef,undef],[]⟩ ∧
      Below W.heap.size W w'∧Got (L 0) u31 (.pointer (some ⟨w.heap.size+1,0,none⟩))∧Got (L 1) u32 (.int .i64 op)∧Got (L 2) u33 (.int .i64 c.ty)∧Got (L 3) u34 (.agg #[.bool false,.int .i64 v.n,.string v.s])∧Got (L 4) u35 (.pointer (some ⟨w.heap.size+1,2,none⟩))∧Got (L 5) u36 (.agg #[.bool x.v.nu,.int .i64 x.v.n,.string x.v.s])∧Got (L 6) u37 (.int .i64 C)∧Got (L 7) u38 (.bool (holdsV op C))∧Got (L 8) u39 (.int .i64 (trB (holdsV op C)))∧Got (L 9) u6 (.int .i64 (trB (holdsV op C))))
     ?_ ?_ ?_
    ·exact ⟨_,_,_,_,_,_,_,_,_,_,rfl,(Below.refl _ _).drew,nofun,nofun,nofun,nofun,nofun,nofun,nofun,nofun,nofun,nofun⟩
    ·refine ⟨?_,?_,?_,?_,?_,?_,?_,?_,?_,?_,trivial⟩
     ·refine fun L a w'=>ex8 fun _ _ _ _ _ _ _ _=>ex2 fun _ _=>un8 fun ha hb g0 g1 g2 g3 g4 g5=>un2 fun g6 g7=>un1 fun g8 g9 hl hd K hK=>?_;subst ha
      dsimp only at hK ⊢;go_simp;exact hK _ _ ⟨_,_,_,_,_,_,_,_,_,_,rfl,hb,fun _=>rfl,g1,g2,g3,g4,g5,g6,g7,g8,g9⟩
     ·refine fun L a w'=>ex8 fun _ _ _ _ _ _ _ _=>ex2 fun _ _=>un8 fun ha hb g0 g1 g2 g3 g4 g5=>un2 fun g6 g7=>un1 fun g8 g9 hl hd K hK=>?_;subst ha
      simp[Region.binds]at hd;dsimp only at hK ⊢;have e0:=g0 (by simp[hd]);subst e0;have bb:=BN.out.below hb BN.out.lt;have n0:=bb.cell 0;simp only[jA,jZ,jS]at n0;clear bb;go_simp;exact hK _ _ ⟨_,_,_,_,_,_,_,_,_,_,rfl,hb,g0,fun _=>rfl,g2,g3,g4,g5,g6,g7,g8,g9⟩
     ·refine fun L a w'=>ex8 fun _ _ _ _ _ _ _ _=>ex2 fun _ _=>un8 fun ha hb g0 g1 g2 g3 g4 g5=>un2 fun g6 g7=>un1 fun g8 g9 hl hd K hK=>?_;subst ha
      dsimp only at hK ⊢;go_simp;exact hK _ _ ⟨_,_,_,_,_,_,_,_,_,_,rfl,hb,g0,g1,fun _=>rfl,g3,g4,g5,g6,g7,g8,g9⟩
     ·refine fun L a w'=>ex8 fun _ _ _ _ _ _ _ _=>ex2 fun _ _=>un8 fun ha hb g0 g1 g2 g3 g4 g5=>un2 fun g6 g7=>un1 fun g8 g9 hl hd K hK=>?_;subst ha
      dsimp only at hK ⊢;have bb:=BV.out.below hb BV.out.lt;have v0:=bb.cell 0;have v1:=bb.cell 1;have v2:=bb.cell 2;simp only[jA,jZ,jS]at v0 v1 v2;clear bb;go_simp;exact hK _ _ ⟨_,_,_,_,_,_,_,_,_,_,rfl,hb,g0,g1,g2,fun _=>rfl,g4,g5,g6,g7,g8,g9⟩
     ·refine fun L a w'=>ex8 fun _ _ _ _ _ _ _ _=>ex2 fun _ _=>un8 fun ha hb g0 g1 g2 g3 g4 g5=>un2 fun g6 g7=>un1 fun g8 g9 hl hd K hK=>?_;subst ha
      dsimp only at hK ⊢;go_simp;exact hK _ _ ⟨_,_,_,_,_,_,_,_,_,_,rfl,hb,g0,g1,g2,g3,fun _=>rfl,g5,g6,g7,g8,g9⟩
     ·refine fun L a w'=>ex8 fun _ _ _ _ _ _ _ _=>ex2 fun _ _=>un8 fun ha hb g0 g1 g2 g3 g4 g5=>un2 fun g6 g7=>un1 fun g8 g9 hl hd K hK=>?_;subst ha
      simp[Region.binds]at hd;dsimp only at hK ⊢;have e4:=g4 (by simp[hd]);subst e4;have bb:=BN.out.below hb BN.out.lt;have n2:=bb.cell 2;have n3:=bb.cell 3;have n4:=bb.cell 4;simp only[jA,jZ,jS]at n2 n3 n4;clear bb;go_simp;exact hK _ _ ⟨_,_,_,_,_,_,_,_,_,_,rfl,hb,g0,g1,g2,g3,g4,fun _=>rfl,g6,g7,g8,g9⟩
     ·refine fun L a w'=>ex8 fun _ _ _ _ _ _ _ _=>ex2 fun _ _=>un8 fun ha hb g0 g1 g2 g3 g4 g5=>un2 fun g6 g7=>un1 fun g8 g9 hl hd K hK=>?_;subst ha
      simp[Region.binds]at hd;dsimp only at hK ⊢;have e2:=g2 (by simp[hd]);subst e2;have e3:=g3 (by simp[hd]);subst e3;have e5:=g5 (by simp[hd]);subst e5;go_wp2_with fail
      refine (LE.out _).mono ?_;rintro _ w4 ⟨rfl,hb4⟩;exact hK _ _ ⟨_,_,_,_,_,_,_,_,_,_,rfl,bst hb hb4,g0,g1,g2,g3,g4,g5,fun _=>rfl,g7,g8,g9⟩
     ·refine fun L a w'=>ex8 fun _ _ _ _ _ _ _ _=>ex2 fun _ _=>un8 fun ha hb g0 g1 g2 g3 g4 g5=>un2 fun g6 g7=>un1 fun g8 g9 hl hd K hK=>?_;subst ha
      simp[Region.binds]at hd;dsimp only at hK ⊢;have e1:=g1 (by simp[hd]);subst e1;have e6:=g6 (by simp[hd]);subst e6;go_wp2_with fail
      refine (HH.out _).mono ?_;rintro _ _ ⟨rfl,rfl⟩;exact hK _ _ ⟨_,_,_,_,_,_,_,_,_,_,rfl,hb,g0,g1,g2,g3,g4,g5,g6,fun _=>rfl,g8,g9⟩
     ·refine fun L a w'=>ex8 fun _ _ _ _ _ _ _ _=>ex2 fun _ _=>un8 fun ha hb g0 g1 g2 g3 g4 g5=>un2 fun g6 g7=>un1 fun g8 g9 hl hd K hK=>?_;subst ha
      simp[Region.binds]at hd;dsimp only at hK ⊢;have e7:=g7 (by simp[hd]);subst e7;go_wp2_with fail
      refine (rtruth2_any _ _).mono ?_;rintro _ _ ⟨rfl,rfl⟩;exact hK _ _ ⟨_,_,_,_,_,_,_,_,_,_,rfl,hb,g0,g1,g2,g3,g4,g5,g6,g7,fun _=>rfl,g9⟩
     ·refine fun L a w'=>ex8 fun _ _ _ _ _ _ _ _=>ex2 fun _ _=>un8 fun ha hb g0 g1 g2 g3 g4 g5=>un2 fun g6 g7=>un1 fun g8 g9 hl hd K hK=>?_;subst ha
      simp[Region.binds]at hd;dsimp only at hK ⊢;have e8:=g8 (by simp[hd]);subst e8;go_simp;exact hK _ _ ⟨_,_,_,_,_,_,_,_,_,_,rfl,hb,g0,g1,g2,g3,g4,g5,g6,g7,g8,fun _=>rfl⟩
    intro a w9 hI
    revert hI;refine ex8 fun _ _ _ _ _ _ _ _=>ex2 fun _ _=>un8 fun ha hb g0 g1 g2 g3 g4 g5=>un2 fun g6 g7=>un1 fun g8 g9=>?_;subst ha
    have e9:=g9 rfl;subst e9;have HX:=Lib.hid (bst HB0.out hb);clear g0 g1 g2 g3 g4 g5 g6 g7 g8 hb;go_wp2;go_ret;exact ⟨by rw[HR.out];rfl,HX.out⟩
   ·have HR:=Lib.hid (L4.out (by omega) rfl);have HC6:=Lib.hid (fun X=>rcomp_any op X (b:=false) (decide_eq_true h1) (decide_eq_false q6));clear q6 q8 h1 h8;go_wp2_with fail
    refine (HC6.out _).mono ?_;rintro _ _ ⟨rfl,rfl⟩;go_wp2_with fail
    refine (LA.out _ HU.out).mono ?_;rintro _ w2 ⟨rfl,hb2⟩;have HX:=Lib.hid (bst HB0.out hb2);clear hb2 s0 s1 n0 n1 n2 n3 n4 n5 n6 n7 v0 v1 v2 d1;cases F
    ·cases N
     ·go_wp2_with fail
      refine (rtruth2_any _ _).mono ?_;rintro _ _ ⟨rfl,rfl⟩;go_wp2;go_ret;exact ⟨by rw[HR.out];rfl,HX.out⟩
     ·go_wp2;go_ret;exact ⟨by rw[HR.out];rfl,HX.out⟩
    ·cases N
     all_goals
      go_wp2_with fail
      refine (rtruth2_any _ _).mono ?_;rintro _ _ ⟨rfl,rfl⟩;go_wp2;go_ret;exact ⟨by rw[HR.out];rfl,HX.out⟩
end Go.Proofs.YtjnamjkdjcndiaaGreatDoor
