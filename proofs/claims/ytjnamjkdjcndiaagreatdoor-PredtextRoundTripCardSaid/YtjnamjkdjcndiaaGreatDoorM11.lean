/-
  Words, plain laws and contracts on which the walks lean, in one text.
-/
import Derived.Test.YtjnamjkdjcndiaaGreatDoorM3
import Derived.Test.YtjnamjkdjcndiaaGreatDoorM6
import Derived.Test.YtjnamjkdjcndiaaGreatDoorM10
import Derived.Test.YtjnamjkdjcndiaaGreatDoorM2
namespace Go.Proofs.YtjnamjkdjcndiaaGreatDoor
def wordP (op:Int):List UInt8:=match op.toNat with
 | 1=>[101,113]
 | 2=>[110,101]
 | 3=>[108,116]
 | 4=>[108,101]
 | 5=>[103,116]
 | 6=>[103,101]
 | 7=>[105,110]
 | 8=>[110,117,108,108]
 | 9=>[97,110,100]
 | 10=>[111,114]
 | 11=>[110,111,116]
 | _=>[]
theorem wordP_len (op:Int):(wordP op).length≤4:=by unfold wordP;split <;> simp
def listE (c:Col) (l:List Vl) (i:Nat):Int:=match l[i]? with
 | some x=>checkV c.ty true x.nu x.n x.s
 | none=>0
def nodeV (cs:List Col) (i:Nat) (x:Nd):Int :=
 if x.op<1∨11<x.op then 1
 else if 9≤x.op then (if x.a<0∨(i:Int)≤x.a∨(x.op≠11∧(x.b<0∨(i:Int)≤x.b)) then 4 else 0)
 else if x.col<0∨(cs.length:Int)≤x.col then 4
 else match cs[x.col.toNat]? with
  | none=>4
  | some c=>if x.op=8 then 0 else if x.op≠7 then (if x.v.nu=true then 12 else checkV c.ty c.nu x.v.nu x.v.n x.v.s)
   else if x.l.length=0 then 1 else if 16<x.l.length then 7 else firstE (listE c x.l) x.l.length
def nodeE (cs:List Col) (p:List Nd) (i:Nat):Int:=match p[i]? with
 | some x=>nodeV cs i x
 | none=>0
def pchkV (cs:List Col) (key:Int) (p:List Nd):Int :=
 if schkV cs key≠0 then schkV cs key else if 64<p.length then 7 else firstE (nodeE cs p) p.length
theorem nodeE_at {cs:List Col} {p:List Nd} {i:Nat} {x:Nd} (h:p[i]?=some x):nodeE cs p i=nodeV cs i x:=by unfold nodeE;rw[h]
theorem listE_at {c:Col} {l:List Vl} {i:Nat} {x:Vl} (h:l[i]?=some x):listE c l i=checkV c.ty true x.nu x.n x.s:=by unfold listE;rw[h]
theorem firstE_allz {f:Nat→Int}:∀ {n:Nat},firstE f n=0→∀ k,k<n→f k=0
 | 0,_,k,hk=>by omega
 | n+1,h,k,hk=>by
  simp only[firstE]at h;by_cases h0:firstE f n≠0
  ·rw[if_pos h0]at h;exact absurd h h0
  ·rw[if_neg h0]at h;by_cases e:k=n
   ·subst e;exact h
   ·exact firstE_allz (by simpa using h0) k (by omega)
def valsP (x:Nd):List Vl:=if x.op<7 then [x.v] else if x.op=8 then [] else x.l
noncomputable def vtxt (c:Col) (x:Vl):List UInt8:=(fmtV c.ty c.sc true x.nu x.n x.s).1
noncomputable def vtxts (c:Col) (l:List Vl):List UInt8:=l.flatMap fun v=>32::vtxt c v
noncomputable def leafC (c:Col) (x:Nd):List UInt8:=40::(wordP x.op++(32::c.nm.data.toList)++vtxts c (valsP x) ++ [41])
noncomputable def leafP (cs:List Col) (x:Nd):List UInt8:=match cs[x.col.toNat]? with
 | some c=>leafC c x
 | none=>[]
noncomputable def txtN (cs:List Col) (T:List (List UInt8)) (x:Nd):List UInt8 :=
 if x.op<9 then leafP cs x
 else if x.op=11 then [40,110,111,116,32]++T.getD x.a.toNat [] ++ [41]
 else (40::wordP x.op ++ [32])++T.getD x.a.toNat [] ++ [32]++T.getD x.b.toNat [] ++ [41]
noncomputable def txtO (cs:List Col) (T:List (List UInt8)):Option Nd→List UInt8
 | some x=>txtN cs T x
 | none=>[]
noncomputable def txts (cs:List Col) (p:List Nd):Nat→List (List UInt8)
 | 0=>[]
 | k+1=>txts cs p k ++ [txtO cs (txts cs p k) p[k]?]
noncomputable def sizN (cs:List Col) (S:List Nat) (x:Nd):Nat :=
 min (if x.op<9 then (leafP cs x).length else if x.op=11 then 6+S.getD x.a.toNat 0 else 4+(wordP x.op).length+S.getD x.a.toNat 0+S.getD x.b.toNat 0) 65537
noncomputable def sizO (cs:List Col) (S:List Nat):Option Nd→Nat
 | some x=>sizN cs S x
 | none=>0
noncomputable def sizs (cs:List Col) (p:List Nd):Nat→List Nat
 | 0=>[]
 | k+1=>sizs cs p k ++ [sizO cs (sizs cs p k) p[k]?]
theorem txts_len (cs:List Col) (p:List Nd):∀ k,(txts cs p k).length=k
 | 0=>rfl
 | k+1=>by show (_ ++ [_]).length=_;rw[List.length_append,txts_len cs p k];rfl
theorem sizs_len (cs:List Col) (p:List Nd):∀ k,(sizs cs p k).length=k
 | 0=>rfl
 | k+1=>by show (_ ++ [_]).length=_;rw[List.length_append,sizs_len cs p k];rfl
noncomputable def txtI (cs:List Col) (p:List Nd) (i:Nat):List UInt8:=(txts cs p (i+1)).getD i []
noncomputable def sizI (cs:List Col) (p:List Nd) (i:Nat):Nat:=(sizs cs p (i+1)).getD i 0
theorem txts_get (cs:List Col) (p:List Nd) {i:Nat}:∀ {k:Nat},i<k→(txts cs p k).getD i []=txtI cs p i
 | 0,h=>by omega
 | k+1,h=>by
  by_cases e:i=k
  ·subst e;rfl
  ·have ih:=txts_get cs p (i:=i) (k:=k) (by omega);rw[←ih];show (_ ++ [_]).getD i []=_
   rw[List.getD_eq_getElem?_getD,List.getD_eq_getElem?_getD,List.getElem?_append_left (by rw[txts_len];omega)]
theorem sizs_get (cs:List Col) (p:List Nd) {i:Nat}:∀ {k:Nat},i<k→(sizs cs p k).getD i 0=sizI cs p i
 | 0,h=>by omega
 | k+1,h=>by
  by_cases e:i=k
  ·subst e;rfl
  ·have ih:=sizs_get cs p (i:=i) (k:=k) (by omega);rw[←ih];show (_ ++ [_]).getD i 0=_
   rw[List.getD_eq_getElem?_getD,List.getD_eq_getElem?_getD,List.getElem?_append_left (by rw[sizs_len];omega)]
theorem txtI_eq {cs:List Col} {p:List Nd} {i:Nat} {x:Nd} (h:p[i]?=some x):txtI cs p i=txtN cs (txts cs p i) x:=by
 unfold txtI
 show (_ ++ [_]).getD i []=_
 rw[List.getD_eq_getElem?_getD,List.getElem?_append_right (by rw[txts_len];omega),txts_len,Nat.sub_self,h];rfl
theorem sizI_eq {cs:List Col} {p:List Nd} {i:Nat} {x:Nd} (h:p[i]?=some x):sizI cs p i=sizN cs (sizs cs p i) x:=by
 unfold sizI
 show (_ ++ [_]).getD i 0=_
 rw[List.getD_eq_getElem?_getD,List.getElem?_append_right (by rw[sizs_len];omega),sizs_len,Nat.sub_self,h];rfl
structure PredOk (cs:List Col) (p:List Nd):Prop where
 len:p.length≤64
 node:∀ i x,p[i]?=some x→nodeV cs i x=0
theorem pchk_ok {cs:List Col} {key:Int} {p:List Nd} (h:pchkV cs key p=0):schkV cs key=0∧PredOk cs p:=by
 unfold pchkV at h
 by_cases h1:schkV cs key≠0
 ·rw[if_pos h1]at h;exact absurd h h1
 ·rw[if_neg h1]at h;by_cases h2:64<p.length
  ·rw[if_pos h2]at h;cases h
  ·rw[if_neg h2]at h;refine ⟨by simpa using h1,by omega,fun i x hx=>?_⟩
   have:=firstE_allz h i (List.getElem?_eq_some_iff.1 hx).1
   rw[nodeE_at hx]at this;exact this
section
variable {cs:List Col} {i:Nat} {x:Nd}
theorem node_op (h:nodeV cs i x=0):1≤x.op∧x.op≤11:=by
 unfold nodeV at h
 by_cases h1:x.op<1∨11<x.op
 ·rw[if_pos h1]at h;cases h
 ·omega
theorem node_sub (h:nodeV cs i x=0) (h9:9≤x.op):0≤x.a∧x.a<i∧(x.op≠11→0≤x.b∧x.b<i):=by
 have:=node_op h
 unfold nodeV at h
 rw[if_neg (by omega),if_pos h9]at h;by_cases h2:x.a<0∨(i:Int)≤x.a∨(x.op≠11∧(x.b<0∨(i:Int)≤x.b))
 ·rw[if_pos h2]at h;cases h
 ·refine ⟨by omega,by omega,fun hn=>?_⟩
  have:¬ (x.b<0∨(i:Int)≤x.b):=fun hb=>h2 (.inr (.inr ⟨hn,hb⟩))
  omega
theorem node_col (h:nodeV cs i x=0) (h9:x.op<9):0≤x.col∧x.col<cs.length∧∃ c,cs[x.col.toNat]?=some c:=by
 have:=node_op h
 unfold nodeV at h
 rw[if_neg (by omega),if_neg (by omega)]at h;by_cases h2:x.col<0∨(cs.length:Int)≤x.col
 ·rw[if_pos h2]at h;cases h
 ·exact ⟨by omega,by omega,_,List.getElem?_eq_getElem (show x.col.toNat<cs.length by omega)⟩
theorem node_vals (h:nodeV cs i x=0) (h9:x.op<9) {c:Col} (hc:cs[x.col.toNat]?=some c):(∀ v ∈ valsP x,checkV c.ty true v.nu v.n v.s=0)∧(valsP x).length≤16∧(x.op<7→x.v.nu=false):=by
 have h0:=node_op h;obtain ⟨k1,k2,_⟩:=node_col h h9;unfold nodeV at h
 rw[if_neg (by omega),if_neg (by omega),if_neg (by omega),hc]at h;simp only at h
 unfold valsP
 by_cases h8:x.op=8
 ·rw[if_neg (by omega),if_pos h8];exact ⟨fun v hv=>by simp at hv,by simp,fun h=>by omega⟩
 ·rw[if_neg h8]at h;by_cases h7:x.op=7
  ·rw[if_neg (by simp[h7])]at h;rw[if_neg (by omega),if_neg h8];by_cases hl0:x.l.length=0
   ·rw[if_pos hl0]at h;cases h
   ·rw[if_neg hl0]at h;by_cases hl16:16<x.l.length
    ·rw[if_pos hl16]at h;cases h
    ·rw[if_neg hl16]at h;refine ⟨fun v hv=>?_,by omega,fun h=>by omega⟩
     obtain ⟨j,hj⟩:=List.mem_iff_getElem?.1 hv;have:=firstE_allz h j (List.getElem?_eq_some_iff.1 hj).1
     rw[listE_at hj]at this;exact this
  ·rw[if_pos h7]at h;rw[if_pos (by omega)];by_cases hn:x.v.nu=true
   ·rw[if_pos hn]at h;cases h
   ·rw[if_neg hn]at h;refine ⟨fun v hv=>?_,by simp,fun _=>by simpa using hn⟩
    simp at hv
    subst hv;have hf:x.v.nu=false:=by simpa using hn
    rw[hf]at h ⊢;unfold checkV at h ⊢
    simpa using h
end
theorem sizI_le (cs:List Col) (p:List Nd) (i:Nat):sizI cs p i≤65537:=by
 cases h:p[i]? with
 | some x=>rw[sizI_eq h];unfold sizN;omega
 | none =>
  unfold sizI
  show (_ ++ [_]).getD i 0≤_
  rw[List.getD_eq_getElem?_getD,List.getElem?_append_right (by rw[sizs_len];omega),sizs_len,Nat.sub_self,h];simp[sizO]
theorem siz_txt {cs:List Col} {p:List Nd} (hp:PredOk cs p):∀ (i:Nat) (x:Nd),p[i]?=some x→sizI cs p i≤65536→(txtI cs p i).length=sizI cs p i∧(9≤x.op→sizI cs p x.a.toNat+6≤sizI cs p i∧(x.op≠11→sizI cs p x.a.toNat+sizI cs p x.b.toNat+4+(wordP x.op).length=sizI cs p i)):=by
 intro i
 induction i using Nat.strongRecOn with
 | _ i ih =>
  intro x hx hs
  have hn:=hp.node i x hx;have hl:=(List.getElem?_eq_some_iff.1 hx).1;rw[sizI_eq hx]at hs;rw[txtI_eq hx,sizI_eq hx];unfold txtN
  unfold sizN at hs ⊢
  by_cases h9:x.op<9
  ·rw[if_pos h9]at hs ⊢;rw[if_pos h9];exact ⟨by omega,fun h=>by omega⟩
  ·obtain ⟨a0,a1,hb⟩:=node_sub hn (by omega);have hxa:=List.getElem?_eq_getElem (show x.a.toNat<p.length by omega);have ga:(txts cs p i).getD x.a.toNat []=txtI cs p x.a.toNat:=txts_get cs p (by omega);have sa:(sizs cs p i).getD x.a.toNat 0=sizI cs p x.a.toNat:=sizs_get cs p (by omega);rw[if_neg h9]at hs ⊢;rw[if_neg h9];by_cases h11:x.op=11
   ·rw[if_pos h11]at hs ⊢;rw[if_pos h11];rw[ga,sa];rw[sa]at hs;have ha:=(ih x.a.toNat (by omega) _ hxa (by omega)).1;refine ⟨?_,fun _=>⟨by omega,fun h=>absurd h11 h⟩⟩
    simp only[List.length_append,List.length_cons,List.length_nil,ha];omega
   ·obtain ⟨b0,b1⟩:=hb h11;have hxb:=List.getElem?_eq_getElem (show x.b.toNat<p.length by omega);have gb:(txts cs p i).getD x.b.toNat []=txtI cs p x.b.toNat:=txts_get cs p (by omega);have sb:(sizs cs p i).getD x.b.toNat 0=sizI cs p x.b.toNat:=sizs_get cs p (by omega);rw[if_neg h11]at hs ⊢;rw[if_neg h11];rw[ga,gb,sa,sb];rw[sa,sb]at hs;have ha:=(ih x.a.toNat (by omega) _ hxa (by omega)).1;have hb:=(ih x.b.toNat (by omega) _ hxb (by omega)).1;have hw:2≤(wordP x.op).length:=by
     have:=node_op hn
     have:x.op=9∨x.op=10:=by omega
     rcases this with e|e <;> rw[e] <;> decide
    refine ⟨?_,fun _=>⟨by omega,fun _=>by omega⟩⟩
    simp only[List.length_append,List.length_cons,List.length_nil,ha,hb];omega
theorem nv_op {cs:List Col} {i:Nat} {x:Nd} (h:x.op<1∨11<x.op):nodeV cs i x=1:=by unfold nodeV;rw[if_pos h]
theorem nv_sub {cs:List Col} {i:Nat} {x:Nd} (h:¬(x.op<1∨11<x.op)) (h9:9≤x.op):nodeV cs i x=if x.a<0∨(i:Int)≤x.a∨(x.op≠11∧(x.b<0∨(i:Int)≤x.b)) then 4 else 0:=by unfold nodeV;rw[if_neg h,if_pos h9]
theorem nv_col {cs:List Col} {i:Nat} {x:Nd} (h:¬(x.op<1∨11<x.op)) (h9:¬ 9≤x.op) (hc:x.col<0∨(cs.length:Int)≤x.col):nodeV cs i x=4:=by unfold nodeV;rw[if_neg h,if_neg h9,if_pos hc]
theorem nv_leaf {cs:List Col} {i K:Nat} {x:Nd} {c:Col} (h:¬(x.op<1∨11<x.op)) (h9:¬ 9≤x.op) (hK:x.col=(K:Int)) (hc:cs[K]?=some c) :
  nodeV cs i x=if x.op=8 then 0 else if x.op≠7 then (if x.v.nu=true then 12 else checkV c.ty c.nu x.v.nu x.v.n x.v.s)
   else if x.l.length=0 then 1 else if 16<x.l.length then 7 else firstE (listE c x.l) x.l.length:=by
 have hl:=(List.getElem?_eq_some_iff.1 hc).1;unfold nodeV
 rw[if_neg h,if_neg h9,if_neg (by omega),show x.col.toNat=K by omega,hc]
theorem first_stop {f:Nat→Int} {k n:Nat} {r:Int} (h:firstE f k=0) (hk:f k=r) (h0:r≠0) (hn:k<n):firstE f n=r:=by rw[firstE_hit h (by rw[hk];exact h0) n hn,hk]
noncomputable def fmtP (cs:List Col) (key:Int) (p:List Nd):List UInt8×Int :=
 if pchkV cs key p≠0 then ([],pchkV cs key p) else if p.length=0 then ([],0)
 else if 65536<sizI cs p (p.length - 1) then ([],7) else (txtI cs p (p.length - 1),0)
open Go.RowKit Go.Sort

theorem abelS (w:World) (o1 o2:Obj):Below w.heap.size w ((w.alloc o1).alloc o2):=((Below.refl w.heap.size w).alloc (Nat.le_refl _) o1).alloc (by simp) o2
set_option maxRecDepth 100000 in
set_option maxHeartbeats 8000000 in
theorem pnode_any (v:Value) (key:Int) (cs:List Col) (i:Nat) (op col:Int) (vn:Bool) (vi:Int) (vs:ByteArray) (l:List Vl) (u:Value) (a b:Int) (w:World) (hs:Sl w 4 v cs.length (cols cs)) (hu:Sl w 3 u l.length (vls l)) (_hcl:cs.length≤1000000) (_hi:i≤1000000) (hvs:vs.size≤9223372036854775807) (hls:∀ e ∈ l,e.s.size≤9223372036854775807) :
  Calls Tryz.prog 49 #[.agg #[v,.int .i64 key],.int .i64 (i:Int),.agg #[.int .i64 op,.int .i64 col,.bool vn,.int .i64 vi,.string vs,u,.int .i64 a,.int .i64 b]] w (RetN w (nodeV cs i ⟨op,col,⟨vn,vi,vs⟩,l,a,b⟩)):=by
 obtain ⟨A,cA,rfl,hc1,hc2⟩:=hs.form;obtain ⟨AL,cL,rfl,hc3,hc4⟩:=hu.form;obtain ⟨W,hW⟩:∃ W,W=(w.alloc (.cells #[.slice A cs.length cA,.int .i64 key] 28)).alloc (.cells #[.int .i64 op,.int .i64 col,.bool vn,.int .i64 vi,.string vs,.slice AL l.length cL,.int .i64 a,.int .i64 b] 66):=⟨_,rfl⟩
 have hb0:Below w.heap.size w W:=by rw[hW];exact abelS _ _ _
 have BS:=Lib.hid (show Blk W w.heap.size 28 #[.slice A cs.length cA,.int .i64 key] by rw[hW];exact (Blk.new _ _ _).alloc _);have BN:=Lib.hid (show Blk W (w.heap.size+1) 66 #[.int .i64 op,.int .i64 col,.bool vn,.int .i64 vi,.string vs,.slice AL l.length cL,.int .i64 a,.int .i64 b] by rw[hW];have h:=Blk.new (w.alloc (.cells #[.slice A cs.length cA,.int .i64 key] 28)) 66 #[.int .i64 op,.int .i64 col,.bool vn,.int .i64 vi,.string vs,.slice AL l.length cL,.int .i64 a,.int .i64 b];simpa using h);have HS:=Lib.hid (hs.below hb0);have HU:=Lib.hid (hu.below hb0);have HB0:=Lib.hid hb0;have HV:=Lib.hid (show nodeV cs i ⟨op,col,⟨vn,vi,vs⟩,l,a,b⟩=nodeV cs i ⟨op,col,⟨vn,vi,vs⟩,l,a,b⟩ from rfl);obtain ⟨x,hx⟩:∃ x:Nd,x=⟨op,col,⟨vn,vi,vs⟩,l,a,b⟩:=⟨_,rfl⟩
 have xop:x.op=op:=by rw[hx]
 have xcol:x.col=col:=by rw[hx]
 have xa:x.a=a:=by rw[hx]
 have xb:x.b=b:=by rw[hx]
 have xv:x.v=⟨vn,vi,vs⟩:=by rw[hx]
 have xl:x.l=l:=by rw[hx]
 rw[←hx];have Xop:=Lib.hid xop;have Xcol:=Lib.hid xcol;have Xa:=Lib.hid xa;have Xb:=Lib.hid xb;have Xv:=Lib.hid xv;have Xl:=Lib.hid xl;have H1:=Lib.hid (nv_op (cs:=cs) (i:=i) (x:=x));have H2:=Lib.hid (nv_sub (cs:=cs) (i:=i) (x:=x));have H3:=Lib.hid (nv_col (cs:=cs) (i:=i) (x:=x));have H4:=Lib.hid (fun (K:Nat) (c:Col)=>nv_leaf (cs:=cs) (i:=i) (K:=K) (x:=x) (c:=c));rw[xop]at H1 H2 H3 H4;rw[xa,xb]at H2;rw[xcol]at H3 H4;rw[xv,xl]at H4;clear HV hs hu hb0 xop xcol xa xb xv xl hx;go_enter Tryz.func49,Tryz.ntmps49
 go_upto_region 1 with (fail)
 rw[←hW];clear hW;have bb:=BS.out;have s0:=bb.cell 0;have s1:=bb.cell 1;simp only[jA,jZ,jS]at s0 s1;clear bb;have bb:=BN.out;have n0:=bb.cell 0;have n1:=bb.cell 1;have n2:=bb.cell 2;have n3:=bb.cell 3;have n4:=bb.cell 4;have n5:=bb.cell 5;have n6:=bb.cell 6;have n7:=bb.cell 7;simp only[jA,jZ,jS]at n0 n1 n2 n3 n4 n5 n6 n7;clear bb;by_cases h1:op<1
 ·have q1:decide (op<1)=true:=decide_eq_true h1;have HF:=Lib.hid (show nodeV cs i x=1 by exact H1.out (.inl h1));clear H1 H2 H3 H4;go_wp2;go_ret;exact RetN.mk_ HF.out HB0.out
 have q1:decide (op<1)=false:=decide_eq_false h1;by_cases h2:11<op
 ·have q2:decide (11<op)=true:=decide_eq_true h2;have HF:=Lib.hid (show nodeV cs i x=1 by exact H1.out (.inr h2));clear H1 H2 H3 H4;go_wp2;go_ret;exact RetN.mk_ HF.out HB0.out
 have q2:decide (11<op)=false:=decide_eq_false h2;have h12:¬(op<1∨11<op):=by omega
 by_cases h9:9≤op
 ·have q3:decide (9≤op)=true:=decide_eq_true h9;have HD:=Lib.hid (H2.out h12 h9);clear h1 h2 h12 h9 H1 H2 H3 H4;by_cases ha:a<0
  ·have q4:decide (a<0)=true:=decide_eq_true ha;have HF:=Lib.hid (show nodeV cs i x=4 by rw[HD.out];rw[if_pos (.inl ha)]);clear HD;go_wp2;go_ret;exact RetN.mk_ HF.out HB0.out
  have q4:decide (a<0)=false:=decide_eq_false ha;by_cases ha2:(i:Int)≤a
  ·have q5:decide ((i:Int)≤a)=true:=decide_eq_true ha2;have HF:=Lib.hid (show nodeV cs i x=4 by rw[HD.out];rw[if_pos (.inr (.inl ha2))]);clear HD;go_wp2;go_ret;exact RetN.mk_ HF.out HB0.out
  have q5:decide ((i:Int)≤a)=false:=decide_eq_false ha2;by_cases h11:op=11
  ·have q6:(op != 11)=false:=by simp[h11]
   have HF:=Lib.hid (show nodeV cs i x=0 by rw[HD.out];rw[if_neg (by rintro (h | h | h);exact ha h;exact ha2 h;exact h.1 h11)]);clear HD;go_wp2;go_ret;exact RetN.mk_ HF.out HB0.out
  have q6:(op != 11)=true:=by simp[h11]
  by_cases hb:b<0
  ·have q7:decide (b<0)=true:=decide_eq_true hb;have HF:=Lib.hid (show nodeV cs i x=4 by rw[HD.out];rw[if_pos (.inr (.inr ⟨h11,.inl hb⟩))]);clear HD;go_wp2;go_ret;exact RetN.mk_ HF.out HB0.out
  have q7:decide (b<0)=false:=decide_eq_false hb;by_cases hb2:(i:Int)≤b
  ·have q8:decide ((i:Int)≤b)=true:=decide_eq_true hb2;have HF:=Lib.hid (show nodeV cs i x=4 by rw[HD.out];rw[if_pos (.inr (.inr ⟨h11,.inr hb2⟩))]);clear HD;go_wp2;go_ret;exact RetN.mk_ HF.out HB0.out
  have q8:decide ((i:Int)≤b)=false:=decide_eq_false hb2;have HF:=Lib.hid (show nodeV cs i x=0 by rw[HD.out];rw[if_neg (by rintro (h | h | h);exact ha h;exact ha2 h;exact h.2.elim hb hb2)]);clear HD;go_wp2;go_ret;exact RetN.mk_ HF.out HB0.out
 have q3:decide (9≤op)=false:=decide_eq_false h9;by_cases hc0:col<0
 ·have q4:decide (col<0)=true:=decide_eq_true hc0;have HF:=Lib.hid (show nodeV cs i x=4 by exact H3.out h12 h9 (.inl hc0));clear H1 H2 H3 H4;go_wp2;go_ret;exact RetN.mk_ HF.out HB0.out
 have q4:decide (col<0)=false:=decide_eq_false hc0;by_cases hc1':(cs.length:Int)≤col
 ·have q5:decide ((cs.length:Int)≤col)=true:=decide_eq_true hc1';have HF:=Lib.hid (show nodeV cs i x=4 by exact H3.out h12 h9 (.inr hc1'));clear H1 H2 H3 H4;go_wp2;go_ret;exact RetN.mk_ HF.out HB0.out
 obtain ⟨K,rfl⟩:=Int.eq_ofNat_of_zero_le (show 0≤col by omega);have hK:K<cs.length:=by omega
 have q5:decide (cs.length≤K)=false:=decide_eq_false (by omega);have q5':decide ((cs.length:Int)≤(K:Int))=false:=decide_eq_false (by omega);have q6:decide (K<cs.length)=true:=decide_eq_true hK;obtain ⟨ad,c,pc,rfl,hc,hpc,hE⟩:=HS.out.col_load rfl hK;obtain ⟨hplt,c0,c1,c2,c3⟩:=hE;have HD:=Lib.hid (H4.out K c h12 h9 rfl hc);clear H1 H2 H3 H4 hc h12 h9 h1 h2 hc0 hc1';obtain ⟨M,hM⟩:∃ M,W.heap.size=M:=⟨_,rfl⟩
 obtain ⟨W2,hW2⟩:∃ W2,W2=W.alloc (.cells #[.string c.nm,.int .i64 c.ty,.int .i64 c.sc,.bool c.nu] 56):=⟨_,rfl⟩
 have hb2:Below w.heap.size w W2:=by rw[hW2];exact HB0.out.alloc HB0.out.size _
 have hbW:Below W.heap.size W W2:=by rw[hW2];exact (Below.refl _ _).alloc (Nat.le_refl _) _
 have BC:=Lib.hid (show Blk W2 M 56 #[.string c.nm,.int .i64 c.ty,.int .i64 c.sc,.bool c.nu] by rw[hW2,←hM];exact Blk.new _ _ _);have BN2:=Lib.hid (BN.out.below hbW BN.out.lt);have HU2:=Lib.hid (HU.out.below hbW);have HB2:=Lib.hid hb2;have HBW:=Lib.hid hbW;have hMW:W.heap.size≤M:=by omega
 have hMw:w.heap.size≤M:=by rw[←hM];exact HB0.out.size
 have hNM:w.heap.size+1<M:=by rw[←hM];exact BN.out.lt
 clear hb2 hbW;go_upto_region 10 with (fail)
 rw[←hW2];try simp only[hM]
 clear hW2 hM c0 c1 c2 c3 hpc hplt;clear s0 s1;clear n0 n1 n2 n3 n4 n5 n6 n7;have bb:=BC.out;have k0:=bb.cell 0;have k1:=bb.cell 1;have k2:=bb.cell 2;have k3:=bb.cell 3;simp only[jA,jZ,jS]at k0 k1 k2 k3;clear bb;have bb:=BN2.out;have n0:=bb.cell 0;have n1:=bb.cell 1;have n2:=bb.cell 2;have n3:=bb.cell 3;have n4:=bb.cell 4;have n5:=bb.cell 5;have n6:=bb.cell 6;have n7:=bb.cell 7;simp only[jA,jZ,jS]at n0 n1 n2 n3 n4 n5 n6 n7;clear bb;by_cases h8:op=8
 ·have q7:(op==8)=true:=by simp[h8]
  have HF:=Lib.hid (show nodeV cs i x=0 by rw[HD.out];rw[if_pos h8]);clear HD;go_wp2;go_ret;exact RetN.mk_ HF.out HB2.out
 have q7:(op==8)=false:=by simpa using h8
 by_cases h7:op=7
 case neg =>
  have q8:(op != 7)=true:=by simpa using h7
  cases vn with
  | true =>
   have HF:=Lib.hid (show nodeV cs i x=12 by rw[HD.out];rw[if_neg h8,if_pos h7,if_pos rfl]);clear HD;go_wp2;go_ret;exact RetN.mk_ HF.out HB2.out
  | false =>
   have HCH:=Lib.hid (fun X=>vcheck_any c.nm c.ty c.sc c.nu false vi vs X hvs);obtain ⟨r,hr⟩:∃ r,checkV c.ty c.nu false vi vs=r:=⟨_,rfl⟩
   have HF:=Lib.hid (show nodeV cs i x=r by rw[HD.out,if_neg h8,if_pos h7,if_neg (by simp),←hr]);rw[hr]at HCH;clear HD hr;go_wp2_with fail
   refine (HCH.out _).mono ?_;rintro _ w3 ⟨rfl,hb3⟩;have HX:=Lib.hid (bst HB2.out hb3);clear hb3;go_wp2;go_ret;exact RetN.mk_ HF.out HX.out
 case pos =>
 subst h7;have q8:((7:Int) != 7)=false:=by simp
 by_cases hl0:l.length=0
 ·have q9:((l.length:Int)==0)=true:=by simp[hl0]
  have q9':(l.length==0)=true:=by simp[hl0]
  have HF:=Lib.hid (show nodeV cs i x=1 by rw[HD.out];rw[if_neg h8,if_neg (by simp),if_pos hl0]);clear HD;go_wp2;go_ret;exact RetN.mk_ HF.out HB2.out
 have q9:((l.length:Int)==0)=false:=by rw[beq_eq_false_iff_ne];omega
 have q9':(l.length==0)=false:=by simpa using hl0
 by_cases hl16:16<l.length
 ·have q10:decide (16<l.length)=true:=decide_eq_true hl16;have q10':decide ((16:Int)<(l.length:Int))=true:=decide_eq_true (by omega);have HF:=Lib.hid (show nodeV cs i x=7 by rw[HD.out];rw[if_neg h8,if_neg (by simp),if_neg hl0,if_pos hl16]);clear HD;go_wp2;go_ret;exact RetN.mk_ HF.out HB2.out
 have q10:decide (16<l.length)=false:=decide_eq_false hl16;have q10':decide ((16:Int)<(l.length:Int))=false:=decide_eq_false (by omega);have HE:=Lib.hid (show nodeV cs i x=firstE (listE c l) l.length by rw[HD.out,if_neg h8,if_neg (by simp),if_neg hl0,if_neg hl16]);have fz:=BC.out.frozen 3;have hlM:=BC.out.lt;have XC:=Lib.hid (show Blk (W2.setCell ⟨M,3,none⟩ (.bool true)) M 56 #[.string c.nm,.int .i64 c.ty,.int .i64 c.sc,.bool true] by
  have h:=BC.out.set_ 3 (.bool true);simp only[jI,jY,jT]at h;exact h)
 obtain ⟨W3,hW3⟩:∃ W3,W2.setCell ⟨M,3,none⟩ (.bool true)=W3:=⟨_,rfl⟩
 have XB:=Lib.hid (show Below w.heap.size w W3 by rw[←hW3];exact HB2.out.setCell (p:=⟨M,3,none⟩) hMw _);have XBW:=Lib.hid (show Below W.heap.size W W3 by rw[←hW3];exact HBW.out.setCell (p:=⟨M,3,none⟩) hMW _);have XU:=Lib.hid (HU.out.below XBW.out);rw[hW3]at XC;go_upto_region 21 with (fail)
 try rw[hW3]
 clear HD hW3 fz hlM HBW;clear k0 k1 k2 k3;clear n0 n1 n2 n3 n4 n5 n6 n7;have XN:=Lib.hid (BN.out.below XBW.out BN.out.lt);have bb:=XN.out;have n0:=bb.cell 0;have n1:=bb.cell 1;have n2:=bb.cell 2;have n3:=bb.cell 3;have n4:=bb.cell 4;have n5:=bb.cell 5;have n6:=bb.cell 6;have n7:=bb.cell 7;simp only[jA,jZ,jS]at n0 n1 n2 n3 n4 n5 n6 n7;clear bb;go_wp2;go_loopw [99] (fun i wr=>∃ k:Nat,k≤l.length∧i=.int .i64 (k:Int)∧Below W3.heap.size W3 wr∧Hid (firstE (listE c l) k=0)) (fun i _=>l.length - (intOf i).toNat)
 case atStart=>exact ⟨0,by omega,rfl,Below.refl _ _,Lib.hid rfl⟩
 case round =>
  obtain ⟨k,hk,rfl,hbel,hno⟩:=hrel;by_cases hlt:k<l.length
  ·obtain ⟨ad2,e,pe,e0,he,hpe,hE⟩:=(XU.out.below hbel).vl_load rfl hlt;subst e0;obtain ⟨hplt,c0,c1,c2⟩:=hE;have HLT:=Lib.hid hlt;have qm:decide (k<l.length)=true:=decide_eq_true hlt;have hes:=hls e (List.mem_of_getElem? he);have hLE:=listE_at (c:=c) he;obtain ⟨r,hr⟩:∃ r,checkV c.ty true e.nu e.n e.s=r:=⟨_,rfl⟩
   rw[hr]at hLE;have HCH:=Lib.hid (fun X=>show Calls Tryz.prog 73 #[.agg #[.string c.nm,.int .i64 c.ty,.int .i64 c.sc,.bool true],.agg #[.bool e.nu,.int .i64 e.n,.string e.s]] X (RetN X r) by rw[←hr];exact vcheck_any c.nm c.ty c.sc true e.nu e.n e.s X hes);obtain ⟨N5,hN5⟩:∃ N,wr.heap.size=N:=⟨_,rfl⟩
   obtain ⟨V,hV⟩:∃ V,V=wr.alloc (.cells #[.bool e.nu,.int .i64 e.n,.string e.s] 64):=⟨_,rfl⟩
   have VB:=Lib.hid (show Below W3.heap.size W3 V by rw[hV];exact hbel.alloc hbel.size _);have VE:=Lib.hid (show Blk V N5 64 #[.bool e.nu,.int .i64 e.n,.string e.s] by rw[hV,←hN5];exact Blk.new _ _ _);have VC:=Lib.hid (XC.out.below VB.out XC.out.lt);clear he hbel hr;go_upto_region 24 with (fail)
   rw[←hV];try simp only[hN5]
   clear hV hN5 c0 c1 c2 hpe hplt;have bb:=VE.out;have v0:=bb.cell 0;have v1:=bb.cell 1;have v2:=bb.cell 2;simp only[jA,jZ,jS]at v0 v1 v2;clear bb;have bb:=VC.out;have k0:=bb.cell 0;have k1:=bb.cell 1;have k2:=bb.cell 2;have k3:=bb.cell 3;simp only[jA,jZ,jS]at k0 k1 k2 k3;clear bb;go_wp2_with fail
   refine (HCH.out _).mono ?_;rintro _ w4 ⟨rfl,hb4⟩;have XB4:=Lib.hid (bst VB.out hb4);clear hb4;clear v0 v1 v2;clear k0 k1 k2 k3;by_cases h0:r=0
   ·have t0:(r != 0)=false:=by simp[h0]
    have HN:=Lib.hid (firstE_next hno.out (by rw[hLE,h0]));clear h0 hLE;go_wp2;go_roundw
    case rel=>exact ⟨k+1,HLT.out,by go_num,XB4.out,HN⟩
    case measure=>have:=HLT.out;simp[intOf];omega
   ·have t0:(r != 0)=true:=by simpa using h0
    have HF:=Lib.hid (show nodeV cs i x=r by rw[HE.out];exact first_stop hno.out hLE h0 HLT.out);clear h0 hLE;go_wp2;go_ret;exact RetN.mk_ HF.out (XB.out.trans (XB4.out.mono XB.out.size))
  ·have qm:decide (k<l.length)=false:=decide_eq_false hlt;have HF:=Lib.hid (show nodeV cs i x=0 by rw[HE.out,show l.length=k by omega];exact hno.out);have HX:=Lib.hid (XB.out.trans (hbel.mono XB.out.size));clear hbel;go_wp2;go_ret;exact RetN.mk_ HF.out HX.out
set_option maxRecDepth 100000 in
set_option maxHeartbeats 8000000 in
theorem pchk_any (v pv:Value) (key:Int) (cs:List Col) (p:List Nd) (w:World) (hs:Sl w 4 v cs.length (cols cs)) (hp:SlNd w pv p) (hcl:cs.length≤9223372036854775807) (hpl:p.length≤9223372036854775807) (hnm:∀ c ∈ cs,c.nm.size≤9223372036854775807) (hvs:∀ x ∈ p,x.v.s.size≤9223372036854775807) (hls:∀ x ∈ p,∀ e ∈ x.l,e.s.size≤9223372036854775807) :
  Calls Tryz.prog 25 #[.agg #[v,.int .i64 key],pv] w (RetN w (pchkV cs key p)):=by
 obtain ⟨A,cA,rfl,hc1,hc2⟩:=hs.form;obtain ⟨AP,cP,rfl,hc3,hc4⟩:=hp.form;obtain ⟨W,hW⟩:∃ W,W=w.alloc (.cells #[.slice A cs.length cA,.int .i64 key] 28):=⟨_,rfl⟩
 have hb0:Below w.heap.size w W:=by rw[hW];exact (Below.refl _ _).alloc (Nat.le_refl _) _
 have BS:=Lib.hid (show Blk W w.heap.size 28 #[.slice A cs.length cA,.int .i64 key] by rw[hW];exact Blk.new _ _ _);have HS:=Lib.hid (hs.below hb0);have HP:=Lib.hid (hp.below hb0);have HB0:=Lib.hid hb0;have HSC:=Lib.hid (schk_any (.slice A cs.length cA) cs key W HS.out hcl hnm);obtain ⟨E,hE⟩:∃ E,schkV cs key=E:=⟨_,rfl⟩
 have HV:=Lib.hid (show pchkV cs key p=if E≠0 then E else if 64<p.length then 7 else firstE (nodeE cs p) p.length by unfold pchkV;rw[hE]);have HSK:=Lib.hid hE;rw[hE]at HSC;obtain ⟨R,hR⟩:∃ R,pchkV cs key p=R:=⟨_,rfl⟩
 rw[hR]at HV ⊢;clear hs hp hb0 hE hR;go_enter Tryz.func25,Tryz.ntmps25
 go_upto_region 1 with (fail)
 rw[←hW];clear hW;have bb:=BS.out;have s0:=bb.cell 0;have s1:=bb.cell 1;simp only[jA,jZ,jS]at s0 s1;clear bb;go_wp2_with fail
 refine HSC.out.mono ?_;rintro _ w2 ⟨rfl,hb2⟩;have HB2:=Lib.hid (bst HB0.out hb2);have BS2:=Lib.hid (BS.out.below hb2 BS.out.lt);have HS2:=Lib.hid (HS.out.below hb2);have HP2:=Lib.hid (HP.out.below hb2);clear hb2 HSC;clear s0 s1;by_cases hE:E=0
 case neg =>
  have q1:(E != 0)=true:=by simpa using hE
  have HF:=Lib.hid (show R=E by rw[HV.out,if_pos hE]);clear hE HV;go_wp2;go_ret;exact RetN.mk_ HF.out HB2.out
 case pos =>
 have q1:(E != 0)=false:=by simp[hE]
 by_cases h64:64<p.length
 ·have q2:decide (64<p.length)=true:=decide_eq_true h64;have q2':decide ((64:Int)<(p.length:Int))=true:=decide_eq_true (by omega);have HF:=Lib.hid (show R=7 by rw[HV.out,if_neg (by rw[hE];simp),if_pos h64]);clear hE HV;go_wp2;go_ret;exact RetN.mk_ HF.out HB2.out
 have q2:decide (64<p.length)=false:=decide_eq_false h64;have q2':decide ((64:Int)<(p.length:Int))=false:=decide_eq_false (by omega);have HE:=Lib.hid (show R=firstE (nodeE cs p) p.length by rw[HV.out,if_neg (by rw[hE];simp),if_neg h64]);have hp64:p.length≤64:=by omega
 have hc12:cs.length≤12:=by
  have h:=HSK.out;rw[hE]at h;unfold schkV at h
  by_cases a1:cs.length=0
  ·rw[if_pos a1]at h;cases h
  ·rw[if_neg a1]at h;by_cases a2:12<cs.length
   ·rw[if_pos a2]at h;cases h
   ·omega
 clear hE HV h64;go_wp2;go_loopw [19] (fun i wr=>∃ k:Nat,k≤p.length∧i=.int .i64 (k:Int)∧Below w2.heap.size w2 wr∧Hid (firstE (nodeE cs p) k=0)) (fun i _=>p.length - (intOf i).toNat)
 case atStart=>exact ⟨0,by omega,rfl,Below.refl _ _,Lib.hid rfl⟩
 case round =>
  obtain ⟨k,hk,rfl,hbel,hno⟩:=hrel;by_cases hlt:k<p.length
  ·obtain ⟨ad,x,u,px,rfl,hx,hpx,hE,hu⟩:=(HP2.out.below hbel).nd_load rfl hlt;obtain ⟨AU,cU,rfl,_,_⟩:=hu.form;obtain ⟨hplt,c0,c1,c2,c3,c4,c5,c6,c7⟩:=hE;have HLT:=Lib.hid hlt;have qm:decide (k<p.length)=true:=decide_eq_true hlt;have hxm:=List.mem_of_getElem? hx;have hNE:=nodeE_at (cs:=cs) hx;obtain ⟨r,hr⟩:∃ r,nodeV cs k x=r:=⟨_,rfl⟩
   rw[hr]at hNE;obtain ⟨N5,hN5⟩:∃ N,wr.heap.size=N:=⟨_,rfl⟩
   obtain ⟨V,hV⟩:∃ V,V=wr.alloc (.cells #[.int .i64 x.op,.int .i64 x.col,.bool x.v.nu,.int .i64 x.v.n,.string x.v.s,.slice AU x.l.length cU,.int .i64 x.a,.int .i64 x.b] 66):=⟨_,rfl⟩
   have hbV:Below wr.heap.size wr V:=by rw[hV];exact (Below.refl _ _).alloc (Nat.le_refl _) _
   have VB:=Lib.hid (show Below w2.heap.size w2 V by rw[hV];exact hbel.alloc hbel.size _);have VE:=Lib.hid (show Blk V N5 66 #[.int .i64 x.op,.int .i64 x.col,.bool x.v.nu,.int .i64 x.v.n,.string x.v.s,.slice AU x.l.length cU,.int .i64 x.a,.int .i64 x.b] by rw[hV,←hN5];exact Blk.new _ _ _);have VS:=Lib.hid (BS2.out.below VB.out BS2.out.lt);have HCN:=Lib.hid (show Calls Tryz.prog 49 #[.agg #[.slice A cs.length cA,.int .i64 key],.int .i64 (k:Int),.agg #[.int .i64 x.op,.int .i64 x.col,.bool x.v.nu,.int .i64 x.v.n,.string x.v.s,.slice AU x.l.length cU,.int .i64 x.a,.int .i64 x.b]] V (RetN V r) by rw[←hr];exact pnode_any _ key cs k x.op x.col x.v.nu x.v.n x.v.s x.l _ x.a x.b V (HS2.out.below VB.out) (hu.below hbV) (by omega) (by omega) (hvs x hxm) (hls x hxm));clear hx hbel hr hbV hu hxm;go_upto_region 9 with (fail)
   rw[←hV];try simp only[hN5]
   clear hV hN5 c0 c1 c2 c3 c4 c5 c6 c7 hpx hplt;have bb:=VE.out;have v0:=bb.cell 0;have v1:=bb.cell 1;have v2:=bb.cell 2;have v3:=bb.cell 3;have v4:=bb.cell 4;have v5:=bb.cell 5;have v6:=bb.cell 6;have v7:=bb.cell 7;simp only[jA,jZ,jS]at v0 v1 v2 v3 v4 v5 v6 v7;clear bb;have bb:=VS.out;have s0:=bb.cell 0;have s1:=bb.cell 1;simp only[jA,jZ,jS]at s0 s1;clear bb;go_wp2_with fail
   refine HCN.out.mono ?_;rintro _ w4 ⟨rfl,hb4⟩;have XB4:=Lib.hid (bst VB.out hb4);clear hb4 HCN;clear v0 v1 v2 v3 v4 v5 v6 v7;clear s0 s1;by_cases h0:r=0
   ·have t0:(r != 0)=false:=by simp[h0]
    have HN:=Lib.hid (firstE_next hno.out (by rw[hNE,h0]));clear h0 hNE;go_wp2;go_roundw
    case rel=>exact ⟨k+1,HLT.out,by go_num,XB4.out,HN⟩
    case measure=>have:=HLT.out;simp[intOf];omega
   ·have t0:(r != 0)=true:=by simpa using h0
    have HF:=Lib.hid (show R=r by rw[HE.out];exact first_stop hno.out hNE h0 HLT.out);clear h0 hNE;go_wp2;go_ret;exact RetN.mk_ HF.out (bst HB2.out XB4.out)
  ·have qm:decide (k<p.length)=false:=decide_eq_false hlt;have HF:=Lib.hid (show R=0 by rw[HE.out,show p.length=k by omega];exact hno.out);have HX:=Lib.hid (bst HB2.out hbel);clear hbel;go_wp2;go_ret;exact RetN.mk_ HF.out HX.out
end Go.Proofs.YtjnamjkdjcndiaaGreatDoor
