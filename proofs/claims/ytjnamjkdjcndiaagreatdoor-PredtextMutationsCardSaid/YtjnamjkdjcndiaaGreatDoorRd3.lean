/-
 ref21's reader: leafNode.
-/
import Derived.Test.YtjnamjkdjcndiaaGreatDoorRd2
import Derived.Test.YtjnamjkdjcndiaaGreatDoorM12
import Derived.Test.YtjnamjkdjcndiaaGreatDoorM21
namespace Go.Proofs.YtjnamjkdjcndiaaGreatDoor
open Go.RowKit Go.Sort

def RetRLeaf (w:World) (g:Nat) (sv nv:Value) (key wh:Int) (S:ByteArray) (r:Except (Nat×Int) (Nat×Nd)) (e:Ending) (w':World):Prop :=
 ∃ (x:Nd) (A:Option Addr) (n c:Nat),(∃ u:Value,u=.slice A n c∧e=.returned (.agg #[.int .i64 x.op,.int .i64 x.col,.bool x.v.nu,.int .i64 x.v.n,.string x.v.s,u,.int .i64 x.a,.int .i64 x.b])∧Kp (fun i=>i=g) w w'∧match r with
 | .ok (j,y)=>(x=y∧w'.ownsRow w.heap.size 64 3 u y.l.length (vls y.l)∧j≤S.size∧Blk w' g 106 #[sv,.int .i64 key,.string S,.int .i64 j,nv,.int .i64 0,.int .i64 wh])∨(expP S.data.toList 41 j=.error (sk S.data.toList j,2)∧∃ i:Nat,i≤S.size∧Blk w' g 106 #[sv,.int .i64 key,.string S,.int .i64 i,nv,.int .i64 2,.int .i64 (sk S.data.toList j:Nat)])
 | .error (k,er)=>er≠0∧∃ i:Nat,i≤S.size∧Blk w' g 106 #[sv,.int .i64 key,.string S,.int .i64 i,nv,.int .i64 er,.int .i64 k])
theorem valZ_val {c:Col} {T:List UInt8} {i:Nat}:valZ c false T i=valC c T i:=rfl
section
variable {cs:List Col} {T:List UInt8} {op i j j2 K:Nat} {e:Nat×Int} {c:Col} {v:Vl} {l:List Vl}
theorem lf_e (h1:colP cs T i=.error e):leafR cs T op i=.error e:=by unfold leafR;rw[h1]
theorem lf_8 (h1:colP cs T i=.ok (j,K)):leafR cs T 8 i=.ok (j,⟨8,K,v0,[],0,0⟩):=by unfold leafR;rw[h1];rfl
theorem lf_7e (h1:colP cs T i=.ok (j,K)) (hc:cs[K]?=some c) (h2:lstP c T 17 j []=.error e):leafR cs T 7 i=.error e:=by rw[leaf_l h1 hc,h2]
theorem lf_7o (h1:colP cs T i=.ok (j,K)) (hc:cs[K]?=some c) (h2:lstP c T 17 j []=.ok (j2,l)):leafR cs T 7 i=.ok (j2,⟨7,K,v0,l,0,0⟩):=by rw[leaf_l h1 hc,h2]
theorem lf_ve (h:op≤6) (h1:colP cs T i=.ok (j,K)) (hc:cs[K]?=some c) (h2:valC c T j=.error e):leafR cs T op i=.error e:=by rw[leaf_v h h1 hc,h2]
theorem lf_vo (h:op≤6) (h1:colP cs T i=.ok (j,K)) (hc:cs[K]?=some c) (h2:valC c T j=.ok (j2,v)):leafR cs T op i=.ok (j2,⟨op,K,v,[],0,0⟩):=by rw[leaf_v h h1 hc,h2]
end
theorem bset8 {w:World} {N:Nat} {t:TypeId} {cs:Array Value} (h:Blk w N t cs) (a b c d e f g' k:Value) (hs:cs.size=8):Blk ((((((((w.setCell ⟨N,0,none⟩ a).setCell ⟨N,1,none⟩ b).setCell ⟨N,2,none⟩ c).setCell ⟨N,3,none⟩ d).setCell ⟨N,4,none⟩ e).setCell ⟨N,5,none⟩ f).setCell ⟨N,6,none⟩ g').setCell ⟨N,7,none⟩ k) N t #[a,b,c,d,e,f,g',k]:=by
 obtain ⟨l⟩:=cs;match l,hs with
 | [_,_,_,_,_,_,_,_],_ =>
  have kb:=(((((((h.set_ 0 a).set_ 1 b).set_ 2 c).set_ 3 d).set_ 4 e).set_ 5 f).set_ 6 g').set_ 7 k;simp only[jI,jY,jT]at kb;exact kb
theorem grownN8 (w:World) (N:Nat) (a b c d e f g' k:Value):w.grownBy ((((((((w.setCell ⟨N,0,none⟩ a).setCell ⟨N,1,none⟩ b).setCell ⟨N,2,none⟩ c).setCell ⟨N,3,none⟩ d).setCell ⟨N,4,none⟩ e).setCell ⟨N,5,none⟩ f).setCell ⟨N,6,none⟩ g').setCell ⟨N,7,none⟩ k) (some N) :=
 grown_trans' (grown_trans' (grown_trans' (grown_trans' (grown_trans' (grown_trans' (grown_trans' (grownBy_set w ⟨N,0,none⟩ a) (grownBy_set _ ⟨N,1,none⟩ b)) (grownBy_set _ ⟨N,2,none⟩ c)) (grownBy_set _ ⟨N,3,none⟩ d)) (grownBy_set _ ⟨N,4,none⟩ e)) (grownBy_set _ ⟨N,5,none⟩ f)) (grownBy_set _ ⟨N,6,none⟩ g')) (grownBy_set _ ⟨N,7,none⟩ k)
def RGv (w:World) (g:Nat) (sv nv:Value) (key wh:Int) (S:ByteArray):Except (Nat×Int) (Nat×Vl)→Prop
 | .ok (j,_)=>Blk w g 106 #[sv,.int .i64 key,.string S,.int .i64 j,nv,.int .i64 0,.int .i64 wh]
 | .error (k,er)=>er≠0∧∃ i:Nat,i≤S.size∧Blk w g 106 #[sv,.int .i64 key,.string S,.int .i64 i,nv,.int .i64 er,.int .i64 k]
theorem RGv.below {w w':World} {g:Nat} {sv nv:Value} {key wh:Int} {S:ByteArray} {r:Except (Nat×Int) (Nat×Vl)} (h:RGv w g sv nv key wh S r) (k:Below w.heap.size w w'):RGv w' g sv nv key wh S r:=by
 cases r with
 | ok r=>exact Blk.below h k (Blk.lt h)
 | error r=>obtain ⟨h1,i,h2,h3⟩:=h;exact ⟨h1,i,h2,h3.below k h3.lt⟩
theorem RGv.ne {w:World} {g base n:Nat} {sv nv v:Value} {key wh:Int} {S:ByteArray} {xs:List Value} {r:Except (Nat×Int) (Nat×Vl)} (h:RGv w g sv nv key wh S r) (o:w.ownsRow base 64 3 v n xs):v.ownBlock≠some g:=by
 cases r with
 | ok r=>exact own_blk_ne o h (by decide)
 | error r=>obtain ⟨h1,i,h2,h3⟩:=h;exact own_blk_ne o h3 (by decide)
section
variable {c:Col} {T:List UInt8} {f j k:Nat} {l:List Vl} {LP:Except (Nat×Int) (Nat×List Vl)}
theorem wd_some (h:wd T k≠[]):∃ b,T[k]?=some b∧wdB b=true:=by
 cases hk:T[k]? with
 | none=>exact absurd (wd_end (by simpa using hk)) h
 | some b =>
  cases hb:wdB b with
  | true=>exact ⟨b,rfl,hb⟩
  | false=>exact absurd (wd_stop hk hb) h
theorem wd_char {b:UInt8} (hk:T[k]?=some b) (h32:b≠32) (h40:b≠40) (h41:b≠41):wd T k≠[]:=by
 have hb:wdB b=true:=by unfold wdB;simp[h32,h40,h41]
 rw[wd_go hk hb];simp
theorem brk14 (hk:sk T j=k) (hLP:lstP c T (f+1) j l=LP) (h:(decide (0<l.length)&&(T[k]? == some 41))=true):LP=.ok (k,l):=by
 simp only[Bool.and_eq_true,decide_eq_true_eq,beq_iff_eq]at h;rw[←hLP,lst_end (by rw[hk];exact wd_stop h.2 (by decide)) (by omega),hk]
theorem brk15 (hk:sk T j=k) (hLP:lstP c T (f+1) j l=LP) (hat:T[k]?≠some 32) (h14:(decide (0<l.length)&&(T[k]? == some 41))=false) (h:(decide (l.length=16)&&decide (k<T.length)&&(T[k]? != some 40))=true):LP=.error (k,7):=by
 simp only[Bool.and_eq_true,decide_eq_true_eq,bne_iff_ne]at h;obtain ⟨⟨h16,hlt⟩,h40⟩:=h;have hb:=List.getElem?_eq_getElem hlt;have h41:T[k]?≠some 41:=by
  intro e
  rw[e,decide_eq_true (by omega:0<l.length)]at h14;cases h14
 rw[hb]at h40 h41 hat;rw[←hLP,lst_full (by rw[hk];exact wd_char hb (by simpa using hat) (by simpa using h40) (by simpa using h41)) h16,hk]
theorem val_step (hk:sk T j=k) (hkk:sk T k=k) (hLP:lstP c T (f+1) j l=LP) (hl:f+l.length=16) (h14:(decide (0<l.length)&&(T[k]? == some 41))=false) (h15:(decide (l.length=16)&&decide (k<T.length)&&(T[k]? != some 40))=false) :
  (∀ j2 y,valZ c true T k=.ok (j2,y)→j2=we T k∧1≤f∧lstP c T f j2 (l ++ [y])=LP)∧(∀ k2 er,valZ c true T k=.error (k2,er)→LP=.error (k2,er)∨(er=2∧∃ (j:Nat) (l:List Vl),LP=.ok (j,l)∧expP T 41 j=.error (sk T j,2)∧k2=sk T j)):=by
 have hne16:wd T k≠[]→l.length≠16:=by
  intro hw h16
  obtain ⟨b,hb,hwb⟩:=wd_some hw;have hn:=wdB_ne hwb;rw[hb,decide_eq_true h16,decide_eq_true (List.getElem?_eq_some_iff.1 hb).1]at h15;have:b=40:=by simpa using h15
  exact hn.2 (.inl this)
 by_cases hw:wd T k=[]
 ·have he:valZ c true T k=.error (k,2):=by rw[valZ_emp (by rw[hkk];exact hw),hkk]
  refine ⟨fun j2 y h=>(by rw[he]at h;cases h),fun k2 er h=>?_⟩
  rw[he]at h;injection h with h
  injection h with h1 h2
  subst h1 h2;by_cases hl0:l.length=0
  ·left;rw[←hLP,lst_none (by rw[hk];exact hw) hl0,hk]
  ·right
   refine ⟨rfl,k,l,?_,?_,hkk.symm⟩
   ·rw[←hLP,lst_end (by rw[hk];exact hw) hl0,hk]
   ·refine exp_err ?_
    rw[hkk];intro e
    rw[e,decide_eq_true (by omega:0<l.length)]at h14;cases h14
 ·have h16:=hne16 hw;by_cases hf:(vparV c.ty c.sc true (wd T k)).2=0
  ·have he:valZ c true T k=.ok (we T k,vlP (vparV c.ty c.sc true (wd T k)).1):=by
    have:=valZ_ok (c:=c) (cn:=true) (T:=T) (i:=k) (by rw[hkk];exact hw) (by rw[hkk];exact hf)
    rw[this,hkk]
   refine ⟨fun j2 y h=>?_,fun k2 er h=>(by rw[he]at h;cases h)⟩
   rw[he]at h;injection h with h
   injection h with h1 h2
   subst h1 h2;have hg:=lst_go (c:=c) (T:=T) (f:=f) (i:=j) (l:=l) (by rw[hk];exact hw) h16 (by rw[hk];exact hf);rw[hk]at hg;exact ⟨rfl,by omega,hg.symm.trans hLP⟩
  ·have he:valZ c true T k=.error (k,(vparV c.ty c.sc true (wd T k)).2):=by
    have:=valZ_bad (c:=c) (cn:=true) (T:=T) (i:=k) (by rw[hkk];exact hw) (by rw[hkk];exact hf)
    rw[this,hkk]
   refine ⟨fun j2 y h=>(by rw[he]at h;cases h),fun k2 er h=>.inl ?_⟩
   rw[he]at h;injection h with h
   injection h with h1 h2
   rw[←hLP,lst_bad (by rw[hk];exact hw) h16 (by rw[hk];exact hf),hk,h2,h1]
end
def LfLive (w:World) (base g N:Nat) (sv nv:Value) (key wh:Int) (S:ByteArray) (c:Col) (K:Nat) (LP:Except (Nat×Int) (Nat×List Vl)) (q:Nat):Prop :=
 ∃ (j f:Nat) (l:List Vl) (lu:Value),q=f+1∧f+l.length=16∧j≤S.size∧Blk w g 106 #[sv,.int .i64 key,.string S,.int .i64 j,nv,.int .i64 0,.int .i64 wh]∧Blk w N 66 #[.int .i64 7,.int .i64 (K:Int),.bool false,.int .i64 0,.string { data:=#[] },lu,.int .i64 0,.int .i64 0]∧w.ownsRow base 64 3 lu l.length (vls l)∧lstP c S.data.toList (f+1) j l=LP
def LfErr (w:World) (g N:Nat) (sv nv:Value) (key _wh:Int) (S:ByteArray) (K:Nat) (LP:Except (Nat×Int) (Nat×List Vl)) (q:Nat):Prop :=
 ∃ (A:Option Addr) (n c2 i k:Nat) (er:Int),q=0∧i≤S.size∧Blk w g 106 #[sv,.int .i64 key,.string S,.int .i64 i,nv,.int .i64 er,.int .i64 (k:Nat)]∧Blk w N 66 #[.int .i64 7,.int .i64 (K:Int),.bool false,.int .i64 0,.string { data:=#[] },.slice A n c2,.int .i64 0,.int .i64 0]∧er≠0∧(LP=.error (k,er)∨(er=2∧∃ (j:Nat) (l:List Vl),LP=.ok (j,l)∧expP S.data.toList 41 j=.error (sk S.data.toList j,2)∧k=sk S.data.toList j))
theorem rgv_of {w':World} {g:Nat} {sv nv:Value} {key wh:Int} {S:ByteArray} {r:Except (Nat×Int) (Nat×Vl)} {v:Vl} (h:match r with
 | .ok (j,y)=>v=y∧Blk w' g 106 #[sv,.int .i64 key,.string S,.int .i64 j,nv,.int .i64 0,.int .i64 wh]
 | .error (k,er)=>er≠0∧∃ i:Nat,i≤S.size∧Blk w' g 106 #[sv,.int .i64 key,.string S,.int .i64 i,nv,.int .i64 er,.int .i64 k]):RGv w' g sv nv key wh S r∧∀ j y,r=.ok (j,y)→v=y:=by
 cases r with
 | ok r =>
  obtain ⟨j0,y0⟩:=r;exact ⟨h.2,fun j y e=>(by injection e with e;injection e with e1 e2;rw[←e2];exact h.1)⟩
 | error r =>
  obtain ⟨k0,e0⟩:=r;exact ⟨h,fun j y e=>(by cases e)⟩
theorem RGv.grown {w w':World} {g:Nat} {sv nv:Value} {key wh:Int} {S:ByteArray} {r:Except (Nat×Int) (Nat×Vl)} {row:Option Nat} (h:RGv w g sv nv key wh S r) (k:w.grownBy w' row) (hne:row≠some g):RGv w' g sv nv key wh S r:=by
 cases r with
 | ok r=>exact Blk.grown h k hne
 | error r=>obtain ⟨h1,i,h2,h3⟩:=h;exact ⟨h1,i,h2,h3.grown k hne⟩
set_option maxRecDepth 100000 in
set_option maxHeartbeats 8000000 in
theorem rleafV_any (w0:World) (g i o:Nat) (sv nv:Value) (key wh:Int) (S:ByteArray) (cs:List Col) (w:World) (hB:Blk w g 106 #[sv,.int .i64 key,.string S,.int .i64 i,nv,.int .i64 0,.int .i64 wh])
  (hi:i≤S.size) (hS:S.size≤65536) (hcs:Sl w0 4 sv cs.length (cols cs)) (hE:Env w0) (hb0:Below w0.heap.size w0 w) (hg:w0.heap.size≤g) (hcl:cs.length≤1000) (h1:1≤o) (h6:o≤6) :
  Calls Tryz.prog 87 #[.pointer (some ⟨g,0,none⟩),.int .i64 (o:Int)] w (RetRLeaf w g sv nv key wh S (leafR cs S.data.toList o i)):=by
 obtain ⟨W0,hW0⟩:∃ W0,W0=w.alloc (.cells #[.int .i64 0,.int .i64 0,.bool false,.int .i64 0,.string { data:=#[] },.slice none 0 0,.int .i64 0,.int .i64 0] 66):=⟨_,rfl⟩
 have hbw:Below w.heap.size w W0:=by rw[hW0];exact below_new _ _
 obtain ⟨R0,hR0⟩:∃ R0,w.heap.size=R0:=⟨_,rfl⟩
 have HR0:=Lib.hid (show Blk W0 R0 66 #[.int .i64 0,.int .i64 0,.bool false,.int .i64 0,.string { data:=#[] },.slice none 0 0,.int .i64 0,.int .i64 0] by rw[hW0,←hR0];exact Blk.new _ _ _);have hgR:g<R0:=by rw[←hR0];exact hB.lt
 have HK0:=Lib.hid (Kp.below (S:=fun i=>i=g) Kp.refl hbw);have HNX:=Lib.hid (rnext_any g i sv nv key wh S W0 (hB.below hbw hB.lt) hi hS);have HBE:=Lib.hid (show Below w0.heap.size w0 W0 from hb0.trans (hbw.mono hb0.size));obtain ⟨k,hk⟩:∃ k,sk S.data.toList i=k:=⟨_,rfl⟩
 obtain ⟨T,hT⟩:∃ T,wd S.data.toList k=T:=⟨_,rfl⟩
 obtain ⟨m,hm⟩:∃ m,we S.data.toList k=m:=⟨_,rfl⟩
 have hkS:k≤S.size:=by rw[←hk,←size_data];exact sk_le (by rw[size_data];exact hi)
 have hmS:m≤S.size:=by rw[←hm,←size_data];exact we_le (by rw[size_data];exact hkS)
 have H1:=Lib.hid (col_err (cs:=cs) (T:=S.data.toList) (i:=i));have H2:=Lib.hid (col_name (cs:=cs) (T:=S.data.toList) (i:=i));have H3:=Lib.hid (col_ok (cs:=cs) (T:=S.data.toList) (i:=i));rw[hk,hT,hm]at HNX;rw[hk,hT]at H1 H2 H3;rw[hm]at H3;have HB0:=Lib.hid hb0;clear hk hT hm hbw hb0 hB hi;have HCS:=Lib.hid hcs;have HE:=Lib.hid hE;obtain ⟨AS,cS,rfl,_,_⟩:=hcs.form;clear hcs hE;go_enter Tryz.func87,Tryz.ntmps87
 go_upto_region 1 with (fail)
 rw[←hW0];try simp only[hR0]
 clear hW0;go_wp2_with fail
 refine HNX.out.mono ?_;rintro _ w1 ⟨W,hW,rfl,ho,hBe,hBn⟩;have HK1:=Lib.hid (HK0.out.only ho (.inl rfl));have HR1:=Lib.hid (HR0.out.row ho (by omega));have HBE1:=Lib.hid (below_only HBE.out ho hg HBE.out.size);have hWT:W=⟨T.toArray⟩:=by cases W;cases hW;rfl
 have HF:=Lib.hid (rfind_any _ cs key W w1 (HCS.out.below HBE1.out) (by omega));obtain ⟨z,hz⟩:∃ z,findC cs W=z:=⟨_,rfl⟩
 rw[hz]at HF;have H2':=Lib.hid H2.out;have H3':=Lib.hid H3.out;rw[←hWT,hz]at H2' H3';have HCF:=Lib.hid (show ¬ z<0→∃ c,cs[z.toNat]?=some c from fun h=>by rw[←hz]at h ⊢;exact findC_some h);clear ho HNX HR0 HK0 HBE hW hWT hz H2 H3;by_cases hTe:T=[]
 ·have HB1:=Lib.hid (hBe hTe);have c0:=(hBe hTe).cell 0;have c1:=(hBe hTe).cell 1;simp only[jA,jZ,jS]at c0 c1;have HQ:=Lib.hid (lf_e (op:=o) (H1.out hTe));clear hBe hBn H1 H2' H3' hTe HCF;go_wp2_with fail
  refine HF.out.mono ?_;rintro _ w2 ⟨rfl,hb2⟩;have HB2:=Lib.hid (HB1.out.below hb2 HB1.out.lt);have HR2:=Lib.hid (HR1.out.below hb2 HR1.out.lt);have HK2:=Lib.hid (HK1.out.below hb2);clear hb2 HF c0 c1 HB1 HR1 HK1;obtain ⟨N,hN⟩:∃ N,w2.heap.size=N:=⟨_,rfl⟩
  obtain ⟨X,hX⟩:∃ X,X=w2.alloc (.cells #[.int .i64 (o:Int),.int .i64 z,.bool false,.int .i64 0,.string { data:=#[] },.slice none 0 0,.int .i64 0,.int .i64 0] 66):=⟨_,rfl⟩
  have HNX:=Lib.hid (show Blk X N 66 #[.int .i64 (o:Int),.int .i64 z,.bool false,.int .i64 0,.string { data:=#[] },.slice none 0 0,.int .i64 0,.int .i64 0] by rw[hX,←hN];exact Blk.new _ _ _);have HBX:=Lib.hid (show Blk X g 106 #[.slice AS cs.length cS,.int .i64 key,.string S,.int .i64 m,nv,.int .i64 2,.int .i64 k] by rw[hX];exact HB2.out.alloc _);have HRX:=Lib.hid (show Blk X R0 66 #[.int .i64 0,.int .i64 0,.bool false,.int .i64 0,.string { data:=#[] },.slice none 0 0,.int .i64 0,.int .i64 0] by rw[hX];exact HR2.out.alloc _);have HKX:=Lib.hid (show Kp (fun i=>i=g) w X by rw[hX];exact HK2.out.alloc _);go_upto_region 3 with (fail)
  rw[←hX];try simp only[hN]
  clear hX hN HB2 HR2 HK2;have c5:=HBX.out.cell 5;simp only[jA,jZ,jS]at c5

  have bb:=HNX.out;have n0:=bb.cell 0;have n1:=bb.cell 1;have n2:=bb.cell 2;have n3:=bb.cell 3;have n4:=bb.cell 4;have n5:=bb.cell 5;have n6:=bb.cell 6;have n7:=bb.cell 7;simp only[jA,jZ,jS]at n0 n1 n2 n3 n4 n5 n6 n7;clear bb;have bb:=HRX.out;have r0:=bb.cell 0;have r1:=bb.cell 1;have r2:=bb.cell 2;have r3:=bb.cell 3;have r4:=bb.cell 4;have r5:=bb.cell 5;have r6:=bb.cell 6;have r7:=bb.cell 7;have f0:=bb.frozen 0;have f1:=bb.frozen 1;have f2:=bb.frozen 2;have f3:=bb.frozen 3;have f4:=bb.frozen 4;have f5:=bb.frozen 5;have f6:=bb.frozen 6;have f7:=bb.frozen 7;simp only[jA,jZ,jS]at r0 r1 r2 r3 r4 r5 r6 r7;have hlt:=bb.lt;clear bb;go_wp2;have kb:=bset8 HRX.out (.int .i64 (o:Int)) (.int .i64 z) (.bool false) (.int .i64 0) (.string { data:=#[] }) (.slice none 0 0) (.int .i64 0) (.int .i64 0) rfl;have kg:=grownN8 X R0 (.int .i64 (o:Int)) (.int .i64 z) (.bool false) (.int .i64 0) (.string { data:=#[] }) (.slice none 0 0) (.int .i64 0) (.int .i64 0);have z0:=kb.cell 0;have z1:=kb.cell 1;have z2:=kb.cell 2;have z3:=kb.cell 3;have z4:=kb.cell 4;have z5:=kb.cell 5;have z6:=kb.cell 6;have z7:=kb.cell 7;simp only[jA,jZ,jS]at z0 z1 z2 z3 z4 z5 z6 z7;rw[HQ.out];exact bodyPost_ret (v:=.agg #[.int .i64 (o:Int),.int .i64 z,.bool false,.int .i64 0,.string { data:=#[] },.slice none 0 0,.int .i64 0,.int .i64 0]) (by simp[results,Tryz.results87,go_sem,z0,z1,z2,z3,z4,z5,z6,z7]) rfl
   ⟨⟨(o:Int),z,v0,[],0,0⟩,none,0,0,_,rfl,rfl,HKX.out.grown kg (fun i h hi=>absurd hi (by have h2:R0=i:=Option.some.inj h;omega)),by decide,m,hmS,HBX.out.row kg (by omega)⟩
 ·have HB1:=Lib.hid (hBn hTe);have c0:=(hBn hTe).cell 0;have c1:=(hBn hTe).cell 1;simp only[jA,jZ,jS]at c0 c1;have H2'':=Lib.hid (H2'.out hTe);have H3'':=Lib.hid (H3'.out hTe);clear hBe hBn H1 H2' H3' hTe;go_wp2_with fail
  refine HF.out.mono ?_;rintro _ w2 ⟨rfl,hb2⟩;have HB2:=Lib.hid (HB1.out.below hb2 HB1.out.lt);have HR2:=Lib.hid (HR1.out.below hb2 HR1.out.lt);have HK2:=Lib.hid (HK1.out.below hb2);have HBE2:=Lib.hid (HBE1.out.trans (hb2.mono HBE1.out.size));clear hb2 HF c0 c1 HB1 HR1 HK1 HBE1;obtain ⟨N,hN⟩:∃ N,w2.heap.size=N:=⟨_,rfl⟩
  obtain ⟨X,hX⟩:∃ X,X=w2.alloc (.cells #[.int .i64 (o:Int),.int .i64 z,.bool false,.int .i64 0,.string { data:=#[] },.slice none 0 0,.int .i64 0,.int .i64 0] 66):=⟨_,rfl⟩
  have HNX:=Lib.hid (show Blk X N 66 #[.int .i64 (o:Int),.int .i64 z,.bool false,.int .i64 0,.string { data:=#[] },.slice none 0 0,.int .i64 0,.int .i64 0] by rw[hX,←hN];exact Blk.new _ _ _);have HBX:=Lib.hid (show Blk X g 106 #[.slice AS cs.length cS,.int .i64 key,.string S,.int .i64 m,nv,.int .i64 0,.int .i64 wh] by rw[hX];exact HB2.out.alloc _);have HRX:=Lib.hid (show Blk X R0 66 #[.int .i64 0,.int .i64 0,.bool false,.int .i64 0,.string { data:=#[] },.slice none 0 0,.int .i64 0,.int .i64 0] by rw[hX];exact HR2.out.alloc _);have HKX:=Lib.hid (show Kp (fun i=>i=g) w X by rw[hX];exact HK2.out.alloc _);have HBEX:=Lib.hid (show Below w0.heap.size w0 X by rw[hX];exact HBE2.out.trans ((below_new _ _).mono HBE2.out.size));have hRN:R0<N:=by rw[←hN];exact HR2.out.lt
  go_upto_region 3 with (fail)
  rw[←hX];try simp only[hN]
  clear hX hN HB2 HR2 HK2 HBE2;have c5:=HBX.out.cell 5;have n1:=HNX.out.cell 1;simp only[jA,jZ,jS]at c5 n1;by_cases hz0:z<0
  ·have q1:decide (z<0)=true:=by simpa using hz0
   have HQ:=Lib.hid (lf_e (op:=o) (H2''.out hz0));clear H2'' H3'' hz0 HCF;go_wp2_with fail
   refine (rfail_first g m _ nv key wh _ _ S X HBX.out).mono ?_;rintro _ Y ⟨rfl,hB,ho⟩;have HBY:=Lib.hid hB;have HNY:=Lib.hid (HNX.out.row ho (by omega));have HRY:=Lib.hid (HRX.out.row ho (by omega));have HKY:=Lib.hid (HKX.out.only ho (.inl rfl));clear hB ho HBX HNX HRX HKX c5 n1;have c5:=HBY.out.cell 5;simp only[jA,jZ,jS]at c5

   have bb:=HNY.out;have n0:=bb.cell 0;have n1:=bb.cell 1;have n2:=bb.cell 2;have n3:=bb.cell 3;have n4:=bb.cell 4;have n5:=bb.cell 5;have n6:=bb.cell 6;have n7:=bb.cell 7;simp only[jA,jZ,jS]at n0 n1 n2 n3 n4 n5 n6 n7;clear bb;have bb:=HRY.out;have r0:=bb.cell 0;have r1:=bb.cell 1;have r2:=bb.cell 2;have r3:=bb.cell 3;have r4:=bb.cell 4;have r5:=bb.cell 5;have r6:=bb.cell 6;have r7:=bb.cell 7;have f0:=bb.frozen 0;have f1:=bb.frozen 1;have f2:=bb.frozen 2;have f3:=bb.frozen 3;have f4:=bb.frozen 4;have f5:=bb.frozen 5;have f6:=bb.frozen 6;have f7:=bb.frozen 7;simp only[jA,jZ,jS]at r0 r1 r2 r3 r4 r5 r6 r7;have hlt:=bb.lt;clear bb;go_wp2;have kb:=bset8 HRY.out (.int .i64 (o:Int)) (.int .i64 z) (.bool false) (.int .i64 0) (.string { data:=#[] }) (.slice none 0 0) (.int .i64 0) (.int .i64 0) rfl;have kg:=grownN8 Y R0 (.int .i64 (o:Int)) (.int .i64 z) (.bool false) (.int .i64 0) (.string { data:=#[] }) (.slice none 0 0) (.int .i64 0) (.int .i64 0);have z0:=kb.cell 0;have z1:=kb.cell 1;have z2:=kb.cell 2;have z3:=kb.cell 3;have z4:=kb.cell 4;have z5:=kb.cell 5;have z6:=kb.cell 6;have z7:=kb.cell 7;simp only[jA,jZ,jS]at z0 z1 z2 z3 z4 z5 z6 z7;rw[HQ.out];exact bodyPost_ret (v:=.agg #[.int .i64 (o:Int),.int .i64 z,.bool false,.int .i64 0,.string { data:=#[] },.slice none 0 0,.int .i64 0,.int .i64 0]) (by simp[results,Tryz.results87,go_sem,z0,z1,z2,z3,z4,z5,z6,z7]) rfl
    ⟨⟨(o:Int),z,v0,[],0,0⟩,none,0,0,_,rfl,rfl,HKY.out.grown kg (fun i h hi=>absurd hi (by have h2:R0=i:=Option.some.inj h;omega)),by decide,m,hmS,HBY.out.row kg (by omega)⟩
  ·have q1:decide (z<0)=false:=by simpa using hz0
   obtain ⟨K,rfl⟩:∃ K:Nat,z=(K:Int):=⟨z.toNat,by omega⟩
   obtain ⟨c,hc⟩:=HCF.out (by omega);rw[Int.toNat_natCast]at hc;have HCP:=Lib.hid (H3''.out (by omega));rw[Int.toNat_natCast]at HCP;have HCC:=Lib.hid hc;have hkc:K<cs.length:=(List.getElem?_eq_some_iff.1 hc).1;have qK:decide (K<cs.length)=true:=decide_eq_true hkc;have pK:((K:Int)<(cs.length:Int))=True:=eq_true (by omega);obtain ⟨ad,c',pc,rfl,hc',hpc,hCA⟩:=(HCS.out.below HBEX.out).col_load rfl hkc;rw[hc]at hc';injection hc' with hc'
   subst hc';have HCA:=Lib.hid hCA;clear H2'' H3'' hz0 HCF hc hCA HCS c5 n1;have c5:=HBX.out.cell 5;have n1:=HNX.out.cell 1;simp only[jA,jZ,jS]at c5 n1;go_upto_region 7 with (fail)
   refine wp_region_inv (by kernel_rfl) (by kernel_rfl) (fun L a w'=>∃ u41 u42 u43 u44 u45 u46 u47 u48 u49 u8:Value,a=⟨#[.pointer (some ⟨g,0,none⟩),.int .i64 o,undef,undef,.pointer (some ⟨R0,0,none⟩),.string W,.int .i64 k,.pointer (some ⟨N,0,none⟩),u8,.tuple #[.string W,.int .i64 k],.pointer (some ⟨g,0,none⟩),.tuple #[.string W,.int .i64 k],.string W,.int .i64 k,.int .i64 o,.pointer (some ⟨g,0,none⟩),.pointer (some ⟨g,0,none⟩),.pointer (some ⟨g,0,none⟩),.agg #[.slice (some ad) cs.length cS,.int .i64 key],.string W,.int .i64 K,.agg #[.int .i64 o,.int .i64 K,.bool false,.int .i64 0,.string { data:=#[] },.slice none 0 0,.int .i64 0,.int .i64 0],.pointer (some ⟨g,0,none⟩),.pointer (some ⟨g,0,none⟩),.pointer (some ⟨g,5,none⟩),.int .i64 0,.bool true,.bool true,.pointer (some ⟨N,1,none⟩),.int .i64 K,.bool false,.bool false,undef,undef,undef,.pointer (some ⟨g,0,none⟩),.pointer (some ⟨g,0,none⟩),.pointer (some ⟨g,5,none⟩),.int .i64 0,.bool false,undef,u41,u42,u43,u44,u45,u46,u47,u48,u49,undef,undef,undef,undef,undef,undef,undef,undef,undef,undef,undef,undef,undef,undef,undef,undef,undef,undef,undef,undef,undef,undef,undef,undef,undef,undef,undef,undef,undef,undef,undef,undef,undef,undef,undef,undef,undef,undef,undef,undef,undef,undef,undef,undef,undef,undef,undef,undef,undef,undef,undef,undef,undef,undef,undef,undef,undef,undef,undef,undef,undef,undef,undef,undef,undef,undef,undef,undef,undef,undef,undef,undef,undef,undef,undef,undef,undef,undef,undef,undef,undef,undef,undef,undef,undef,undef,undef,undef,undef,undef,undef],[]⟩ ∧
     Below X.heap.size X w'∧Got (L 0) u41 (.pointer (some ⟨g,0,none⟩))∧Got (L 1) u42 (.pointer (some ⟨g,0,none⟩))∧Got (L 2) u43 (.pointer (some ⟨g,0,none⟩))∧Got (L 3) u44 (.pointer (some ⟨g,0,none⟩))∧Got (L 4) u45 (.slice (some ad) cs.length cS)∧Got (L 5) u46 (.pointer (some ⟨N,1,none⟩))∧Got (L 6) u47 (.int .i64 (K:Int))∧Got (L 7) u48 (.pointer (some pc))∧Got (L 8) u49 (.agg #[.string c.nm,.int .i64 c.ty,.int .i64 c.sc,.bool c.nu])∧(L 9=true→∃ A,u8=.pointer (some ⟨A,0,none⟩)∧X.heap.size≤A∧(L 10=false→Blk w' A 56 #[.string { data:=#[] },.int .i64 0,.int .i64 0,.bool false])∧(L 10=true→Blk w' A 56 #[.string c.nm,.int .i64 c.ty,.int .i64 c.sc,.bool c.nu]))∧(L 10=true→L 9=true))
    ?_ ?_ ?_
   ·exact ⟨_,_,_,_,_,_,_,_,_,_,rfl,(Below.refl _ _).drew,nofun,nofun,nofun,nofun,nofun,nofun,nofun,nofun,nofun,nofun,nofun⟩
   ·refine ⟨?_,?_,?_,?_,?_,?_,?_,?_,?_,?_,?_,trivial⟩
    ·refine fun L a w'=>ex8 fun _ _ _ _ _ _ _ _=>ex2 fun _ _=>un8 fun ha hb g0 g1 g2 g3 g4 g5=>un4 fun g6 g7 g8 g9 g10 hl hd K hK=>?_;subst ha
     dsimp only at hK ⊢;go_simp;exact hK _ _ ⟨_,_,_,_,_,_,_,_,_,_,rfl,hb,fun _=>rfl,g1,g2,g3,g4,g5,g6,g7,g8,g9,g10⟩
    ·refine fun L a w'=>ex8 fun _ _ _ _ _ _ _ _=>ex2 fun _ _=>un8 fun ha hb g0 g1 g2 g3 g4 g5=>un4 fun g6 g7 g8 g9 g10 hl hd K hK=>?_;subst ha
     simp[Region.binds]at hd;dsimp only at hK ⊢;have e0:=g0 (by simp[hd]);subst e0;go_simp;exact hK _ _ ⟨_,_,_,_,_,_,_,_,_,_,rfl,hb,g0,fun _=>rfl,g2,g3,g4,g5,g6,g7,g8,g9,g10⟩
    ·refine fun L a w'=>ex8 fun _ _ _ _ _ _ _ _=>ex2 fun _ _=>un8 fun ha hb g0 g1 g2 g3 g4 g5=>un4 fun g6 g7 g8 g9 g10 hl hd K hK=>?_;subst ha
     simp[Region.binds]at hd;dsimp only at hK ⊢;have e1:=g1 (by simp[hd]);subst e1;go_simp;exact hK _ _ ⟨_,_,_,_,_,_,_,_,_,_,rfl,hb,g0,g1,fun _=>rfl,g3,g4,g5,g6,g7,g8,g9,g10⟩
    ·refine fun L a w'=>ex8 fun _ _ _ _ _ _ _ _=>ex2 fun _ _=>un8 fun ha hb g0 g1 g2 g3 g4 g5=>un4 fun g6 g7 g8 g9 g10 hl hd K hK=>?_;subst ha
     simp[Region.binds]at hd;dsimp only at hK ⊢;have e2:=g2 (by simp[hd]);subst e2;go_simp;exact hK _ _ ⟨_,_,_,_,_,_,_,_,_,_,rfl,hb,g0,g1,g2,fun _=>rfl,g4,g5,g6,g7,g8,g9,g10⟩
    ·refine fun L a w'=>ex8 fun _ _ _ _ _ _ _ _=>ex2 fun _ _=>un8 fun ha hb g0 g1 g2 g3 g4 g5=>un4 fun g6 g7 g8 g9 g10 hl hd K hK=>?_;subst ha
     simp[Region.binds]at hd;dsimp only at hK ⊢;have e3:=g3 (by simp[hd]);subst e3;have bb:=HBX.out.below hb HBX.out.lt;have c0:=bb.cell 0;simp only[jA,jZ]at c0;clear bb;go_simp;exact hK _ _ ⟨_,_,_,_,_,_,_,_,_,_,rfl,hb,g0,g1,g2,g3,fun _=>rfl,g5,g6,g7,g8,g9,g10⟩
    ·refine fun L a w'=>ex8 fun _ _ _ _ _ _ _ _=>ex2 fun _ _=>un8 fun ha hb g0 g1 g2 g3 g4 g5=>un4 fun g6 g7 g8 g9 g10 hl hd K hK=>?_;subst ha
     dsimp only at hK ⊢;go_simp;exact hK _ _ ⟨_,_,_,_,_,_,_,_,_,_,rfl,hb,g0,g1,g2,g3,g4,fun _=>rfl,g6,g7,g8,g9,g10⟩
    ·refine fun L a w'=>ex8 fun _ _ _ _ _ _ _ _=>ex2 fun _ _=>un8 fun ha hb g0 g1 g2 g3 g4 g5=>un4 fun g6 g7 g8 g9 g10 hl hd K hK=>?_;subst ha
     simp[Region.binds]at hd;dsimp only at hK ⊢;have e5:=g5 (by simp[hd]);subst e5;have bb:=HNX.out.below hb HNX.out.lt;have c0:=bb.cell 0;have c1:=bb.cell 1;simp only[jA,jZ,jS]at c0 c1;clear bb;go_simp;exact hK _ _ ⟨_,_,_,_,_,_,_,_,_,_,rfl,hb,g0,g1,g2,g3,g4,g5,fun _=>rfl,g7,g8,g9,g10⟩
    ·refine fun L a w'=>ex8 fun _ _ _ _ _ _ _ _=>ex2 fun _ _=>un8 fun ha hb g0 g1 g2 g3 g4 g5=>un4 fun g6 g7 g8 g9 g10 hl hd K hK=>?_;subst ha
     simp[Region.binds]at hd;dsimp only at hK ⊢;have e4:=g4 (by simp[hd]);subst e4;have e6:=g6 (by simp[hd]);subst e6;go_simp;exact hK _ _ ⟨_,_,_,_,_,_,_,_,_,_,rfl,hb,g0,g1,g2,g3,g4,g5,g6,fun _=>rfl,g8,g9,g10⟩
    ·refine fun L a w'=>ex8 fun _ _ _ _ _ _ _ _=>ex2 fun _ _=>un8 fun ha hb g0 g1 g2 g3 g4 g5=>un4 fun g6 g7 g8 g9 g10 hl hd K hK=>?_;subst ha
     simp[Region.binds]at hd;dsimp only at hK ⊢;have e7:=g7 (by simp[hd]);subst e7;have hca:=HCA.out.below hb;have k0:=hca.c0;have k1:=hca.c1;have k2:=hca.c2;have k3:=hca.c3;clear hca;go_simp;exact hK _ _ ⟨_,_,_,_,_,_,_,_,_,_,rfl,hb,g0,g1,g2,g3,g4,g5,g6,g7,fun _=>rfl,g9,g10⟩
    ·refine fun L a w'=>ex8 fun _ _ _ _ _ _ _ _=>ex2 fun _ _=>un8 fun ha hb g0 g1 g2 g3 g4 g5=>un4 fun g6 g7 g8 g9 g10 hl hd K hK=>?_;subst ha
     dsimp only at hK ⊢;go_simp;exact hK _ _ ⟨_,_,_,_,_,_,_,_,_,_,rfl,hb.alloc hb.size _,g0,g1,g2,g3,g4,g5,g6,g7,g8,fun _=>⟨_,rfl,hb.size,fun _=>Blk.new _ _ _,fun h=>by have:=g10 h;rw[hl]at this;cases this⟩,fun _=>rfl⟩
    ·refine fun L a w'=>ex8 fun _ _ _ _ _ _ _ _=>ex2 fun _ _=>un8 fun ha hb g0 g1 g2 g3 g4 g5=>un4 fun g6 g7 g8 g9 g10 hl hd K hK=>?_;subst ha
     simp[Region.binds]at hd;dsimp only at hK ⊢;have e8:=g8 (by simp[hd]);subst e8;have h9:L 9=true:=by simp[hd]
     obtain ⟨A,hA,hA1,hA2,hA3⟩:=g9 h9;subst hA;have bb:=hA2 hl;have z0:=bb.cell 0;have z1:=bb.cell 1;have z2:=bb.cell 2;have z3:=bb.cell 3;have y0:=bb.frozen 0;have y1:=bb.frozen 1;have y2:=bb.frozen 2;have y3:=bb.frozen 3;simp only[jA,jZ,jS]at z0 z1 z2 z3;have hlt:=bb.lt;go_simp;have kb:=(((bb.set_ 0 (.string c.nm)).set_ 1 (.int .i64 c.ty)).set_ 2 (.int .i64 c.sc)).set_ 3 (.bool c.nu);simp only[jI,jY,jT]at kb;exact hK _ _ ⟨_,_,_,_,_,_,_,_,_,_,rfl,bset (bset (bset (bset hb hA1 _) hA1 _) hA1 _) hA1 _,g0,g1,g2,g3,g4,g5,g6,g7,g8,fun _=>⟨A,rfl,hA1,nofun,fun _=>kb⟩,fun _=>h9⟩
   intro a w3 hI
   revert hI;refine ex8 fun _ _ _ _ _ _ _ _=>ex2 fun _ _=>un8 fun ha hb g0 g1 g2 g3 g4 g5=>un4 fun g6 g7 g8 g9 g10=>?_;subst ha
   obtain ⟨C,hC,hC1,_,hC3⟩:=g9 rfl;subst hC;have HC3:=Lib.hid (hC3 rfl);have HB3:=Lib.hid (HBX.out.below hb HBX.out.lt);have HN3:=Lib.hid (HNX.out.below hb HNX.out.lt);have HR3:=Lib.hid (HRX.out.below hb HRX.out.lt);have HK3:=Lib.hid (HKX.out.below hb);have HBE3:=Lib.hid (HBEX.out.trans (hb.mono HBEX.out.size));have hNC:N<C:=by have:=HNX.out.lt;omega
   clear g0 g1 g2 g3 g4 g5 g6 g7 g8 g9 g10 hb hC1 hC3 HBX HNX HRX HKX HBEX c5 n1;have q7:((o:Int)==7)=false:=by rw[beq_eq_false_iff_ne];omega
   go_wp2_with fail
   refine (rcomp_any (o:Int) w3 (b:=true) (decide_eq_true (by omega)) (decide_eq_true (by omega))).mono ?_;rintro _ _ ⟨rfl,rfl⟩;obtain ⟨X4,hX4⟩:∃ X4,X4=w3.setCell ⟨C,3,none⟩ (.bool false):=⟨_,rfl⟩
   have bb:=HC3.out;have z0:=bb.cell 0;have z1:=bb.cell 1;have z2:=bb.cell 2;have z3:=bb.cell 3;have y3:=bb.frozen 3;simp only[jA,jZ,jS]at z0 z1 z2 z3;have hltC:=bb.lt;have kb:=bb.set_ 3 (.bool false);simp only[jI,jY,jT]at kb;have kg:=grownBy_set w3 ⟨C,3,none⟩ (.bool false);rw[←hX4]at kb kg;have HC4:=Lib.hid kb;have HB4:=Lib.hid (HB3.out.row kg (show g≠C by omega));have HN4:=Lib.hid (HN3.out.row kg (show N≠C by omega));have HR4:=Lib.hid (HR3.out.row kg (show R0≠C by omega));have HK4:=Lib.hid (HK3.out.grown kg (fun i h hi=>absurd hi (by have h2:C=i:=Option.some.inj h;omega)));have HBE4:=Lib.hid (below_row HBE3.out kg (show w0.heap.size≤C by omega) HBE3.out.size);clear bb kb kg HC3 HB3 HN3 HR3 HK3 HBE3;have HV:=Lib.hid (rval_any w0 g m _ nv key wh S c false X4 HB4.out hmS hS HE.out HBE4.out hg);rw[valZ_val]at HV;go_upto_region 10 with (fail)
   rw[←hX4];clear hX4 z0 z1 z2 z3 y3 hltC;have bb:=HC4.out;have z0:=bb.cell 0;have z1:=bb.cell 1;have z2:=bb.cell 2;have z3:=bb.cell 3;simp only[jA,jZ,jS]at z0 z1 z2 z3;clear bb;go_wp2_with fail
   refine HV.out.mono ?_;rintro _ w5 ⟨v,rfl,hk,hr⟩;have HN5:=Lib.hid (HN4.out.kp hk (show ¬ N=g by omega));have HR5:=Lib.hid (HR4.out.kp hk (show ¬ R0=g by omega));have HK5:=Lib.hid (HK4.out.trans hk);have HRR:=Lib.hid hr;clear hk hr HV z0 z1 z2 z3;obtain ⟨X6,hX6⟩:∃ X6,X6=((w5.setCell ⟨N,2,none⟩ (.bool v.nu)).setCell ⟨N,3,none⟩ (.int .i64 v.n)).setCell ⟨N,4,none⟩ (.string v.s):=⟨_,rfl⟩
   have bb:=HN5.out;have n2:=bb.cell 2;have n3:=bb.cell 3;have n4:=bb.cell 4;have m2:=bb.frozen 2;have m3:=bb.frozen 3;have m4:=bb.frozen 4;simp only[jA,jZ,jS]at n2 n3 n4;have hltN:=bb.lt;have kb:=((bb.set_ 2 (.bool v.nu)).set_ 3 (.int .i64 v.n)).set_ 4 (.string v.s);simp only[jI,jY,jT]at kb;have kg6:=grown_trans' (grown_trans' (grownBy_set w5 ⟨N,2,none⟩ (.bool v.nu)) (grownBy_set _ ⟨N,3,none⟩ (.int .i64 v.n))) (grownBy_set _ ⟨N,4,none⟩ (.string v.s));rw[←hX6]at kb kg6;have HN6:=Lib.hid kb;have HR6:=Lib.hid (HR5.out.row kg6 (show R0≠N by omega));have HK6:=Lib.hid (HK5.out.grown kg6 (fun i h hi=>absurd hi (by have h2:N=i:=Option.some.inj h;omega)));have KG6:=Lib.hid kg6;clear bb kb kg6;go_upto_region 11 with (fail)
   rw[←hX6];clear hX6 n2 n3 n4 m2 m3 m4 hltN HN5 HR5 HK5;cases hv:valC c S.data.toList m with
   | error r =>
    obtain ⟨k2,er⟩:=r;rw[hv]at HRR;obtain ⟨he,j0,hj0,hB⟩:=HRR.out;have HB6:=Lib.hid (hB.row KG6.out (show g≠N by omega));have HQ:=Lib.hid (lf_ve h6 HCP.out HCC.out hv);clear hv hB HRR;have bb:=HN6.out;have n0:=bb.cell 0;have n1:=bb.cell 1;have n2:=bb.cell 2;have n3:=bb.cell 3;have n4:=bb.cell 4;have n5:=bb.cell 5;have n6:=bb.cell 6;have n7:=bb.cell 7;simp only[jA,jZ,jS]at n0 n1 n2 n3 n4 n5 n6 n7;clear bb;have bb:=HR6.out;have r0:=bb.cell 0;have r1:=bb.cell 1;have r2:=bb.cell 2;have r3:=bb.cell 3;have r4:=bb.cell 4;have r5:=bb.cell 5;have r6:=bb.cell 6;have r7:=bb.cell 7;have f0:=bb.frozen 0;have f1:=bb.frozen 1;have f2:=bb.frozen 2;have f3:=bb.frozen 3;have f4:=bb.frozen 4;have f5:=bb.frozen 5;have f6:=bb.frozen 6;have f7:=bb.frozen 7;simp only[jA,jZ,jS]at r0 r1 r2 r3 r4 r5 r6 r7;have hlt:=bb.lt;clear bb;go_wp2;have kb:=bset8 HR6.out (.int .i64 (o:Int)) (.int .i64 (K:Int)) (.bool v.nu) (.int .i64 v.n) (.string v.s) (.slice none 0 0) (.int .i64 0) (.int .i64 0) rfl;have kg:=grownN8 X6 R0 (.int .i64 (o:Int)) (.int .i64 (K:Int)) (.bool v.nu) (.int .i64 v.n) (.string v.s) (.slice none 0 0) (.int .i64 0) (.int .i64 0);have z0:=kb.cell 0;have z1:=kb.cell 1;have z2:=kb.cell 2;have z3:=kb.cell 3;have z4:=kb.cell 4;have z5:=kb.cell 5;have z6:=kb.cell 6;have z7:=kb.cell 7;simp only[jA,jZ,jS]at z0 z1 z2 z3 z4 z5 z6 z7;rw[HQ.out];exact bodyPost_ret (v:=.agg #[.int .i64 (o:Int),.int .i64 (K:Int),.bool v.nu,.int .i64 v.n,.string v.s,.slice none 0 0,.int .i64 0,.int .i64 0]) (by simp[results,Tryz.results87,go_sem,z0,z1,z2,z3,z4,z5,z6,z7]) rfl
     ⟨⟨o,K,v,[],0,0⟩,none,0,0,_,rfl,rfl,HK6.out.grown kg (fun i h hi=>absurd hi (by have h2:R0=i:=Option.some.inj h;omega)),he,j0,hj0,HB6.out.row kg (by omega)⟩
   | ok r =>
    obtain ⟨j2,y⟩:=r;rw[hv]at HRR;obtain ⟨hvy,hB⟩:=HRR.out;subst hvy;have hj2:=val_upt (c:=c) (T:=S.data.toList) (i:=m) (by rw[size_data];exact hmS);rw[hv]at hj2;have hj2:j2≤S.size:=by rw[←size_data];exact hj2
    have HB6:=Lib.hid (hB.row KG6.out (show g≠N by omega));have HQ:=Lib.hid (lf_vo h6 HCP.out HCC.out hv);clear hv hB HRR;have bb:=HN6.out;have n0:=bb.cell 0;have n1:=bb.cell 1;have n2:=bb.cell 2;have n3:=bb.cell 3;have n4:=bb.cell 4;have n5:=bb.cell 5;have n6:=bb.cell 6;have n7:=bb.cell 7;simp only[jA,jZ,jS]at n0 n1 n2 n3 n4 n5 n6 n7;clear bb;have bb:=HR6.out;have r0:=bb.cell 0;have r1:=bb.cell 1;have r2:=bb.cell 2;have r3:=bb.cell 3;have r4:=bb.cell 4;have r5:=bb.cell 5;have r6:=bb.cell 6;have r7:=bb.cell 7;have f0:=bb.frozen 0;have f1:=bb.frozen 1;have f2:=bb.frozen 2;have f3:=bb.frozen 3;have f4:=bb.frozen 4;have f5:=bb.frozen 5;have f6:=bb.frozen 6;have f7:=bb.frozen 7;simp only[jA,jZ,jS]at r0 r1 r2 r3 r4 r5 r6 r7;have hlt:=bb.lt;clear bb;go_wp2;have kb:=bset8 HR6.out (.int .i64 (o:Int)) (.int .i64 (K:Int)) (.bool v.nu) (.int .i64 v.n) (.string v.s) (.slice none 0 0) (.int .i64 0) (.int .i64 0) rfl;have kg:=grownN8 X6 R0 (.int .i64 (o:Int)) (.int .i64 (K:Int)) (.bool v.nu) (.int .i64 v.n) (.string v.s) (.slice none 0 0) (.int .i64 0) (.int .i64 0);have z0:=kb.cell 0;have z1:=kb.cell 1;have z2:=kb.cell 2;have z3:=kb.cell 3;have z4:=kb.cell 4;have z5:=kb.cell 5;have z6:=kb.cell 6;have z7:=kb.cell 7;simp only[jA,jZ,jS]at z0 z1 z2 z3 z4 z5 z6 z7;rw[HQ.out];exact bodyPost_ret (v:=.agg #[.int .i64 (o:Int),.int .i64 (K:Int),.bool v.nu,.int .i64 v.n,.string v.s,.slice none 0 0,.int .i64 0,.int .i64 0]) (by simp[results,Tryz.results87,go_sem,z0,z1,z2,z3,z4,z5,z6,z7]) rfl
     ⟨⟨o,K,v,[],0,0⟩,none,0,0,_,rfl,rfl,HK6.out.grown kg (fun i h hi=>absurd hi (by have h2:R0=i:=Option.some.inj h;omega)),.inl ⟨rfl,World.ownsRow_nil _ _ _ _,hj2,HB6.out.row kg (by omega)⟩⟩
set_option maxRecDepth 100000 in
set_option maxHeartbeats 8000000 in
theorem rleaf8_any (w0:World) (g i:Nat) (sv nv:Value) (key wh:Int) (S:ByteArray) (cs:List Col) (w:World) (hB:Blk w g 106 #[sv,.int .i64 key,.string S,.int .i64 i,nv,.int .i64 0,.int .i64 wh])
  (hi:i≤S.size) (hS:S.size≤65536) (hcs:Sl w0 4 sv cs.length (cols cs)) (hE:Env w0) (hb0:Below w0.heap.size w0 w) (hg:w0.heap.size≤g) (hcl:cs.length≤1000) :
  Calls Tryz.prog 87 #[.pointer (some ⟨g,0,none⟩),.int .i64 8] w (RetRLeaf w g sv nv key wh S (leafR cs S.data.toList 8 i)):=by
 obtain ⟨W0,hW0⟩:∃ W0,W0=w.alloc (.cells #[.int .i64 0,.int .i64 0,.bool false,.int .i64 0,.string { data:=#[] },.slice none 0 0,.int .i64 0,.int .i64 0] 66):=⟨_,rfl⟩
 have hbw:Below w.heap.size w W0:=by rw[hW0];exact below_new _ _
 obtain ⟨R0,hR0⟩:∃ R0,w.heap.size=R0:=⟨_,rfl⟩
 have HR0:=Lib.hid (show Blk W0 R0 66 #[.int .i64 0,.int .i64 0,.bool false,.int .i64 0,.string { data:=#[] },.slice none 0 0,.int .i64 0,.int .i64 0] by rw[hW0,←hR0];exact Blk.new _ _ _);have hgR:g<R0:=by rw[←hR0];exact hB.lt
 have HK0:=Lib.hid (Kp.below (S:=fun i=>i=g) Kp.refl hbw);have HNX:=Lib.hid (rnext_any g i sv nv key wh S W0 (hB.below hbw hB.lt) hi hS);have HBE:=Lib.hid (show Below w0.heap.size w0 W0 from hb0.trans (hbw.mono hb0.size));obtain ⟨k,hk⟩:∃ k,sk S.data.toList i=k:=⟨_,rfl⟩
 obtain ⟨T,hT⟩:∃ T,wd S.data.toList k=T:=⟨_,rfl⟩
 obtain ⟨m,hm⟩:∃ m,we S.data.toList k=m:=⟨_,rfl⟩
 have hkS:k≤S.size:=by rw[←hk,←size_data];exact sk_le (by rw[size_data];exact hi)
 have hmS:m≤S.size:=by rw[←hm,←size_data];exact we_le (by rw[size_data];exact hkS)
 have H1:=Lib.hid (col_err (cs:=cs) (T:=S.data.toList) (i:=i));have H2:=Lib.hid (col_name (cs:=cs) (T:=S.data.toList) (i:=i));have H3:=Lib.hid (col_ok (cs:=cs) (T:=S.data.toList) (i:=i));rw[hk,hT,hm]at HNX;rw[hk,hT]at H1 H2 H3;rw[hm]at H3;have HB0:=Lib.hid hb0;clear hk hT hm hbw hb0 hB hi;have HCS:=Lib.hid hcs;have HE:=Lib.hid hE;obtain ⟨AS,cS,rfl,_,_⟩:=hcs.form;clear hcs hE;go_enter Tryz.func87,Tryz.ntmps87
 go_upto_region 1 with (fail)
 rw[←hW0];try simp only[hR0]
 clear hW0;go_wp2_with fail
 refine HNX.out.mono ?_;rintro _ w1 ⟨W,hW,rfl,ho,hBe,hBn⟩;have HK1:=Lib.hid (HK0.out.only ho (.inl rfl));have HR1:=Lib.hid (HR0.out.row ho (by omega));have HBE1:=Lib.hid (below_only HBE.out ho hg HBE.out.size);have hWT:W=⟨T.toArray⟩:=by cases W;cases hW;rfl
 have HF:=Lib.hid (rfind_any _ cs key W w1 (HCS.out.below HBE1.out) (by omega));obtain ⟨z,hz⟩:∃ z,findC cs W=z:=⟨_,rfl⟩
 rw[hz]at HF;have H2':=Lib.hid H2.out;have H3':=Lib.hid H3.out;rw[←hWT,hz]at H2' H3';have HCF:=Lib.hid (show ¬ z<0→∃ c,cs[z.toNat]?=some c from fun h=>by rw[←hz]at h ⊢;exact findC_some h);clear ho HNX HR0 HK0 HBE hW hWT hz H2 H3;by_cases hTe:T=[]
 ·have HB1:=Lib.hid (hBe hTe);have c0:=(hBe hTe).cell 0;have c1:=(hBe hTe).cell 1;simp only[jA,jZ,jS]at c0 c1;have HQ:=Lib.hid (lf_e (op:=8) (H1.out hTe));clear hBe hBn H1 H2' H3' hTe HCF;go_wp2_with fail
  refine HF.out.mono ?_;rintro _ w2 ⟨rfl,hb2⟩;have HB2:=Lib.hid (HB1.out.below hb2 HB1.out.lt);have HR2:=Lib.hid (HR1.out.below hb2 HR1.out.lt);have HK2:=Lib.hid (HK1.out.below hb2);clear hb2 HF c0 c1 HB1 HR1 HK1;obtain ⟨N,hN⟩:∃ N,w2.heap.size=N:=⟨_,rfl⟩
  obtain ⟨X,hX⟩:∃ X,X=w2.alloc (.cells #[.int .i64 8,.int .i64 z,.bool false,.int .i64 0,.string { data:=#[] },.slice none 0 0,.int .i64 0,.int .i64 0] 66):=⟨_,rfl⟩
  have HNX:=Lib.hid (show Blk X N 66 #[.int .i64 8,.int .i64 z,.bool false,.int .i64 0,.string { data:=#[] },.slice none 0 0,.int .i64 0,.int .i64 0] by rw[hX,←hN];exact Blk.new _ _ _);have HBX:=Lib.hid (show Blk X g 106 #[.slice AS cs.length cS,.int .i64 key,.string S,.int .i64 m,nv,.int .i64 2,.int .i64 k] by rw[hX];exact HB2.out.alloc _);have HRX:=Lib.hid (show Blk X R0 66 #[.int .i64 0,.int .i64 0,.bool false,.int .i64 0,.string { data:=#[] },.slice none 0 0,.int .i64 0,.int .i64 0] by rw[hX];exact HR2.out.alloc _);have HKX:=Lib.hid (show Kp (fun i=>i=g) w X by rw[hX];exact HK2.out.alloc _);go_upto_region 3 with (fail)
  rw[←hX];try simp only[hN]
  clear hX hN HB2 HR2 HK2;have c5:=HBX.out.cell 5;simp only[jA,jZ,jS]at c5

  have bb:=HNX.out;have n0:=bb.cell 0;have n1:=bb.cell 1;have n2:=bb.cell 2;have n3:=bb.cell 3;have n4:=bb.cell 4;have n5:=bb.cell 5;have n6:=bb.cell 6;have n7:=bb.cell 7;simp only[jA,jZ,jS]at n0 n1 n2 n3 n4 n5 n6 n7;clear bb;have bb:=HRX.out;have r0:=bb.cell 0;have r1:=bb.cell 1;have r2:=bb.cell 2;have r3:=bb.cell 3;have r4:=bb.cell 4;have r5:=bb.cell 5;have r6:=bb.cell 6;have r7:=bb.cell 7;have f0:=bb.frozen 0;have f1:=bb.frozen 1;have f2:=bb.frozen 2;have f3:=bb.frozen 3;have f4:=bb.frozen 4;have f5:=bb.frozen 5;have f6:=bb.frozen 6;have f7:=bb.frozen 7;simp only[jA,jZ,jS]at r0 r1 r2 r3 r4 r5 r6 r7;have hlt:=bb.lt;clear bb;go_wp2;have kb:=bset8 HRX.out (.int .i64 8) (.int .i64 z) (.bool false) (.int .i64 0) (.string { data:=#[] }) (.slice none 0 0) (.int .i64 0) (.int .i64 0) rfl;have kg:=grownN8 X R0 (.int .i64 8) (.int .i64 z) (.bool false) (.int .i64 0) (.string { data:=#[] }) (.slice none 0 0) (.int .i64 0) (.int .i64 0);have z0:=kb.cell 0;have z1:=kb.cell 1;have z2:=kb.cell 2;have z3:=kb.cell 3;have z4:=kb.cell 4;have z5:=kb.cell 5;have z6:=kb.cell 6;have z7:=kb.cell 7;simp only[jA,jZ,jS]at z0 z1 z2 z3 z4 z5 z6 z7;rw[HQ.out];exact bodyPost_ret (v:=.agg #[.int .i64 8,.int .i64 z,.bool false,.int .i64 0,.string { data:=#[] },.slice none 0 0,.int .i64 0,.int .i64 0]) (by simp[results,Tryz.results87,go_sem,z0,z1,z2,z3,z4,z5,z6,z7]) rfl
   ⟨⟨8,z,v0,[],0,0⟩,none,0,0,_,rfl,rfl,HKX.out.grown kg (fun i h hi=>absurd hi (by have h2:R0=i:=Option.some.inj h;omega)),by decide,m,hmS,HBX.out.row kg (by omega)⟩
 ·have HB1:=Lib.hid (hBn hTe);have c0:=(hBn hTe).cell 0;have c1:=(hBn hTe).cell 1;simp only[jA,jZ,jS]at c0 c1;have H2'':=Lib.hid (H2'.out hTe);have H3'':=Lib.hid (H3'.out hTe);clear hBe hBn H1 H2' H3' hTe;go_wp2_with fail
  refine HF.out.mono ?_;rintro _ w2 ⟨rfl,hb2⟩;have HB2:=Lib.hid (HB1.out.below hb2 HB1.out.lt);have HR2:=Lib.hid (HR1.out.below hb2 HR1.out.lt);have HK2:=Lib.hid (HK1.out.below hb2);have HBE2:=Lib.hid (HBE1.out.trans (hb2.mono HBE1.out.size));clear hb2 HF c0 c1 HB1 HR1 HK1 HBE1;obtain ⟨N,hN⟩:∃ N,w2.heap.size=N:=⟨_,rfl⟩
  obtain ⟨X,hX⟩:∃ X,X=w2.alloc (.cells #[.int .i64 8,.int .i64 z,.bool false,.int .i64 0,.string { data:=#[] },.slice none 0 0,.int .i64 0,.int .i64 0] 66):=⟨_,rfl⟩
  have HNX:=Lib.hid (show Blk X N 66 #[.int .i64 8,.int .i64 z,.bool false,.int .i64 0,.string { data:=#[] },.slice none 0 0,.int .i64 0,.int .i64 0] by rw[hX,←hN];exact Blk.new _ _ _);have HBX:=Lib.hid (show Blk X g 106 #[.slice AS cs.length cS,.int .i64 key,.string S,.int .i64 m,nv,.int .i64 0,.int .i64 wh] by rw[hX];exact HB2.out.alloc _);have HRX:=Lib.hid (show Blk X R0 66 #[.int .i64 0,.int .i64 0,.bool false,.int .i64 0,.string { data:=#[] },.slice none 0 0,.int .i64 0,.int .i64 0] by rw[hX];exact HR2.out.alloc _);have HKX:=Lib.hid (show Kp (fun i=>i=g) w X by rw[hX];exact HK2.out.alloc _);have HBEX:=Lib.hid (show Below w0.heap.size w0 X by rw[hX];exact HBE2.out.trans ((below_new _ _).mono HBE2.out.size));have hRN:R0<N:=by rw[←hN];exact HR2.out.lt
  go_upto_region 3 with (fail)
  rw[←hX];try simp only[hN]
  clear hX hN HB2 HR2 HK2 HBE2;have c5:=HBX.out.cell 5;have n1:=HNX.out.cell 1;simp only[jA,jZ,jS]at c5 n1;by_cases hz0:z<0
  ·have q1:decide (z<0)=true:=by simpa using hz0
   have HQ:=Lib.hid (lf_e (op:=8) (H2''.out hz0));clear H2'' H3'' hz0 HCF;go_wp2_with fail
   refine (rfail_first g m _ nv key wh _ _ S X HBX.out).mono ?_;rintro _ Y ⟨rfl,hB,ho⟩;have HBY:=Lib.hid hB;have HNY:=Lib.hid (HNX.out.row ho (by omega));have HRY:=Lib.hid (HRX.out.row ho (by omega));have HKY:=Lib.hid (HKX.out.only ho (.inl rfl));clear hB ho HBX HNX HRX HKX c5 n1;have c5:=HBY.out.cell 5;simp only[jA,jZ,jS]at c5

   have bb:=HNY.out;have n0:=bb.cell 0;have n1:=bb.cell 1;have n2:=bb.cell 2;have n3:=bb.cell 3;have n4:=bb.cell 4;have n5:=bb.cell 5;have n6:=bb.cell 6;have n7:=bb.cell 7;simp only[jA,jZ,jS]at n0 n1 n2 n3 n4 n5 n6 n7;clear bb;have bb:=HRY.out;have r0:=bb.cell 0;have r1:=bb.cell 1;have r2:=bb.cell 2;have r3:=bb.cell 3;have r4:=bb.cell 4;have r5:=bb.cell 5;have r6:=bb.cell 6;have r7:=bb.cell 7;have f0:=bb.frozen 0;have f1:=bb.frozen 1;have f2:=bb.frozen 2;have f3:=bb.frozen 3;have f4:=bb.frozen 4;have f5:=bb.frozen 5;have f6:=bb.frozen 6;have f7:=bb.frozen 7;simp only[jA,jZ,jS]at r0 r1 r2 r3 r4 r5 r6 r7;have hlt:=bb.lt;clear bb;go_wp2;have kb:=bset8 HRY.out (.int .i64 8) (.int .i64 z) (.bool false) (.int .i64 0) (.string { data:=#[] }) (.slice none 0 0) (.int .i64 0) (.int .i64 0) rfl;have kg:=grownN8 Y R0 (.int .i64 8) (.int .i64 z) (.bool false) (.int .i64 0) (.string { data:=#[] }) (.slice none 0 0) (.int .i64 0) (.int .i64 0);have z0:=kb.cell 0;have z1:=kb.cell 1;have z2:=kb.cell 2;have z3:=kb.cell 3;have z4:=kb.cell 4;have z5:=kb.cell 5;have z6:=kb.cell 6;have z7:=kb.cell 7;simp only[jA,jZ,jS]at z0 z1 z2 z3 z4 z5 z6 z7;rw[HQ.out];exact bodyPost_ret (v:=.agg #[.int .i64 8,.int .i64 z,.bool false,.int .i64 0,.string { data:=#[] },.slice none 0 0,.int .i64 0,.int .i64 0]) (by simp[results,Tryz.results87,go_sem,z0,z1,z2,z3,z4,z5,z6,z7]) rfl
    ⟨⟨8,z,v0,[],0,0⟩,none,0,0,_,rfl,rfl,HKY.out.grown kg (fun i h hi=>absurd hi (by have h2:R0=i:=Option.some.inj h;omega)),by decide,m,hmS,HBY.out.row kg (by omega)⟩
  ·have q1:decide (z<0)=false:=by simpa using hz0
   obtain ⟨K,rfl⟩:∃ K:Nat,z=(K:Int):=⟨z.toNat,by omega⟩
   obtain ⟨c,hc⟩:=HCF.out (by omega);rw[Int.toNat_natCast]at hc;have HCP:=Lib.hid (H3''.out (by omega));rw[Int.toNat_natCast]at HCP;have HCC:=Lib.hid hc;have hkc:K<cs.length:=(List.getElem?_eq_some_iff.1 hc).1;have qK:decide (K<cs.length)=true:=decide_eq_true hkc;have pK:((K:Int)<(cs.length:Int))=True:=eq_true (by omega);obtain ⟨ad,c',pc,rfl,hc',hpc,hCA⟩:=(HCS.out.below HBEX.out).col_load rfl hkc;rw[hc]at hc';injection hc' with hc'
   subst hc';have HCA:=Lib.hid hCA;clear H2'' H3'' hz0 HCF hc hCA HCS c5 n1;have c5:=HBX.out.cell 5;have n1:=HNX.out.cell 1;simp only[jA,jZ,jS]at c5 n1;go_upto_region 7 with (fail)
   refine wp_region_inv (by kernel_rfl) (by kernel_rfl) (fun L a w'=>∃ u41 u42 u43 u44 u45 u46 u47 u48 u49 u8:Value,a=⟨#[.pointer (some ⟨g,0,none⟩),.int .i64 8,undef,undef,.pointer (some ⟨R0,0,none⟩),.string W,.int .i64 k,.pointer (some ⟨N,0,none⟩),u8,.tuple #[.string W,.int .i64 k],.pointer (some ⟨g,0,none⟩),.tuple #[.string W,.int .i64 k],.string W,.int .i64 k,.int .i64 8,.pointer (some ⟨g,0,none⟩),.pointer (some ⟨g,0,none⟩),.pointer (some ⟨g,0,none⟩),.agg #[.slice (some ad) cs.length cS,.int .i64 key],.string W,.int .i64 K,.agg #[.int .i64 8,.int .i64 K,.bool false,.int .i64 0,.string { data:=#[] },.slice none 0 0,.int .i64 0,.int .i64 0],.pointer (some ⟨g,0,none⟩),.pointer (some ⟨g,0,none⟩),.pointer (some ⟨g,5,none⟩),.int .i64 0,.bool true,.bool true,.pointer (some ⟨N,1,none⟩),.int .i64 K,.bool false,.bool false,undef,undef,undef,.pointer (some ⟨g,0,none⟩),.pointer (some ⟨g,0,none⟩),.pointer (some ⟨g,5,none⟩),.int .i64 0,.bool false,undef,u41,u42,u43,u44,u45,u46,u47,u48,u49,undef,undef,undef,undef,undef,undef,undef,undef,undef,undef,undef,undef,undef,undef,undef,undef,undef,undef,undef,undef,undef,undef,undef,undef,undef,undef,undef,undef,undef,undef,undef,undef,undef,undef,undef,undef,undef,undef,undef,undef,undef,undef,undef,undef,undef,undef,undef,undef,undef,undef,undef,undef,undef,undef,undef,undef,undef,undef,undef,undef,undef,undef,undef,undef,undef,undef,undef,undef,undef,undef,undef,undef,undef,undef,undef,undef,undef,undef,undef,undef,undef,undef,undef,undef,undef,undef,undef,undef,undef,undef,undef],[]⟩ ∧
     Below X.heap.size X w'∧Got (L 0) u41 (.pointer (some ⟨g,0,none⟩))∧Got (L 1) u42 (.pointer (some ⟨g,0,none⟩))∧Got (L 2) u43 (.pointer (some ⟨g,0,none⟩))∧Got (L 3) u44 (.pointer (some ⟨g,0,none⟩))∧Got (L 4) u45 (.slice (some ad) cs.length cS)∧Got (L 5) u46 (.pointer (some ⟨N,1,none⟩))∧Got (L 6) u47 (.int .i64 (K:Int))∧Got (L 7) u48 (.pointer (some pc))∧Got (L 8) u49 (.agg #[.string c.nm,.int .i64 c.ty,.int .i64 c.sc,.bool c.nu])∧(L 9=true→∃ A,u8=.pointer (some ⟨A,0,none⟩)∧X.heap.size≤A∧(L 10=false→Blk w' A 56 #[.string { data:=#[] },.int .i64 0,.int .i64 0,.bool false])∧(L 10=true→Blk w' A 56 #[.string c.nm,.int .i64 c.ty,.int .i64 c.sc,.bool c.nu]))∧(L 10=true→L 9=true))
    ?_ ?_ ?_
   ·exact ⟨_,_,_,_,_,_,_,_,_,_,rfl,(Below.refl _ _).drew,nofun,nofun,nofun,nofun,nofun,nofun,nofun,nofun,nofun,nofun,nofun⟩
   ·refine ⟨?_,?_,?_,?_,?_,?_,?_,?_,?_,?_,?_,trivial⟩
    ·refine fun L a w'=>ex8 fun _ _ _ _ _ _ _ _=>ex2 fun _ _=>un8 fun ha hb g0 g1 g2 g3 g4 g5=>un4 fun g6 g7 g8 g9 g10 hl hd K hK=>?_;subst ha
     dsimp only at hK ⊢;go_simp;exact hK _ _ ⟨_,_,_,_,_,_,_,_,_,_,rfl,hb,fun _=>rfl,g1,g2,g3,g4,g5,g6,g7,g8,g9,g10⟩
    ·refine fun L a w'=>ex8 fun _ _ _ _ _ _ _ _=>ex2 fun _ _=>un8 fun ha hb g0 g1 g2 g3 g4 g5=>un4 fun g6 g7 g8 g9 g10 hl hd K hK=>?_;subst ha
     simp[Region.binds]at hd;dsimp only at hK ⊢;have e0:=g0 (by simp[hd]);subst e0;go_simp;exact hK _ _ ⟨_,_,_,_,_,_,_,_,_,_,rfl,hb,g0,fun _=>rfl,g2,g3,g4,g5,g6,g7,g8,g9,g10⟩
    ·refine fun L a w'=>ex8 fun _ _ _ _ _ _ _ _=>ex2 fun _ _=>un8 fun ha hb g0 g1 g2 g3 g4 g5=>un4 fun g6 g7 g8 g9 g10 hl hd K hK=>?_;subst ha
     simp[Region.binds]at hd;dsimp only at hK ⊢;have e1:=g1 (by simp[hd]);subst e1;go_simp;exact hK _ _ ⟨_,_,_,_,_,_,_,_,_,_,rfl,hb,g0,g1,fun _=>rfl,g3,g4,g5,g6,g7,g8,g9,g10⟩
    ·refine fun L a w'=>ex8 fun _ _ _ _ _ _ _ _=>ex2 fun _ _=>un8 fun ha hb g0 g1 g2 g3 g4 g5=>un4 fun g6 g7 g8 g9 g10 hl hd K hK=>?_;subst ha
     simp[Region.binds]at hd;dsimp only at hK ⊢;have e2:=g2 (by simp[hd]);subst e2;go_simp;exact hK _ _ ⟨_,_,_,_,_,_,_,_,_,_,rfl,hb,g0,g1,g2,fun _=>rfl,g4,g5,g6,g7,g8,g9,g10⟩
    ·refine fun L a w'=>ex8 fun _ _ _ _ _ _ _ _=>ex2 fun _ _=>un8 fun ha hb g0 g1 g2 g3 g4 g5=>un4 fun g6 g7 g8 g9 g10 hl hd K hK=>?_;subst ha
     simp[Region.binds]at hd;dsimp only at hK ⊢;have e3:=g3 (by simp[hd]);subst e3;have bb:=HBX.out.below hb HBX.out.lt;have c0:=bb.cell 0;simp only[jA,jZ]at c0;clear bb;go_simp;exact hK _ _ ⟨_,_,_,_,_,_,_,_,_,_,rfl,hb,g0,g1,g2,g3,fun _=>rfl,g5,g6,g7,g8,g9,g10⟩
    ·refine fun L a w'=>ex8 fun _ _ _ _ _ _ _ _=>ex2 fun _ _=>un8 fun ha hb g0 g1 g2 g3 g4 g5=>un4 fun g6 g7 g8 g9 g10 hl hd K hK=>?_;subst ha
     dsimp only at hK ⊢;go_simp;exact hK _ _ ⟨_,_,_,_,_,_,_,_,_,_,rfl,hb,g0,g1,g2,g3,g4,fun _=>rfl,g6,g7,g8,g9,g10⟩
    ·refine fun L a w'=>ex8 fun _ _ _ _ _ _ _ _=>ex2 fun _ _=>un8 fun ha hb g0 g1 g2 g3 g4 g5=>un4 fun g6 g7 g8 g9 g10 hl hd K hK=>?_;subst ha
     simp[Region.binds]at hd;dsimp only at hK ⊢;have e5:=g5 (by simp[hd]);subst e5;have bb:=HNX.out.below hb HNX.out.lt;have c0:=bb.cell 0;have c1:=bb.cell 1;simp only[jA,jZ,jS]at c0 c1;clear bb;go_simp;exact hK _ _ ⟨_,_,_,_,_,_,_,_,_,_,rfl,hb,g0,g1,g2,g3,g4,g5,fun _=>rfl,g7,g8,g9,g10⟩
    ·refine fun L a w'=>ex8 fun _ _ _ _ _ _ _ _=>ex2 fun _ _=>un8 fun ha hb g0 g1 g2 g3 g4 g5=>un4 fun g6 g7 g8 g9 g10 hl hd K hK=>?_;subst ha
     simp[Region.binds]at hd;dsimp only at hK ⊢;have e4:=g4 (by simp[hd]);subst e4;have e6:=g6 (by simp[hd]);subst e6;go_simp;exact hK _ _ ⟨_,_,_,_,_,_,_,_,_,_,rfl,hb,g0,g1,g2,g3,g4,g5,g6,fun _=>rfl,g8,g9,g10⟩
    ·refine fun L a w'=>ex8 fun _ _ _ _ _ _ _ _=>ex2 fun _ _=>un8 fun ha hb g0 g1 g2 g3 g4 g5=>un4 fun g6 g7 g8 g9 g10 hl hd K hK=>?_;subst ha
     simp[Region.binds]at hd;dsimp only at hK ⊢;have e7:=g7 (by simp[hd]);subst e7;have hca:=HCA.out.below hb;have k0:=hca.c0;have k1:=hca.c1;have k2:=hca.c2;have k3:=hca.c3;clear hca;go_simp;exact hK _ _ ⟨_,_,_,_,_,_,_,_,_,_,rfl,hb,g0,g1,g2,g3,g4,g5,g6,g7,fun _=>rfl,g9,g10⟩
    ·refine fun L a w'=>ex8 fun _ _ _ _ _ _ _ _=>ex2 fun _ _=>un8 fun ha hb g0 g1 g2 g3 g4 g5=>un4 fun g6 g7 g8 g9 g10 hl hd K hK=>?_;subst ha
     dsimp only at hK ⊢;go_simp;exact hK _ _ ⟨_,_,_,_,_,_,_,_,_,_,rfl,hb.alloc hb.size _,g0,g1,g2,g3,g4,g5,g6,g7,g8,fun _=>⟨_,rfl,hb.size,fun _=>Blk.new _ _ _,fun h=>by have:=g10 h;rw[hl]at this;cases this⟩,fun _=>rfl⟩
    ·refine fun L a w'=>ex8 fun _ _ _ _ _ _ _ _=>ex2 fun _ _=>un8 fun ha hb g0 g1 g2 g3 g4 g5=>un4 fun g6 g7 g8 g9 g10 hl hd K hK=>?_;subst ha
     simp[Region.binds]at hd;dsimp only at hK ⊢;have e8:=g8 (by simp[hd]);subst e8;have h9:L 9=true:=by simp[hd]
     obtain ⟨A,hA,hA1,hA2,hA3⟩:=g9 h9;subst hA;have bb:=hA2 hl;have z0:=bb.cell 0;have z1:=bb.cell 1;have z2:=bb.cell 2;have z3:=bb.cell 3;have y0:=bb.frozen 0;have y1:=bb.frozen 1;have y2:=bb.frozen 2;have y3:=bb.frozen 3;simp only[jA,jZ,jS]at z0 z1 z2 z3;have hlt:=bb.lt;go_simp;have kb:=(((bb.set_ 0 (.string c.nm)).set_ 1 (.int .i64 c.ty)).set_ 2 (.int .i64 c.sc)).set_ 3 (.bool c.nu);simp only[jI,jY,jT]at kb;exact hK _ _ ⟨_,_,_,_,_,_,_,_,_,_,rfl,bset (bset (bset (bset hb hA1 _) hA1 _) hA1 _) hA1 _,g0,g1,g2,g3,g4,g5,g6,g7,g8,fun _=>⟨A,rfl,hA1,nofun,fun _=>kb⟩,fun _=>h9⟩
   intro a w3 hI
   revert hI;refine ex8 fun _ _ _ _ _ _ _ _=>ex2 fun _ _=>un8 fun ha hb g0 g1 g2 g3 g4 g5=>un4 fun g6 g7 g8 g9 g10=>?_;subst ha
   obtain ⟨C,hC,hC1,_,hC3⟩:=g9 rfl;subst hC;have HC3:=Lib.hid (hC3 rfl);have HB3:=Lib.hid (HBX.out.below hb HBX.out.lt);have HN3:=Lib.hid (HNX.out.below hb HNX.out.lt);have HR3:=Lib.hid (HRX.out.below hb HRX.out.lt);have HK3:=Lib.hid (HKX.out.below hb);have HBE3:=Lib.hid (HBEX.out.trans (hb.mono HBEX.out.size));have hNC:N<C:=by have:=HNX.out.lt;omega
   clear g0 g1 g2 g3 g4 g5 g6 g7 g8 g9 g10 hb hC1 hC3 HBX HNX HRX HKX HBEX c5 n1;have c5:=HB3.out.cell 5;simp only[jA,jZ,jS]at c5;go_wp2_with fail
   refine (rcomp_any 8 w3 (b:=false) (by decide) (by decide)).mono ?_;rintro _ _ ⟨rfl,rfl⟩;have HQ:=Lib.hid (lf_8 HCP.out);go_wp2_with fail
   go_loopg [] 0 (fun q wr=>q=0∧wr=w3)
   case atStart=>exact ⟨rfl,rfl⟩
   case round =>
    obtain ⟨rfl,rfl⟩:=hrel;have bb:=HN3.out;have n0:=bb.cell 0;have n1:=bb.cell 1;have n2:=bb.cell 2;have n3:=bb.cell 3;have n4:=bb.cell 4;have n5:=bb.cell 5;have n6:=bb.cell 6;have n7:=bb.cell 7;simp only[jA,jZ,jS]at n0 n1 n2 n3 n4 n5 n6 n7;clear bb;have bb:=HR3.out;have r0:=bb.cell 0;have r1:=bb.cell 1;have r2:=bb.cell 2;have r3:=bb.cell 3;have r4:=bb.cell 4;have r5:=bb.cell 5;have r6:=bb.cell 6;have r7:=bb.cell 7;have f0:=bb.frozen 0;have f1:=bb.frozen 1;have f2:=bb.frozen 2;have f3:=bb.frozen 3;have f4:=bb.frozen 4;have f5:=bb.frozen 5;have f6:=bb.frozen 6;have f7:=bb.frozen 7;simp only[jA,jZ,jS]at r0 r1 r2 r3 r4 r5 r6 r7;have hlt:=bb.lt;clear bb;go_wp2;have kb:=bset8 HR3.out (.int .i64 8) (.int .i64 (K:Int)) (.bool false) (.int .i64 0) (.string { data:=#[] }) (.slice none 0 0) (.int .i64 0) (.int .i64 0) rfl;have kg:=grownN8 wr R0 (.int .i64 8) (.int .i64 (K:Int)) (.bool false) (.int .i64 0) (.string { data:=#[] }) (.slice none 0 0) (.int .i64 0) (.int .i64 0);have z0:=kb.cell 0;have z1:=kb.cell 1;have z2:=kb.cell 2;have z3:=kb.cell 3;have z4:=kb.cell 4;have z5:=kb.cell 5;have z6:=kb.cell 6;have z7:=kb.cell 7;simp only[jA,jZ,jS]at z0 z1 z2 z3 z4 z5 z6 z7;rw[HQ.out];exact bodyPost_ret (v:=.agg #[.int .i64 8,.int .i64 (K:Int),.bool false,.int .i64 0,.string { data:=#[] },.slice none 0 0,.int .i64 0,.int .i64 0]) (by simp[results,Tryz.results87,go_sem,z0,z1,z2,z3,z4,z5,z6,z7]) rfl
     ⟨⟨8,K,v0,[],0,0⟩,none,0,0,_,rfl,rfl,HK3.out.grown kg (fun i h hi=>absurd hi (by have h2:R0=i:=Option.some.inj h;omega)),.inl ⟨rfl,World.ownsRow_nil _ _ _ _,hmS,HB3.out.row kg (by omega)⟩⟩
set_option maxRecDepth 100000 in
set_option maxHeartbeats 8000000 in
theorem rleaf7_any (w0:World) (g i:Nat) (sv nv:Value) (key wh:Int) (S:ByteArray) (cs:List Col) (w:World) (hB:Blk w g 106 #[sv,.int .i64 key,.string S,.int .i64 i,nv,.int .i64 0,.int .i64 wh])
  (hi:i≤S.size) (hS:S.size≤65536) (hcs:Sl w0 4 sv cs.length (cols cs)) (hE:Env w0) (hb0:Below w0.heap.size w0 w) (hg:w0.heap.size≤g) (hcl:cs.length≤1000) :
  Calls Tryz.prog 87 #[.pointer (some ⟨g,0,none⟩),.int .i64 7] w (RetRLeaf w g sv nv key wh S (leafR cs S.data.toList 7 i)):=by
 obtain ⟨W0,hW0⟩:∃ W0,W0=w.alloc (.cells #[.int .i64 0,.int .i64 0,.bool false,.int .i64 0,.string { data:=#[] },.slice none 0 0,.int .i64 0,.int .i64 0] 66):=⟨_,rfl⟩
 have hbw:Below w.heap.size w W0:=by rw[hW0];exact below_new _ _
 obtain ⟨R0,hR0⟩:∃ R0,w.heap.size=R0:=⟨_,rfl⟩
 have HR0:=Lib.hid (show Blk W0 R0 66 #[.int .i64 0,.int .i64 0,.bool false,.int .i64 0,.string { data:=#[] },.slice none 0 0,.int .i64 0,.int .i64 0] by rw[hW0,←hR0];exact Blk.new _ _ _);have hgR:g<R0:=by rw[←hR0];exact hB.lt
 have HK0:=Lib.hid (Kp.below (S:=fun i=>i=g) Kp.refl hbw);have HNX:=Lib.hid (rnext_any g i sv nv key wh S W0 (hB.below hbw hB.lt) hi hS);have HBE:=Lib.hid (show Below w0.heap.size w0 W0 from hb0.trans (hbw.mono hb0.size));obtain ⟨kq,hk⟩:∃ kq,sk S.data.toList i=kq:=⟨_,rfl⟩
 obtain ⟨T,hT⟩:∃ T,wd S.data.toList kq=T:=⟨_,rfl⟩
 obtain ⟨m,hm⟩:∃ m,we S.data.toList kq=m:=⟨_,rfl⟩
 have hkS:kq≤S.size:=by rw[←hk,←size_data];exact sk_le (by rw[size_data];exact hi)
 have hmS:m≤S.size:=by rw[←hm,←size_data];exact we_le (by rw[size_data];exact hkS)
 have H1:=Lib.hid (col_err (cs:=cs) (T:=S.data.toList) (i:=i));have H2:=Lib.hid (col_name (cs:=cs) (T:=S.data.toList) (i:=i));have H3:=Lib.hid (col_ok (cs:=cs) (T:=S.data.toList) (i:=i));rw[hk,hT,hm]at HNX;rw[hk,hT]at H1 H2 H3;rw[hm]at H3;have HB0:=Lib.hid hb0;clear hk hT hm hbw hb0 hB hi;have HCS:=Lib.hid hcs;have HE:=Lib.hid hE;obtain ⟨AS,cS,rfl,_,_⟩:=hcs.form;clear hcs hE;go_enter Tryz.func87,Tryz.ntmps87
 go_upto_region 1 with (fail)
 rw[←hW0];try simp only[hR0]
 clear hW0;go_wp2_with fail
 refine HNX.out.mono ?_;rintro _ w1 ⟨W,hW,rfl,ho,hBe,hBn⟩;have HK1:=Lib.hid (HK0.out.only ho (.inl rfl));have HR1:=Lib.hid (HR0.out.row ho (by omega));have HBE1:=Lib.hid (below_only HBE.out ho hg HBE.out.size);have hWT:W=⟨T.toArray⟩:=by cases W;cases hW;rfl
 have HF:=Lib.hid (rfind_any _ cs key W w1 (HCS.out.below HBE1.out) (by omega));obtain ⟨z,hz⟩:∃ z,findC cs W=z:=⟨_,rfl⟩
 rw[hz]at HF;have H2':=Lib.hid H2.out;have H3':=Lib.hid H3.out;rw[←hWT,hz]at H2' H3';have HCF:=Lib.hid (show ¬ z<0→∃ c,cs[z.toNat]?=some c from fun h=>by rw[←hz]at h ⊢;exact findC_some h);clear ho HNX HR0 HK0 HBE hW hWT hz H2 H3;by_cases hTe:T=[]
 ·have HB1:=Lib.hid (hBe hTe);have c0:=(hBe hTe).cell 0;have c1:=(hBe hTe).cell 1;simp only[jA,jZ,jS]at c0 c1;have HQ:=Lib.hid (lf_e (op:=7) (H1.out hTe));clear hBe hBn H1 H2' H3' hTe HCF;go_wp2_with fail
  refine HF.out.mono ?_;rintro _ w2 ⟨rfl,hb2⟩;have HB2:=Lib.hid (HB1.out.below hb2 HB1.out.lt);have HR2:=Lib.hid (HR1.out.below hb2 HR1.out.lt);have HK2:=Lib.hid (HK1.out.below hb2);clear hb2 HF c0 c1 HB1 HR1 HK1;obtain ⟨N,hN⟩:∃ N,w2.heap.size=N:=⟨_,rfl⟩
  obtain ⟨X,hX⟩:∃ X,X=w2.alloc (.cells #[.int .i64 7,.int .i64 z,.bool false,.int .i64 0,.string { data:=#[] },.slice none 0 0,.int .i64 0,.int .i64 0] 66):=⟨_,rfl⟩
  have HNX:=Lib.hid (show Blk X N 66 #[.int .i64 7,.int .i64 z,.bool false,.int .i64 0,.string { data:=#[] },.slice none 0 0,.int .i64 0,.int .i64 0] by rw[hX,←hN];exact Blk.new _ _ _);have HBX:=Lib.hid (show Blk X g 106 #[.slice AS cs.length cS,.int .i64 key,.string S,.int .i64 m,nv,.int .i64 2,.int .i64 kq] by rw[hX];exact HB2.out.alloc _);have HRX:=Lib.hid (show Blk X R0 66 #[.int .i64 0,.int .i64 0,.bool false,.int .i64 0,.string { data:=#[] },.slice none 0 0,.int .i64 0,.int .i64 0] by rw[hX];exact HR2.out.alloc _);have HKX:=Lib.hid (show Kp (fun i=>i=g) w X by rw[hX];exact HK2.out.alloc _);go_upto_region 3 with (fail)
  rw[←hX];try simp only[hN]
  clear hX hN HB2 HR2 HK2;have c5:=HBX.out.cell 5;simp only[jA,jZ,jS]at c5

  have bb:=HNX.out;have n0:=bb.cell 0;have n1:=bb.cell 1;have n2:=bb.cell 2;have n3:=bb.cell 3;have n4:=bb.cell 4;have n5:=bb.cell 5;have n6:=bb.cell 6;have n7:=bb.cell 7;simp only[jA,jZ,jS]at n0 n1 n2 n3 n4 n5 n6 n7;clear bb;have bb:=HRX.out;have r0:=bb.cell 0;have r1:=bb.cell 1;have r2:=bb.cell 2;have r3:=bb.cell 3;have r4:=bb.cell 4;have r5:=bb.cell 5;have r6:=bb.cell 6;have r7:=bb.cell 7;have f0:=bb.frozen 0;have f1:=bb.frozen 1;have f2:=bb.frozen 2;have f3:=bb.frozen 3;have f4:=bb.frozen 4;have f5:=bb.frozen 5;have f6:=bb.frozen 6;have f7:=bb.frozen 7;simp only[jA,jZ,jS]at r0 r1 r2 r3 r4 r5 r6 r7;have hlt:=bb.lt;clear bb;go_wp2;have kb:=bset8 HRX.out (.int .i64 7) (.int .i64 z) (.bool false) (.int .i64 0) (.string { data:=#[] }) (.slice none 0 0) (.int .i64 0) (.int .i64 0) rfl;have kg:=grownN8 X R0 (.int .i64 7) (.int .i64 z) (.bool false) (.int .i64 0) (.string { data:=#[] }) (.slice none 0 0) (.int .i64 0) (.int .i64 0);have z0:=kb.cell 0;have z1:=kb.cell 1;have z2:=kb.cell 2;have z3:=kb.cell 3;have z4:=kb.cell 4;have z5:=kb.cell 5;have z6:=kb.cell 6;have z7:=kb.cell 7;simp only[jA,jZ,jS]at z0 z1 z2 z3 z4 z5 z6 z7;rw[HQ.out];exact bodyPost_ret (v:=.agg #[.int .i64 7,.int .i64 z,.bool false,.int .i64 0,.string { data:=#[] },.slice none 0 0,.int .i64 0,.int .i64 0]) (by simp[results,Tryz.results87,go_sem,z0,z1,z2,z3,z4,z5,z6,z7]) rfl
   ⟨⟨7,z,v0,[],0,0⟩,none,0,0,_,rfl,rfl,HKX.out.grown kg (fun i h hi=>absurd hi (by have h2:R0=i:=Option.some.inj h;omega)),by decide,m,hmS,HBX.out.row kg (by omega)⟩
 ·have HB1:=Lib.hid (hBn hTe);have c0:=(hBn hTe).cell 0;have c1:=(hBn hTe).cell 1;simp only[jA,jZ,jS]at c0 c1;have H2'':=Lib.hid (H2'.out hTe);have H3'':=Lib.hid (H3'.out hTe);clear hBe hBn H1 H2' H3' hTe;go_wp2_with fail
  refine HF.out.mono ?_;rintro _ w2 ⟨rfl,hb2⟩;have HB2:=Lib.hid (HB1.out.below hb2 HB1.out.lt);have HR2:=Lib.hid (HR1.out.below hb2 HR1.out.lt);have HK2:=Lib.hid (HK1.out.below hb2);have HBE2:=Lib.hid (HBE1.out.trans (hb2.mono HBE1.out.size));clear hb2 HF c0 c1 HB1 HR1 HK1 HBE1;obtain ⟨N,hN⟩:∃ N,w2.heap.size=N:=⟨_,rfl⟩
  obtain ⟨X,hX⟩:∃ X,X=w2.alloc (.cells #[.int .i64 7,.int .i64 z,.bool false,.int .i64 0,.string { data:=#[] },.slice none 0 0,.int .i64 0,.int .i64 0] 66):=⟨_,rfl⟩
  have HNX:=Lib.hid (show Blk X N 66 #[.int .i64 7,.int .i64 z,.bool false,.int .i64 0,.string { data:=#[] },.slice none 0 0,.int .i64 0,.int .i64 0] by rw[hX,←hN];exact Blk.new _ _ _);have HBX:=Lib.hid (show Blk X g 106 #[.slice AS cs.length cS,.int .i64 key,.string S,.int .i64 m,nv,.int .i64 0,.int .i64 wh] by rw[hX];exact HB2.out.alloc _);have HRX:=Lib.hid (show Blk X R0 66 #[.int .i64 0,.int .i64 0,.bool false,.int .i64 0,.string { data:=#[] },.slice none 0 0,.int .i64 0,.int .i64 0] by rw[hX];exact HR2.out.alloc _);have HKX:=Lib.hid (show Kp (fun i=>i=g) w X by rw[hX];exact HK2.out.alloc _);have HBEX:=Lib.hid (show Below w0.heap.size w0 X by rw[hX];exact HBE2.out.trans ((below_new _ _).mono HBE2.out.size));have hRN:R0<N:=by rw[←hN];exact HR2.out.lt
  go_upto_region 3 with (fail)
  rw[←hX];try simp only[hN]
  clear hX hN HB2 HR2 HK2 HBE2;have c5:=HBX.out.cell 5;have n1:=HNX.out.cell 1;simp only[jA,jZ,jS]at c5 n1;by_cases hz0:z<0
  ·have q1:decide (z<0)=true:=by simpa using hz0
   have HQ:=Lib.hid (lf_e (op:=7) (H2''.out hz0));clear H2'' H3'' hz0 HCF;go_wp2_with fail
   refine (rfail_first g m _ nv key wh _ _ S X HBX.out).mono ?_;rintro _ Y ⟨rfl,hB,ho⟩;have HBY:=Lib.hid hB;have HNY:=Lib.hid (HNX.out.row ho (by omega));have HRY:=Lib.hid (HRX.out.row ho (by omega));have HKY:=Lib.hid (HKX.out.only ho (.inl rfl));clear hB ho HBX HNX HRX HKX c5 n1;have c5:=HBY.out.cell 5;simp only[jA,jZ,jS]at c5

   have bb:=HNY.out;have n0:=bb.cell 0;have n1:=bb.cell 1;have n2:=bb.cell 2;have n3:=bb.cell 3;have n4:=bb.cell 4;have n5:=bb.cell 5;have n6:=bb.cell 6;have n7:=bb.cell 7;simp only[jA,jZ,jS]at n0 n1 n2 n3 n4 n5 n6 n7;clear bb;have bb:=HRY.out;have r0:=bb.cell 0;have r1:=bb.cell 1;have r2:=bb.cell 2;have r3:=bb.cell 3;have r4:=bb.cell 4;have r5:=bb.cell 5;have r6:=bb.cell 6;have r7:=bb.cell 7;have f0:=bb.frozen 0;have f1:=bb.frozen 1;have f2:=bb.frozen 2;have f3:=bb.frozen 3;have f4:=bb.frozen 4;have f5:=bb.frozen 5;have f6:=bb.frozen 6;have f7:=bb.frozen 7;simp only[jA,jZ,jS]at r0 r1 r2 r3 r4 r5 r6 r7;have hlt:=bb.lt;clear bb;go_wp2;have kb:=bset8 HRY.out (.int .i64 7) (.int .i64 z) (.bool false) (.int .i64 0) (.string { data:=#[] }) (.slice none 0 0) (.int .i64 0) (.int .i64 0) rfl;have kg:=grownN8 Y R0 (.int .i64 7) (.int .i64 z) (.bool false) (.int .i64 0) (.string { data:=#[] }) (.slice none 0 0) (.int .i64 0) (.int .i64 0);have z0:=kb.cell 0;have z1:=kb.cell 1;have z2:=kb.cell 2;have z3:=kb.cell 3;have z4:=kb.cell 4;have z5:=kb.cell 5;have z6:=kb.cell 6;have z7:=kb.cell 7;simp only[jA,jZ,jS]at z0 z1 z2 z3 z4 z5 z6 z7;rw[HQ.out];exact bodyPost_ret (v:=.agg #[.int .i64 7,.int .i64 z,.bool false,.int .i64 0,.string { data:=#[] },.slice none 0 0,.int .i64 0,.int .i64 0]) (by simp[results,Tryz.results87,go_sem,z0,z1,z2,z3,z4,z5,z6,z7]) rfl
    ⟨⟨7,z,v0,[],0,0⟩,none,0,0,_,rfl,rfl,HKY.out.grown kg (fun i h hi=>absurd hi (by have h2:R0=i:=Option.some.inj h;omega)),by decide,m,hmS,HBY.out.row kg (by omega)⟩
  ·have q1:decide (z<0)=false:=by simpa using hz0
   obtain ⟨K,rfl⟩:∃ K:Nat,z=(K:Int):=⟨z.toNat,by omega⟩
   obtain ⟨c,hc⟩:=HCF.out (by omega);rw[Int.toNat_natCast]at hc;have HCP:=Lib.hid (H3''.out (by omega));rw[Int.toNat_natCast]at HCP;have HCC:=Lib.hid hc;have hkc:K<cs.length:=(List.getElem?_eq_some_iff.1 hc).1;have qK:decide (K<cs.length)=true:=decide_eq_true hkc;have pK:((K:Int)<(cs.length:Int))=True:=eq_true (by omega);obtain ⟨ad,c',pc,rfl,hc',hpc,hCA⟩:=(HCS.out.below HBEX.out).col_load rfl hkc;rw[hc]at hc';injection hc' with hc'
   subst hc';have HCA:=Lib.hid hCA;clear H2'' H3'' hz0 HCF hc hCA HCS c5 n1;have c5:=HBX.out.cell 5;have n1:=HNX.out.cell 1;simp only[jA,jZ,jS]at c5 n1;go_upto_region 7 with (fail)
   refine wp_region_inv (by kernel_rfl) (by kernel_rfl) (fun L a w'=>∃ u41 u42 u43 u44 u45 u46 u47 u48 u49 u8:Value,a=⟨#[.pointer (some ⟨g,0,none⟩),.int .i64 7,undef,undef,.pointer (some ⟨R0,0,none⟩),.string W,.int .i64 kq,.pointer (some ⟨N,0,none⟩),u8,.tuple #[.string W,.int .i64 kq],.pointer (some ⟨g,0,none⟩),.tuple #[.string W,.int .i64 kq],.string W,.int .i64 kq,.int .i64 7,.pointer (some ⟨g,0,none⟩),.pointer (some ⟨g,0,none⟩),.pointer (some ⟨g,0,none⟩),.agg #[.slice (some ad) cs.length cS,.int .i64 key],.string W,.int .i64 K,.agg #[.int .i64 7,.int .i64 K,.bool false,.int .i64 0,.string { data:=#[] },.slice none 0 0,.int .i64 0,.int .i64 0],.pointer (some ⟨g,0,none⟩),.pointer (some ⟨g,0,none⟩),.pointer (some ⟨g,5,none⟩),.int .i64 0,.bool true,.bool true,.pointer (some ⟨N,1,none⟩),.int .i64 K,.bool false,.bool false,undef,undef,undef,.pointer (some ⟨g,0,none⟩),.pointer (some ⟨g,0,none⟩),.pointer (some ⟨g,5,none⟩),.int .i64 0,.bool false,undef,u41,u42,u43,u44,u45,u46,u47,u48,u49,undef,undef,undef,undef,undef,undef,undef,undef,undef,undef,undef,undef,undef,undef,undef,undef,undef,undef,undef,undef,undef,undef,undef,undef,undef,undef,undef,undef,undef,undef,undef,undef,undef,undef,undef,undef,undef,undef,undef,undef,undef,undef,undef,undef,undef,undef,undef,undef,undef,undef,undef,undef,undef,undef,undef,undef,undef,undef,undef,undef,undef,undef,undef,undef,undef,undef,undef,undef,undef,undef,undef,undef,undef,undef,undef,undef,undef,undef,undef,undef,undef,undef,undef,undef,undef,undef,undef,undef,undef,undef,undef],[]⟩ ∧
     Below X.heap.size X w'∧Got (L 0) u41 (.pointer (some ⟨g,0,none⟩))∧Got (L 1) u42 (.pointer (some ⟨g,0,none⟩))∧Got (L 2) u43 (.pointer (some ⟨g,0,none⟩))∧Got (L 3) u44 (.pointer (some ⟨g,0,none⟩))∧Got (L 4) u45 (.slice (some ad) cs.length cS)∧Got (L 5) u46 (.pointer (some ⟨N,1,none⟩))∧Got (L 6) u47 (.int .i64 (K:Int))∧Got (L 7) u48 (.pointer (some pc))∧Got (L 8) u49 (.agg #[.string c.nm,.int .i64 c.ty,.int .i64 c.sc,.bool c.nu])∧(L 9=true→∃ A,u8=.pointer (some ⟨A,0,none⟩)∧X.heap.size≤A∧(L 10=false→Blk w' A 56 #[.string { data:=#[] },.int .i64 0,.int .i64 0,.bool false])∧(L 10=true→Blk w' A 56 #[.string c.nm,.int .i64 c.ty,.int .i64 c.sc,.bool c.nu]))∧(L 10=true→L 9=true))
    ?_ ?_ ?_
   ·exact ⟨_,_,_,_,_,_,_,_,_,_,rfl,(Below.refl _ _).drew,nofun,nofun,nofun,nofun,nofun,nofun,nofun,nofun,nofun,nofun,nofun⟩
   ·refine ⟨?_,?_,?_,?_,?_,?_,?_,?_,?_,?_,?_,trivial⟩
    ·refine fun L a w'=>ex8 fun _ _ _ _ _ _ _ _=>ex2 fun _ _=>un8 fun ha hb g0 g1 g2 g3 g4 g5=>un4 fun g6 g7 g8 g9 g10 hl hd K hK=>?_;subst ha
     dsimp only at hK ⊢;go_simp;exact hK _ _ ⟨_,_,_,_,_,_,_,_,_,_,rfl,hb,fun _=>rfl,g1,g2,g3,g4,g5,g6,g7,g8,g9,g10⟩
    ·refine fun L a w'=>ex8 fun _ _ _ _ _ _ _ _=>ex2 fun _ _=>un8 fun ha hb g0 g1 g2 g3 g4 g5=>un4 fun g6 g7 g8 g9 g10 hl hd K hK=>?_;subst ha
     simp[Region.binds]at hd;dsimp only at hK ⊢;have e0:=g0 (by simp[hd]);subst e0;go_simp;exact hK _ _ ⟨_,_,_,_,_,_,_,_,_,_,rfl,hb,g0,fun _=>rfl,g2,g3,g4,g5,g6,g7,g8,g9,g10⟩
    ·refine fun L a w'=>ex8 fun _ _ _ _ _ _ _ _=>ex2 fun _ _=>un8 fun ha hb g0 g1 g2 g3 g4 g5=>un4 fun g6 g7 g8 g9 g10 hl hd K hK=>?_;subst ha
     simp[Region.binds]at hd;dsimp only at hK ⊢;have e1:=g1 (by simp[hd]);subst e1;go_simp;exact hK _ _ ⟨_,_,_,_,_,_,_,_,_,_,rfl,hb,g0,g1,fun _=>rfl,g3,g4,g5,g6,g7,g8,g9,g10⟩
    ·refine fun L a w'=>ex8 fun _ _ _ _ _ _ _ _=>ex2 fun _ _=>un8 fun ha hb g0 g1 g2 g3 g4 g5=>un4 fun g6 g7 g8 g9 g10 hl hd K hK=>?_;subst ha
     simp[Region.binds]at hd;dsimp only at hK ⊢;have e2:=g2 (by simp[hd]);subst e2;go_simp;exact hK _ _ ⟨_,_,_,_,_,_,_,_,_,_,rfl,hb,g0,g1,g2,fun _=>rfl,g4,g5,g6,g7,g8,g9,g10⟩
    ·refine fun L a w'=>ex8 fun _ _ _ _ _ _ _ _=>ex2 fun _ _=>un8 fun ha hb g0 g1 g2 g3 g4 g5=>un4 fun g6 g7 g8 g9 g10 hl hd K hK=>?_;subst ha
     simp[Region.binds]at hd;dsimp only at hK ⊢;have e3:=g3 (by simp[hd]);subst e3;have bb:=HBX.out.below hb HBX.out.lt;have c0:=bb.cell 0;simp only[jA,jZ]at c0;clear bb;go_simp;exact hK _ _ ⟨_,_,_,_,_,_,_,_,_,_,rfl,hb,g0,g1,g2,g3,fun _=>rfl,g5,g6,g7,g8,g9,g10⟩
    ·refine fun L a w'=>ex8 fun _ _ _ _ _ _ _ _=>ex2 fun _ _=>un8 fun ha hb g0 g1 g2 g3 g4 g5=>un4 fun g6 g7 g8 g9 g10 hl hd K hK=>?_;subst ha
     dsimp only at hK ⊢;go_simp;exact hK _ _ ⟨_,_,_,_,_,_,_,_,_,_,rfl,hb,g0,g1,g2,g3,g4,fun _=>rfl,g6,g7,g8,g9,g10⟩
    ·refine fun L a w'=>ex8 fun _ _ _ _ _ _ _ _=>ex2 fun _ _=>un8 fun ha hb g0 g1 g2 g3 g4 g5=>un4 fun g6 g7 g8 g9 g10 hl hd K hK=>?_;subst ha
     simp[Region.binds]at hd;dsimp only at hK ⊢;have e5:=g5 (by simp[hd]);subst e5;have bb:=HNX.out.below hb HNX.out.lt;have c0:=bb.cell 0;have c1:=bb.cell 1;simp only[jA,jZ,jS]at c0 c1;clear bb;go_simp;exact hK _ _ ⟨_,_,_,_,_,_,_,_,_,_,rfl,hb,g0,g1,g2,g3,g4,g5,fun _=>rfl,g7,g8,g9,g10⟩
    ·refine fun L a w'=>ex8 fun _ _ _ _ _ _ _ _=>ex2 fun _ _=>un8 fun ha hb g0 g1 g2 g3 g4 g5=>un4 fun g6 g7 g8 g9 g10 hl hd K hK=>?_;subst ha
     simp[Region.binds]at hd;dsimp only at hK ⊢;have e4:=g4 (by simp[hd]);subst e4;have e6:=g6 (by simp[hd]);subst e6;go_simp;exact hK _ _ ⟨_,_,_,_,_,_,_,_,_,_,rfl,hb,g0,g1,g2,g3,g4,g5,g6,fun _=>rfl,g8,g9,g10⟩
    ·refine fun L a w'=>ex8 fun _ _ _ _ _ _ _ _=>ex2 fun _ _=>un8 fun ha hb g0 g1 g2 g3 g4 g5=>un4 fun g6 g7 g8 g9 g10 hl hd K hK=>?_;subst ha
     simp[Region.binds]at hd;dsimp only at hK ⊢;have e7:=g7 (by simp[hd]);subst e7;have hca:=HCA.out.below hb;have k0:=hca.c0;have k1:=hca.c1;have k2:=hca.c2;have k3:=hca.c3;clear hca;go_simp;exact hK _ _ ⟨_,_,_,_,_,_,_,_,_,_,rfl,hb,g0,g1,g2,g3,g4,g5,g6,g7,fun _=>rfl,g9,g10⟩
    ·refine fun L a w'=>ex8 fun _ _ _ _ _ _ _ _=>ex2 fun _ _=>un8 fun ha hb g0 g1 g2 g3 g4 g5=>un4 fun g6 g7 g8 g9 g10 hl hd K hK=>?_;subst ha
     dsimp only at hK ⊢;go_simp;exact hK _ _ ⟨_,_,_,_,_,_,_,_,_,_,rfl,hb.alloc hb.size _,g0,g1,g2,g3,g4,g5,g6,g7,g8,fun _=>⟨_,rfl,hb.size,fun _=>Blk.new _ _ _,fun h=>by have:=g10 h;rw[hl]at this;cases this⟩,fun _=>rfl⟩
    ·refine fun L a w'=>ex8 fun _ _ _ _ _ _ _ _=>ex2 fun _ _=>un8 fun ha hb g0 g1 g2 g3 g4 g5=>un4 fun g6 g7 g8 g9 g10 hl hd K hK=>?_;subst ha
     simp[Region.binds]at hd;dsimp only at hK ⊢;have e8:=g8 (by simp[hd]);subst e8;have h9:L 9=true:=by simp[hd]
     obtain ⟨A,hA,hA1,hA2,hA3⟩:=g9 h9;subst hA;have bb:=hA2 hl;have z0:=bb.cell 0;have z1:=bb.cell 1;have z2:=bb.cell 2;have z3:=bb.cell 3;have y0:=bb.frozen 0;have y1:=bb.frozen 1;have y2:=bb.frozen 2;have y3:=bb.frozen 3;simp only[jA,jZ,jS]at z0 z1 z2 z3;have hlt:=bb.lt;go_simp;have kb:=(((bb.set_ 0 (.string c.nm)).set_ 1 (.int .i64 c.ty)).set_ 2 (.int .i64 c.sc)).set_ 3 (.bool c.nu);simp only[jI,jY,jT]at kb;exact hK _ _ ⟨_,_,_,_,_,_,_,_,_,_,rfl,bset (bset (bset (bset hb hA1 _) hA1 _) hA1 _) hA1 _,g0,g1,g2,g3,g4,g5,g6,g7,g8,fun _=>⟨A,rfl,hA1,nofun,fun _=>kb⟩,fun _=>h9⟩
   intro a w3 hI
   revert hI;refine ex8 fun u41 u42 u43 u44 u45 u46 u47 u48=>ex2 fun u49 _=>un8 fun ha hb g0 g1 g2 g3 g4 g5=>un4 fun g6 g7 g8 g9 g10=>?_;subst ha
   obtain ⟨C,hC,hC1,_,hC3⟩:=g9 rfl;subst hC;have HC3:=Lib.hid (hC3 rfl);have HB3:=Lib.hid (HBX.out.below hb HBX.out.lt);have HN3:=Lib.hid (HNX.out.below hb HNX.out.lt);have HR3:=Lib.hid (HRX.out.below hb HRX.out.lt);have HK3:=Lib.hid (HKX.out.below hb);have HBE3:=Lib.hid (HBEX.out.trans (hb.mono HBEX.out.size));have hNC:N<C:=by have:=HNX.out.lt;omega
   clear g0 g1 g2 g3 g4 g5 g6 g7 g8 g9 g10 hb hC1 hC3 HBX HNX HRX HKX HBEX c5 n1;go_wp2_with fail
   refine (rcomp_any 7 w3 (b:=false) (by decide) (by decide)).mono ?_;rintro _ _ ⟨rfl,rfl⟩;go_wp2_with fail
   have hCl3:C<w3.heap.size:=HC3.out.lt;obtain ⟨LP,hLP⟩:∃ LP,lstP c S.data.toList 17 m []=LP:=⟨_,rfl⟩
   have HLP:=Lib.hid hLP;have hNl:w.heap.size≤N:=by omega
   go_loopg [] 17 (fun q wr=>(LfLive wr w.heap.size g N (.slice (some ad) cs.length cS) nv key wh S c K LP q∨LfErr wr g N (.slice (some ad) cs.length cS) nv key wh S K LP q)∧Blk wr C 56 #[.string c.nm,.int .i64 c.ty,.int .i64 c.sc,.bool c.nu]∧Blk wr R0 66 #[.int .i64 0,.int .i64 0,.bool false,.int .i64 0,.string { data:=#[] },.slice none 0 0,.int .i64 0,.int .i64 0]∧Kp (fun i=>i=g) w wr∧C<wr.heap.size)
   case atStart=>exact ⟨.inl ⟨m,16,[],_,rfl,rfl,hmS,HB3.out,HN3.out,World.ownsRow_nil _ _ _ _,hLP⟩,HC3.out,HR3.out,HK3.out,hCl3⟩
   case round =>
    clear HB3 HC3 HN3 HR3 HK3 hCl3 hLP;obtain ⟨hst,hC,hR,hk,hCl⟩:=hrel;have HCw:=Lib.hid hC;have HRw:=Lib.hid hR;have HKw:=Lib.hid hk;clear hC hR hk;rcases hst with hst|hst
    case inr =>
     obtain ⟨A2,nn,c2,i2,k2,er,rfl,hi2,hB,hN,her,hor⟩:=hst;have HBw:=Lib.hid hB;have HNw:=Lib.hid hN;have HOR:=Lib.hid hor;have q5:(er==0)=false:=by simpa using her
     have c5:=hB.cell 5;simp only[jA,jZ,jS]at c5;clear hB hN hor;have bb:=HNw.out;have n0:=bb.cell 0;have n1:=bb.cell 1;have n2:=bb.cell 2;have n3:=bb.cell 3;have n4:=bb.cell 4;have n5:=bb.cell 5;have n6:=bb.cell 6;have n7:=bb.cell 7;simp only[jA,jZ,jS]at n0 n1 n2 n3 n4 n5 n6 n7;clear bb;have bb:=HRw.out;have r0:=bb.cell 0;have r1:=bb.cell 1;have r2:=bb.cell 2;have r3:=bb.cell 3;have r4:=bb.cell 4;have r5:=bb.cell 5;have r6:=bb.cell 6;have r7:=bb.cell 7;have f0:=bb.frozen 0;have f1:=bb.frozen 1;have f2:=bb.frozen 2;have f3:=bb.frozen 3;have f4:=bb.frozen 4;have f5:=bb.frozen 5;have f6:=bb.frozen 6;have f7:=bb.frozen 7;simp only[jA,jZ,jS]at r0 r1 r2 r3 r4 r5 r6 r7;have hlt:=bb.lt;clear bb;go_wp2;have kb:=bset8 HRw.out (.int .i64 7) (.int .i64 (K:Int)) (.bool false) (.int .i64 0) (.string { data:=#[] }) (.slice A2 nn c2) (.int .i64 0) (.int .i64 0) rfl;have kg:=grownN8 wr R0 (.int .i64 7) (.int .i64 (K:Int)) (.bool false) (.int .i64 0) (.string { data:=#[] }) (.slice A2 nn c2) (.int .i64 0) (.int .i64 0);have z0:=kb.cell 0;have z1:=kb.cell 1;have z2:=kb.cell 2;have z3:=kb.cell 3;have z4:=kb.cell 4;have z5:=kb.cell 5;have z6:=kb.cell 6;have z7:=kb.cell 7;simp only[jA,jZ,jS]at z0 z1 z2 z3 z4 z5 z6 z7;rcases HOR.out with h|⟨h2,j9,l9,h,h9,hk9⟩
     ·have HQ:=Lib.hid (lf_7e HCP.out HCC.out (HLP.out.trans h));rw[HQ.out];exact bodyPost_ret (v:=.agg #[.int .i64 7,.int .i64 (K:Int),.bool false,.int .i64 0,.string { data:=#[] },.slice A2 nn c2,.int .i64 0,.int .i64 0]) (by simp[results,Tryz.results87,go_sem,z0,z1,z2,z3,z4,z5,z6,z7]) rfl ⟨⟨7,K,v0,[],0,0⟩,A2,nn,c2,_,rfl,rfl,HKw.out.grown kg (fun i h hi=>absurd hi (by have h2:R0=i:=Option.some.inj h;omega)),her,i2,hi2,HBw.out.row kg (by omega)⟩
     ·subst h2 hk9;have HQ:=Lib.hid (lf_7o HCP.out HCC.out (HLP.out.trans h));rw[HQ.out];exact bodyPost_ret (v:=.agg #[.int .i64 7,.int .i64 (K:Int),.bool false,.int .i64 0,.string { data:=#[] },.slice A2 nn c2,.int .i64 0,.int .i64 0]) (by simp[results,Tryz.results87,go_sem,z0,z1,z2,z3,z4,z5,z6,z7]) rfl ⟨⟨7,K,v0,[],0,0⟩,A2,nn,c2,_,rfl,rfl,HKw.out.grown kg (fun i h hi=>absurd hi (by have h2:R0=i:=Option.some.inj h;omega)),.inr ⟨h9,i2,hi2,HBw.out.row kg (by omega)⟩⟩
    case inl =>
     obtain ⟨j,f,l,lu,hq9,hfl,hj,hB,hN,hrow,hls⟩:=hst;obtain ⟨A2,c2,rfl,hl1,hl2⟩:=(Sl.of_own hrow).form;have HQ9:=Lib.hid hq9;have HBw:=Lib.hid hB;have HNw:=Lib.hid hN;have HRO:=Lib.hid hrow;have hl16:l.length≤16:=by omega
     have c5:=hB.cell 5;simp only[jA,jZ,jS]at c5;obtain ⟨k,hk⟩:∃ k,sk S.data.toList j=k:=⟨_,rfl⟩
     obtain ⟨m2,hm2⟩:∃ m,we S.data.toList k=m:=⟨_,rfl⟩
     have hkS:k≤S.size:=by rw[←hk,←size_data];exact sk_le (by rw[size_data];exact hj)
     have hmS2:m2≤S.size:=by rw[←hm2,←size_data];exact we_le (by rw[size_data];exact hkS)
     have hkk:sk S.data.toList k=k:=by rw[←hk];exact sk_sk _ _
     have hat:S.data.toList[k]?≠some 32:=by rw[←hk];exact sk_at _ j rfl
     have HLS:=Lib.hid hls;have HSK:=Lib.hid hk;have HKK:=Lib.hid hkk;have HAT:=Lib.hid hat;have HM2:=Lib.hid hm2;have HSP:=Lib.hid (rspace_any g j _ nv key wh 0 S wr HBw.out hj hS);rw[hk]at HSP;clear hq9 hB hN hrow hls hk hm2 hkk hat;go_wp2_with fail
     refine HSP.out.mono ?_;rintro _ w4 ⟨rfl,hB,ho⟩;have HB4:=Lib.hid hB;have HK4:=Lib.hid (HKw.out.only ho (.inl rfl));have HN4:=Lib.hid (HNw.out.row ho (show N≠g by omega));have HC4:=Lib.hid (HCw.out.row ho (show C≠g by omega));have HR4:=Lib.hid (HRw.out.row ho (show R0≠g by omega));have HO4:=Lib.hid (own_grown HRO.out ho (fun b hb e=>own_blk_ne HRO.out HBw.out (by decide) (by rw[hb,e])));have hC4:C<w4.heap.size:=HC4.out.lt;clear hB ho HBw HNw HCw HRw HKw HRO HSP c5;go_upto_region 14 with (fail)
     have bb:=HB4.out;have b2:=bb.cell 2;have b3:=bb.cell 3;simp only[jA,jZ,jS]at b2 b3;clear bb;have bb:=HN4.out;have n5:=bb.cell 5;simp only[jA,jZ,jS]at n5;clear bb;go_cut [96] from 69 to 95 (fun r wx=>r=.bool (decide (0<l.length)&&(S.data.toList[k]? == some 41))∧Below w4.heap.size w4 wx)
     case first =>
      by_cases hl0:l.length=0
      ·have q0:decide ((0:Int)<(l.length:Int))=false:=decide_eq_false (by omega);have q0':decide (0<l.length)=false:=decide_eq_false (by omega);go_quiet (fail)
       go_wp2;go_meet
       exact ⟨by rw[q0'];rfl,below_drewN (Below.refl _ _) _⟩
      ·have q0:decide ((0:Int)<(l.length:Int))=true:=decide_eq_true (by omega);have q0':decide (0<l.length)=true:=decide_eq_true (by omega);by_cases hlt:k<S.size
       ·have q1:decide (k<S.size)=true:=decide_eq_true hlt;have q1':decide ((k:Int)<(S.size:Int))=true:=decide_eq_true (by omega);have hg:=get_data S k hlt;by_cases h41:S[k]=41
        ·have q2:((S[k].toNat:Int)==41)=true:=by rw[h41];rfl
         have HG:=Lib.hid (show (S.data.toList[k]? == some 41)=true by rw[hg,h41];rfl);clear h41 hg;go_quiet (fail)
         go_wp2;go_meet
         exact ⟨by rw[q0',HG.out];rfl,below_drewN (Below.refl _ _) _⟩
        ·have q2:((S[k].toNat:Int)==41)=false:=by rw[beq_eq_false_iff_ne];intro h;exact h41 (UInt8.toNat_inj.1 (by show S[k].toNat=41;omega))
         have HG:=Lib.hid (show (S.data.toList[k]? == some 41)=false by rw[hg];simpa using h41);clear h41 hg;go_quiet (fail)
         go_wp2;go_meet
         exact ⟨by rw[q0',HG.out];rfl,below_drewN (Below.refl _ _) _⟩
       ·have q1:decide (k<S.size)=false:=decide_eq_false hlt;have q1':decide ((k:Int)<(S.size:Int))=false:=decide_eq_false (by omega);have HG:=Lib.hid (show (S.data.toList[k]? == some 41)=false by rw[List.getElem?_eq_none (by rw[size_data];omega)];rfl);go_quiet (fail)
        go_wp2;go_meet
        exact ⟨by rw[q0',HG.out];rfl,below_drewN (Below.refl _ _) _⟩
     case rest =>
      obtain ⟨rfl,hbc⟩:=hcut;have HB5:=Lib.hid (HB4.out.below hbc HB4.out.lt);have HK5:=Lib.hid (HK4.out.below hbc);have HN5:=Lib.hid (HN4.out.below hbc HN4.out.lt);have HC5:=Lib.hid (HC4.out.below hbc HC4.out.lt);have HR5:=Lib.hid (HR4.out.below hbc HR4.out.lt);have HO5:=Lib.hid (own_below HO4.out hbc);clear hbc b2 b3 n5 HB4 HK4 HN4 HC4 HR4 HO4 hC4;obtain ⟨b14,hb14⟩:∃ b,(decide (0<l.length)&&(S.data.toList[k]? == some 41))=b:=⟨_,rfl⟩
      rw[hb14];have H14:=Lib.hid hb14;clear hb14;cases b14 with
      | true =>
       have HQ:=Lib.hid (lf_7o HCP.out HCC.out (HLP.out.trans (brk14 HSK.out HLS.out H14.out)));clear H14;have bb:=HN5.out;have n0:=bb.cell 0;have n1:=bb.cell 1;have n2:=bb.cell 2;have n3:=bb.cell 3;have n4:=bb.cell 4;have n5:=bb.cell 5;have n6:=bb.cell 6;have n7:=bb.cell 7;simp only[jA,jZ,jS]at n0 n1 n2 n3 n4 n5 n6 n7;clear bb;have bb:=HR5.out;have r0:=bb.cell 0;have r1:=bb.cell 1;have r2:=bb.cell 2;have r3:=bb.cell 3;have r4:=bb.cell 4;have r5:=bb.cell 5;have r6:=bb.cell 6;have r7:=bb.cell 7;have f0:=bb.frozen 0;have f1:=bb.frozen 1;have f2:=bb.frozen 2;have f3:=bb.frozen 3;have f4:=bb.frozen 4;have f5:=bb.frozen 5;have f6:=bb.frozen 6;have f7:=bb.frozen 7;simp only[jA,jZ,jS]at r0 r1 r2 r3 r4 r5 r6 r7;have hlt:=bb.lt;clear bb;go_wp2;have kb:=bset8 HR5.out (.int .i64 7) (.int .i64 (K:Int)) (.bool false) (.int .i64 0) (.string { data:=#[] }) (.slice A2 l.length c2) (.int .i64 0) (.int .i64 0) rfl;have kg:=grownN8 wc R0 (.int .i64 7) (.int .i64 (K:Int)) (.bool false) (.int .i64 0) (.string { data:=#[] }) (.slice A2 l.length c2) (.int .i64 0) (.int .i64 0);have z0:=kb.cell 0;have z1:=kb.cell 1;have z2:=kb.cell 2;have z3:=kb.cell 3;have z4:=kb.cell 4;have z5:=kb.cell 5;have z6:=kb.cell 6;have z7:=kb.cell 7;simp only[jA,jZ,jS]at z0 z1 z2 z3 z4 z5 z6 z7;rw[HQ.out];exact bodyPost_ret (v:=.agg #[.int .i64 7,.int .i64 (K:Int),.bool false,.int .i64 0,.string { data:=#[] },.slice A2 l.length c2,.int .i64 0,.int .i64 0]) (by simp[results,Tryz.results87,go_sem,z0,z1,z2,z3,z4,z5,z6,z7]) rfl
        ⟨⟨7,K,v0,l,0,0⟩,A2,l.length,c2,_,rfl,rfl,HK5.out.grown kg (fun i h hi=>absurd hi (by have h2:R0=i:=Option.some.inj h;omega)),.inl ⟨rfl,own_grown HO5.out kg (fun b hb e=>own_blk_ne HO5.out HR5.out (by decide) (by rw[hb,e])),hkS,HB5.out.row kg (by omega)⟩⟩
      | false =>
       go_upto_region 15 with (fail)
       have bb:=HB5.out;have b2:=bb.cell 2;have b3:=bb.cell 3;simp only[jA,jZ,jS]at b2 b3;clear bb;have bb:=HN5.out;have n5:=bb.cell 5;simp only[jA,jZ,jS]at n5;clear bb;have hlS:=size_data S;obtain ⟨V5,hV5⟩:∃ V,V=wc:=⟨_,rfl⟩
       rw[←hV5]at HB5 HK5 HN5 HC5 HR5 HO5 b2 b3 n5 ⊢;clear hV5;go_cut [124] from 97 to 123 (fun r wx=>r=.bool (decide (l.length=16)&&decide (k<S.data.toList.length)&&(S.data.toList[k]? != some 40))∧Below V5.heap.size V5 wx)
       case first =>
        by_cases hl6:l.length=16
        ·have q0:((l.length:Int)==16)=true:=by rw[beq_iff_eq];omega
         have q0':(l.length==16)=true:=by rw[beq_iff_eq];exact hl6
         have q00:decide (l.length=16)=true:=decide_eq_true hl6;by_cases hlt:k<S.size
         ·have q1:decide (k<S.size)=true:=decide_eq_true hlt;have q1':decide ((k:Int)<(S.size:Int))=true:=decide_eq_true (by omega);have q11:decide (k<S.data.toList.length)=true:=decide_eq_true (by omega);have hg:=get_data S k hlt;by_cases h40:S[k]=40
          ·have q2:((S[k].toNat:Int) != 40)=false:=by rw[h40];rfl
           have HG:=Lib.hid (show (S.data.toList[k]? != some 40)=false by rw[hg,h40];rfl);clear h40 hg hl6;go_quiet (fail)
           go_wp2;go_meet
           exact ⟨by rw[q00,q11,HG.out];rfl,below_drewN (Below.refl _ _) _⟩
          ·have q2:((S[k].toNat:Int) != 40)=true:=by rw[bne_iff_ne];intro h;exact h40 (UInt8.toNat_inj.1 (by show S[k].toNat=40;omega))
           have HG:=Lib.hid (show (S.data.toList[k]? != some 40)=true by rw[hg];simpa using h40);clear h40 hg hl6;go_quiet (fail)
           go_wp2;go_meet
           exact ⟨by rw[q00,q11,HG.out];rfl,below_drewN (Below.refl _ _) _⟩
         ·have q1:decide (k<S.size)=false:=decide_eq_false hlt;have q1':decide ((k:Int)<(S.size:Int))=false:=decide_eq_false (by omega);have q11:decide (k<S.data.toList.length)=false:=decide_eq_false (by omega);clear hl6;go_quiet (fail)
          go_wp2;go_meet
          exact ⟨by rw[q00,q11];rfl,below_drewN (Below.refl _ _) _⟩
        ·have q0:((l.length:Int)==16)=false:=by rw[beq_eq_false_iff_ne];omega
         have q0':(l.length==16)=false:=by simpa using hl6
         have q00:decide (l.length=16)=false:=decide_eq_false hl6;clear hl6;go_quiet (fail)
         go_wp2;go_meet
         exact ⟨by rw[q00];rfl,below_drewN (Below.refl _ _) _⟩
       case rest =>
        obtain ⟨rfl,hbc⟩:=hcut;have HB6:=Lib.hid (HB5.out.below hbc HB5.out.lt);have HK6:=Lib.hid (HK5.out.below hbc);have HN6:=Lib.hid (HN5.out.below hbc HN5.out.lt);have HC6:=Lib.hid (HC5.out.below hbc HC5.out.lt);have HR6:=Lib.hid (HR5.out.below hbc HR5.out.lt);have HO6:=Lib.hid (own_below HO5.out hbc);clear hbc b2 b3 n5 HB5 HK5 HN5 HC5 HR5 HO5;obtain ⟨V6,hV6⟩:∃ V,V=wc:=⟨_,rfl⟩
        rw[←hV6]at HB6 HK6 HN6 HC6 HR6 HO6 ⊢;clear hV6;obtain ⟨b15,hb15⟩:∃ b,(decide (l.length=16)&&decide (k<S.data.toList.length)&&(S.data.toList[k]? != some 40))=b:=⟨_,rfl⟩
        rw[hb15];have H15:=Lib.hid hb15;clear hb15;cases b15 with
        | true =>
         have HQ:=Lib.hid (lf_7e HCP.out HCC.out (HLP.out.trans (brk15 HSK.out HLS.out HAT.out H14.out H15.out)));clear H14 H15;have b3:=HB6.out.cell 3;simp only[jA,jZ,jS]at b3;go_wp2_with fail
         refine (rfail_first g k _ nv key wh _ _ S V6 HB6.out).mono ?_;rintro _ w8 ⟨rfl,hB,ho⟩;have HB8:=Lib.hid hB;have HKE:=Lib.hid (HK6.out.only ho (.inl rfl));have HNE:=Lib.hid (HN6.out.row ho (show N≠g by omega));have HRE:=Lib.hid (HR6.out.row ho (show R0≠g by omega));clear hB ho b3;have bb:=HNE.out;have n0:=bb.cell 0;have n1:=bb.cell 1;have n2:=bb.cell 2;have n3:=bb.cell 3;have n4:=bb.cell 4;have n5:=bb.cell 5;have n6:=bb.cell 6;have n7:=bb.cell 7;simp only[jA,jZ,jS]at n0 n1 n2 n3 n4 n5 n6 n7;clear bb;have bb:=HRE.out;have r0:=bb.cell 0;have r1:=bb.cell 1;have r2:=bb.cell 2;have r3:=bb.cell 3;have r4:=bb.cell 4;have r5:=bb.cell 5;have r6:=bb.cell 6;have r7:=bb.cell 7;have f0:=bb.frozen 0;have f1:=bb.frozen 1;have f2:=bb.frozen 2;have f3:=bb.frozen 3;have f4:=bb.frozen 4;have f5:=bb.frozen 5;have f6:=bb.frozen 6;have f7:=bb.frozen 7;simp only[jA,jZ,jS]at r0 r1 r2 r3 r4 r5 r6 r7;have hlt:=bb.lt;clear bb;go_wp2;have kb:=bset8 HRE.out (.int .i64 7) (.int .i64 (K:Int)) (.bool false) (.int .i64 0) (.string { data:=#[] }) (.slice A2 l.length c2) (.int .i64 0) (.int .i64 0) rfl;have kg:=grownN8 w8 R0 (.int .i64 7) (.int .i64 (K:Int)) (.bool false) (.int .i64 0) (.string { data:=#[] }) (.slice A2 l.length c2) (.int .i64 0) (.int .i64 0);have z0:=kb.cell 0;have z1:=kb.cell 1;have z2:=kb.cell 2;have z3:=kb.cell 3;have z4:=kb.cell 4;have z5:=kb.cell 5;have z6:=kb.cell 6;have z7:=kb.cell 7;simp only[jA,jZ,jS]at z0 z1 z2 z3 z4 z5 z6 z7;rw[HQ.out];exact bodyPost_ret (v:=.agg #[.int .i64 7,.int .i64 (K:Int),.bool false,.int .i64 0,.string { data:=#[] },.slice A2 l.length c2,.int .i64 0,.int .i64 0]) (by simp[results,Tryz.results87,go_sem,z0,z1,z2,z3,z4,z5,z6,z7]) rfl
          ⟨⟨7,K,v0,l,0,0⟩,A2,l.length,c2,_,rfl,rfl,HKE.out.grown kg (fun i h hi=>absurd hi (by have h2:R0=i:=Option.some.inj h;omega)),by decide,k,hkS,HB8.out.row kg (by omega)⟩
        | false =>
         obtain ⟨hS1,hS2⟩:=val_step HSK.out HKK.out HLS.out hfl H14.out H15.out;have HV:=Lib.hid (fun (w':World) (hB:Blk w' g 106 #[.slice (some ad) cs.length cS,.int .i64 key,.string S,.int .i64 k,nv,.int .i64 0,.int .i64 wh]) (hb:Below w0.heap.size w0 w')=>rval_any w0 g k _ nv key wh S c true w' hB hkS hS HE.out hb hg);obtain ⟨rr,hrr⟩:∃ r,valZ c true S.data.toList k=r:=⟨_,rfl⟩
         rw[hrr]at hS1 hS2 HV;have HS1:=Lib.hid hS1;have HS2:=Lib.hid hS2;clear H14 H15 hrr hS1 hS2;go_upto_region 17 with (fail)
         refine wp_region_inv (by kernel_rfl) (by kernel_rfl) (fun L a w'=>∃ u131 u132 u133 u134 u135 u136 u137 u138 u139:Value,a=⟨#[.pointer (some ⟨g,0,none⟩),.int .i64 7,undef,undef,.pointer (some ⟨R0,0,none⟩),.string W,.int .i64 kq,.pointer (some ⟨N,0,none⟩),.pointer (some ⟨C,0,none⟩),.tuple #[.string W,.int .i64 kq],.pointer (some ⟨g,0,none⟩),.tuple #[.string W,.int .i64 kq],.string W,.int .i64 kq,.int .i64 7,.pointer (some ⟨g,0,none⟩),.pointer (some ⟨g,0,none⟩),.pointer (some ⟨g,0,none⟩),.agg #[.slice (some ad) cs.length cS,.int .i64 key],.string W,.int .i64 K,.agg #[.int .i64 7,.int .i64 K,.bool false,.int .i64 0,.string { data:=#[] },.slice none 0 0,.int .i64 0,.int .i64 0],.pointer (some ⟨g,0,none⟩),.pointer (some ⟨g,0,none⟩),.pointer (some ⟨g,5,none⟩),.int .i64 0,.bool true,.bool true,.pointer (some ⟨N,1,none⟩),.int .i64 K,.bool false,.bool false,undef,undef,undef,.pointer (some ⟨g,0,none⟩),.pointer (some ⟨g,0,none⟩),.pointer (some ⟨g,5,none⟩),.int .i64 0,.bool false,undef,u41,u42,u43,u44,u45,u46,u47,u48,u49,.int .i64 7,.bool false,undef,undef,undef,undef,undef,undef,.int .i64 7,.bool true,.bool true,.pointer (some ⟨g,0,none⟩),.pointer (some ⟨g,0,none⟩),.pointer (some ⟨g,5,none⟩),.int .i64 0,.bool true,.bool true,.pointer (some ⟨g,0,none⟩),.tuple #[],u69,u70,u71,u72,u73,u74,u75,u76,u77,u78,u79,u80,u81,u82,u83,u84,u85,u86,u87,u88,u89,u90,u91,u92,u93,u94,u95,.bool false,u97,u98,u99,u100,u101,u102,u103,u104,u105,u106,u107,u108,u109,u110,u111,u112,u113,u114,u115,u116,u117,u118,u119,u120,u121,u122,u123,.bool false,u125,u126,u127,u128,u129,u130,u131,u132,u133,u134,u135,u136,u137,u138,u139,undef],[]⟩ ∧
           Kp (fun i=>i=g) w w'∧Got (L 0) u131 (.pointer (some ⟨N,5,none⟩))∧Got (L 1) u132 (.slice A2 l.length c2)∧Got (L 2) u133 (.pointer (some ⟨g,0,none⟩))∧Got (L 3) u134 (.agg #[.string c.nm,.int .i64 c.ty,.int .i64 c.sc,.bool c.nu])∧Got (L 4) u135 (.agg #[.string c.nm,.int .i64 c.ty,.int .i64 c.sc,.bool true])∧(L 5=true→∃ y:Vl,u136=.agg #[.bool y.nu,.int .i64 y.n,.string y.s]∧(∀ j2 z,rr=.ok (j2,z)→y=z)∧(L 6=true→∃ A6,u137=.slice (some ⟨A6,0,none⟩) 1 1∧V6.heap.size≤A6∧Blk w' A6 64 #[.bool y.nu,.int .i64 y.n,.string y.s])∧(L 7=true→∃ g9 c9,u138=.slice (some ⟨g9,0,none⟩) (l.length+1) c9∧w'.ownsRow w.heap.size 64 3 u138 (l.length+1) (vls l++y.cells)))∧Got (L 8) u139 (.pointer (some ⟨N,5,none⟩))∧(L 7=false→w'.ownsRow w.heap.size 64 3 (.slice A2 l.length c2) l.length (vls l))∧(L 9=false→Blk w' N 66 #[.int .i64 7,.int .i64 (K:Int),.bool false,.int .i64 0,.string { data:=#[] },.slice A2 l.length c2,.int .i64 0,.int .i64 0])∧(L 9=true→Blk w' N 66 #[.int .i64 7,.int .i64 (K:Int),.bool false,.int .i64 0,.string { data:=#[] },u138,.int .i64 0,.int .i64 0])∧(L 9=true→L 7=true)∧Blk w' C 56 #[.string c.nm,.int .i64 c.ty,.int .i64 c.sc,.bool c.nu]∧Blk w' R0 66 #[.int .i64 0,.int .i64 0,.bool false,.int .i64 0,.string { data:=#[] },.slice none 0 0,.int .i64 0,.int .i64 0]∧(L 5=false→Blk w' g 106 #[.slice (some ad) cs.length cS,.int .i64 key,.string S,.int .i64 k,nv,.int .i64 0,.int .i64 wh])∧(L 5=true→RGv w' g (.slice (some ad) cs.length cS) nv key wh S rr)∧(L 7=true→L 1=true∧L 6=true)∧V6.heap.size≤w'.heap.size∧(L 6=true→L 5=true))
          ?_ ?_ ?_
         ·exact ⟨_,_,_,_,_,_,_,_,_,rfl,(HK6.out.drewN 1),nofun,nofun,nofun,nofun,nofun,nofun,nofun,fun _=>HO6.out,fun _=>HN6.out,nofun,nofun,HC6.out,HR6.out,fun _=>HB6.out,nofun,nofun,Nat.le_refl _,nofun⟩
         ·refine ⟨?_,?_,?_,?_,?_,?_,?_,?_,?_,?_,trivial⟩
          ·refine fun L a w'=>ex8 fun _ _ _ _ _ _ _ _=>ex1 fun _=>un16 fun ha hb g0 g1 g2 g3 g4 g5 g6 g7 g8 g9 g10 g11 g12 g13=>un2 fun g14 g15=>un1 fun g16 g17 hl hd K hK=>?_;subst ha
           dsimp only at hK ⊢;go_simp;exact hK _ _ ⟨_,_,_,_,_,_,_,_,_,rfl,hb,fun _=>rfl,g1,g2,g3,g4,g5,g6,g7,g8,g9,g10,g11,g12,g13,g14,g15,g16,g17⟩
          ·refine fun L a w'=>ex8 fun _ _ _ _ _ _ _ _=>ex1 fun _=>un16 fun ha hb g0 g1 g2 g3 g4 g5 g6 g7 g8 g9 g10 g11 g12 g13=>un2 fun g14 g15=>un1 fun g16 g17 hl hd K hK=>?_;subst ha
           simp[Region.binds]at hd;dsimp only at hK ⊢;have e0:=g0 (by simp[hd]);subst e0;have hl9:=hl;have h9:L 9=false:=by
            cases h:L 9 with
            | false=>rfl
            | true=>have:=(g15 (g10 h)).1;rw[hl9]at this;cases this
           have cc:=(g8 h9).cell 5;simp only[jA,jZ,jS]at cc;go_simp;exact hK _ _ ⟨_,_,_,_,_,_,_,_,_,rfl,hb,g0,fun _=>rfl,g2,g3,g4,g5,g6,g7,g8,g9,g10,g11,g12,g13,g14,fun h=>⟨rfl,(g15 h).2⟩,g16,g17⟩
          ·refine fun L a w'=>ex8 fun _ _ _ _ _ _ _ _=>ex1 fun _=>un16 fun ha hb g0 g1 g2 g3 g4 g5 g6 g7 g8 g9 g10 g11 g12 g13=>un2 fun g14 g15=>un1 fun g16 g17 hl hd K hK=>?_;subst ha
           dsimp only at hK ⊢;go_simp;exact hK _ _ ⟨_,_,_,_,_,_,_,_,_,rfl,hb,g0,g1,fun _=>rfl,g3,g4,g5,g6,g7,g8,g9,g10,g11,g12,g13,g14,g15,g16,g17⟩
          ·refine fun L a w'=>ex8 fun _ _ _ _ _ _ _ _=>ex1 fun _=>un16 fun ha hb g0 g1 g2 g3 g4 g5 g6 g7 g8 g9 g10 g11 g12 g13=>un2 fun g14 g15=>un1 fun g16 g17 hl hd K hK=>?_;subst ha
           dsimp only at hK ⊢;have bb:=g11;have d0:=bb.cell 0;have d1:=bb.cell 1;have d2:=bb.cell 2;have d3:=bb.cell 3;simp only[jA,jZ,jS]at d0 d1 d2 d3;go_simp;exact hK _ _ ⟨_,_,_,_,_,_,_,_,_,rfl,hb,g0,g1,g2,fun _=>rfl,g4,g5,g6,g7,g8,g9,g10,g11,g12,g13,g14,g15,g16,g17⟩
          ·refine fun L a w'=>ex8 fun _ _ _ _ _ _ _ _=>ex1 fun _=>un16 fun ha hb g0 g1 g2 g3 g4 g5 g6 g7 g8 g9 g10 g11 g12 g13=>un2 fun g14 g15=>un1 fun g16 g17 hl hd K hK=>?_;subst ha
           simp[Region.binds]at hd;dsimp only at hK ⊢;have e3:=g3 (by simp[hd]);subst e3;go_wp2_with fail
           refine (rnull_any c w').mono ?_;rintro _ w8 ⟨rfl,hb8⟩;exact hK _ _ ⟨_,_,_,_,_,_,_,_,_,rfl,hb.below hb8,g0,g1,g2,g3,fun _=>rfl,fun h=>(g5 h).elim fun y hy=>⟨y,hy.1,hy.2.1,fun h6=>(hy.2.2.1 h6).elim fun A6 h=>⟨A6,h.1,h.2.1,h.2.2.below hb8 h.2.2.lt⟩,fun h7=>(hy.2.2.2 h7).elim fun g9 h=>h.elim fun c9 h=>⟨g9,c9,h.1,own_below h.2 hb8⟩⟩,g6,fun h=>own_below (g7 h) hb8,fun h=>(g8 h).below hb8 (g8 h).lt,fun h=>(g9 h).below hb8 (g9 h).lt,g10,g11.below hb8 g11.lt,g12.below hb8 g12.lt,fun h=>(g13 h).below hb8 (g13 h).lt,fun h=>(g14 h).below hb8,g15,Nat.le_trans g16 hb8.size,g17⟩
          ·refine fun L a w'=>ex8 fun _ _ _ _ _ _ _ _=>ex1 fun _=>un16 fun ha hb g0 g1 g2 g3 g4 g5 g6 g7 g8 g9 g10 g11 g12 g13=>un2 fun g14 g15=>un1 fun g16 g17 hl hd K hK=>?_;subst ha
           simp[Region.binds]at hd;dsimp only at hK ⊢;have e2:=g2 (by simp[hd]);subst e2;have e4:=g4 (by simp[hd]);subst e4;have hl9:=hl;have h6:L 6=false:=by
            cases h:L 6 with
            | false=>rfl
            | true=>have:=g17 h;rw[hl9]at this;cases this
           have h7:L 7=false:=by
            cases h:L 7 with
            | false=>rfl
            | true=>have:=g17 (g15 h).2;rw[hl9]at this;cases this
           have h9:L 9=false:=by
            cases h:L 9 with
            | false=>rfl
            | true=>have:=g17 (g15 (g10 h)).2;rw[hl9]at this;cases this
           have hbw:Below w0.heap.size w0 w':=below_kp HB0.out hb (fun q h=>by have h:q=g:=h;omega) HB0.out.size;go_wp2_with fail
           refine (HV.out w' (g13 hl) hbw).mono ?_;rintro _ w4 ⟨y4,rfl,hk4,hr4⟩;obtain ⟨hr5,hr6⟩:=rgv_of hr4;exact hK _ _ ⟨_,_,_,_,_,_,_,_,_,rfl,hb.trans hk4,g0,g1,g2,g3,g4,fun _=>⟨y4,rfl,hr6,(fun h=>absurd (show L 6=true from h) (by rw[h6];simp)),(fun h=>absurd (show L 7=true from h) (by rw[h7];simp))⟩,g6,fun h=>own_kp (g7 h) hk4 (fun b hb2 h3=>own_blk_ne (g7 h) (g13 hl) (by decide) (by rw[hb2];exact congrArg some (show b=g from h3))),fun h=>(g8 h).kp hk4 (show ¬ N=g by omega),(fun h=>absurd (show L 9=true from h) (by rw[h9];simp)),g10,g11.kp hk4 (show ¬ C=g by omega),g12.kp hk4 (show ¬ R0=g by omega),nofun,fun _=>hr5,g15,Nat.le_trans g16 hk4.size,fun _=>rfl⟩
          ·refine fun L a w'=>ex8 fun _ _ _ _ _ _ _ _=>ex1 fun _=>un16 fun ha hb g0 g1 g2 g3 g4 g5 g6 g7 g8 g9 g10 g11 g12 g13=>un2 fun g14 g15=>un1 fun g16 g17 hl hd K hK=>?_;subst ha
           simp[Region.binds]at hd;dsimp only at hK ⊢;have hl9:=hl;have h5:L 5=true:=by simp[hd]
           obtain ⟨y,e4,hy2,h6x,h7x⟩:=g5 h5;subst e4;have h7:L 7=false:=by
            cases h:L 7 with
            | false=>rfl
            | true=>have:=(g15 h).2;rw[hl9]at this;cases this
           go_simp;exact hK _ _ ⟨_,_,_,_,_,_,_,_,_,rfl,hb.alloc _,g0,g1,g2,g3,g4,fun _=>⟨y,rfl,hy2,fun _=>⟨_,rfl,g16,Blk.new _ _ _⟩,(fun h=>absurd (show L 7=true from h) (by rw[h7];simp))⟩,g6,fun h=>(g7 h).alloc _,fun h=>(g8 h).alloc _,fun h=>(g9 h).alloc _,g10,g11.alloc _,g12.alloc _,fun h=>(g13 h).alloc _,fun h=>(g14 h).below (below_new _ _),fun h=>⟨(g15 h).1,rfl⟩,Nat.le_trans g16 (by simp),fun _=>h5⟩
          ·refine fun L a w'=>ex8 fun _ _ _ _ _ _ _ _=>ex1 fun _=>un16 fun ha hb g0 g1 g2 g3 g4 g5 g6 g7 g8 g9 g10 g11 g12 g13=>un2 fun g14 g15=>un1 fun g16 g17 hl hd K hK=>?_;subst ha
           simp[Region.binds]at hd;dsimp only at hK ⊢;have e1:=g1 (by simp[hd]);subst e1;have hl9:=hl;have h9:L 9=false:=by
            cases h:L 9 with
            | false=>rfl
            | true=>have:=g10 h;rw[hl9]at this;cases this
           have h1:L 1=true:=by simp[hd]
           have h6:L 6=true:=by simp[hd]
           have h5:L 5=true:=g17 h6;obtain ⟨y,e4,hy2,h6x,h7x⟩:=g5 h5;subst e4;obtain ⟨A6,e6,hN6,hB6⟩:=h6x h6;subst e6;have oo:=g7 hl;have hws9:w.heap.size≤w'.heap.size:=hb.size;refine wp_app (P:=Tryz.prog) (n:=l.length) (xs:=vls l) (m:=1) (.tmp 132) (.tmp 137) oo (blk_slN (n:=1) (sz:=3) hB6 rfl (by unfold maxLen;omega)) hws9 under_vl info_vl rfl (by decide) (one_val3 _ _ _) (by omega) (by omega) rfl rfl rfl ?_
           intro v9 w9 ho9 hg9 _
           obtain ⟨g10x,c10x,ev9⟩:∃ g9 c9,v9=.slice (some ⟨g9,0,none⟩) (l.length+1) c9:=by
            rcases ho9.2 with ⟨_,h0⟩|⟨g1,cap1,cur1,e1,_⟩
            ·omega
            ·exact ⟨g1,cap1,e1⟩
           have h13:=g14 h5;exact hK _ _ ⟨_,_,_,_,_,_,_,_,_,rfl,hb.grown hg9 (fun k hk hk2=>absurd hk2 (by have:=(oo.lt k hk).1;omega)),g0,g1,g2,g3,g4,fun _=>⟨y,rfl,hy2,fun _=>⟨A6,rfl,hN6,hB6.grown hg9 (fun e=>by have:=(HO6.out.lt A6 e).2;omega)⟩,fun _=>⟨g10x,c10x,ev9,ho9⟩⟩,g6,nofun,fun h=>(g8 h).grown hg9 (own_blk_ne oo (g8 h) (by decide)),(fun h=>absurd (show L 9=true from h) (by rw[h9];simp)),fun _=>rfl,g11.grown hg9 (own_blk_ne oo g11 (by decide)),g12.grown hg9 (own_blk_ne oo g12 (by decide)),(fun h=>absurd (show L 5=false from h) (by rw[h5];simp)),fun _=>h13.grown hg9 (h13.ne oo),fun _=>⟨h1,h6⟩,Nat.le_trans g16 hg9.size,g17⟩
          ·refine fun L a w'=>ex8 fun _ _ _ _ _ _ _ _=>ex1 fun _=>un16 fun ha hb g0 g1 g2 g3 g4 g5 g6 g7 g8 g9 g10 g11 g12 g13=>un2 fun g14 g15=>un1 fun g16 g17 hl hd K hK=>?_;subst ha
           dsimp only at hK ⊢;go_simp;exact hK _ _ ⟨_,_,_,_,_,_,_,_,_,rfl,hb,g0,g1,g2,g3,g4,g5,fun _=>rfl,g7,g8,g9,g10,g11,g12,g13,g14,g15,g16,g17⟩
          ·refine fun L a w'=>ex8 fun _ _ _ _ _ _ _ _=>ex1 fun _=>un16 fun ha hb g0 g1 g2 g3 g4 g5 g6 g7 g8 g9 g10 g11 g12 g13=>un2 fun g14 g15=>un1 fun g16 g17 hl hd K hK=>?_;subst ha
           simp[Region.binds]at hd;dsimp only at hK ⊢;have e6:=g6 (by simp[hd]);subst e6;have h7:L 7=true:=by simp[hd]
           have h6:L 6=true:=(g15 h7).2;have h5:L 5=true:=g17 h6;obtain ⟨y,e4,hy2,h6x,h7x⟩:=g5 h5;subst e4;obtain ⟨g11x,c11x,e6,o6⟩:=h7x h7;subst e6;have bb:=g8 hl;have cc:=bb.cell 5;simp only[jA,jZ,jS]at cc;have ff:=bb.frozen 5;have hlt:=bb.lt;have h13:=g14 h5;go_simp;have kg:w'.grownBy (w'.setCell ⟨N,5,none⟩ (.slice (some ⟨g11x,0,none⟩) (l.length+1) c11x)) (some N):=grownBy_set w' ⟨N,5,none⟩ (.slice (some ⟨g11x,0,none⟩) (l.length+1) c11x);have kb:=bb.set_ 5 (.slice (some ⟨g11x,0,none⟩) (l.length+1) c11x);simp only[jI,jY,jT]at kb;exact hK _ _ ⟨_,_,_,_,_,_,_,_,_,rfl,hb.grown kg (fun k hk hk2=>absurd hk2 (by have h2:N=k:=Option.some.inj hk;omega)),g0,g1,g2,g3,g4,fun _=>⟨y,rfl,hy2,fun h=>(h6x h).elim fun A6 h=>⟨A6,h.1,h.2.1,h.2.2.row kg (show A6≠N by have:=h.2.1;have:=HN6.out.lt;omega)⟩,fun _=>⟨g11x,c11x,rfl,own_row o6 kg (fun b hb2 e=>own_blk_ne o6 bb (by decide) (by rw[hb2,e]))⟩⟩,g6,(fun h=>absurd (show L 7=false from h) (by rw[h7];simp)),nofun,fun _=>kb,fun _=>h7,g11.row kg (show C≠N by omega),g12.row kg (show R0≠N by omega),(fun h=>absurd (show L 5=false from h) (by rw[h5];simp)),fun _=>h13.grown kg (fun e=>absurd (Option.some.inj e) (by omega)),g15,Nat.le_trans g16 kg.size,g17⟩
         intro a w9 hI
         revert hI;refine ex8 fun _ _ _ _ _ _ _ _=>ex1 fun _=>un16 fun ha hb g0 g1 g2 g3 g4 g5 g6 g7 g8 g9 g10 g11 g12 g13=>un2 fun g14 g15=>un1 fun g16 g17=>?_;subst ha
         have e0:=g0 rfl;subst e0;have e1:=g1 rfl;subst e1;have e2:=g2 rfl;subst e2;have e3:=g3 rfl;subst e3;have e4:=g4 rfl;subst e4;have e6:=g6 rfl;subst e6;obtain ⟨y,e5,hy2,h6x,h7x⟩:=g5 rfl;subst e5;obtain ⟨A6,e6,_,_⟩:=h6x rfl;subst e6;obtain ⟨g9x,c9x,e7,o7⟩:=h7x rfl;subst e7;have KB:=Lib.hid (g9 rfl);have HO9:=Lib.hid (show w9.ownsRow w.heap.size 64 3 (.slice (some ⟨g9x,0,none⟩) (l.length+1) c9x) (l ++ [y]).length (vls (l ++ [y])) by rw[List.length_append,vls_snoc];exact o7);have HK9:=Lib.hid hb;have HC9:=Lib.hid g11;have HR9:=Lib.hid g12;have HG9:=Lib.hid (g14 rfl);have HY9:=Lib.hid hy2;have h9:=g11.lt;clear g5 g7 g8 g9 g10 g11 g12 g13 g14 g15 g16 g17 h6x h7x o7 hb hy2;cases rr with
         | ok r =>
          obtain ⟨j2,z⟩:=r;obtain ⟨hj2,hf1,hls2⟩:=HS1.out j2 z rfl;have hyz:=HY9.out j2 z rfl;subst hyz;have hj2S:j2≤S.size:=by rw[hj2,HM2.out];exact hmS2
          have HL2:=Lib.hid (show lstP c S.data.toList (f - 1+1) j2 (l ++ [y])=LP by rw[show f - 1+1=f by omega];exact hls2);clear hj2 hls2;go_wp2;go_roundg f
          case rel=>exact ⟨.inl ⟨j2,f - 1,l ++ [y],_,by omega,by simp;omega,hj2S,HG9.out,KB.out,HO9.out,HL2.out⟩,HC9.out,HR9.out,HK9.out,h9⟩
          case measure=>have:=HQ9.out;omega
         | error r =>
          obtain ⟨k2,er⟩:=r;have hor:=Lib.hid (HS2.out k2 er rfl);obtain ⟨her,i2,hi2,hBg⟩:=HG9.out;have HBg:=Lib.hid hBg;have HER:=Lib.hid her;clear hBg her;go_wp2;go_roundg 0
          case rel=>exact ⟨.inr ⟨_,_,_,i2,k2,er,rfl,hi2,HBg.out,KB.out,HER.out,hor.out⟩,HC9.out,HR9.out,HK9.out,h9⟩
          case measure=>have:=HQ9.out;omega
end Go.Proofs.YtjnamjkdjcndiaaGreatDoor
