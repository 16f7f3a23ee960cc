/-
  Words, plain laws and contracts on which the walks lean, in one text.
-/
import Derived.Test.YtjnamjkdjcndiaaGreatDoorM18
import Derived.Test.YtjnamjkdjcndiaaGreatDoorBytes
import Derived.Deep.LoopGhost
import Derived.Test.YtjnamjkdjcndiaaGreatDoorM16
namespace Go.Proofs.YtjnamjkdjcndiaaGreatDoor
open Go.RowKit Go.Sort
set_option maxRecDepth 100000 in
set_option maxHeartbeats 4000000 in
theorem pskip_any (g i:Nat) (sv nv:Value) (key wh e0:Int) (S:ByteArray) (w:World) (hB:Blk w g 54 #[sv,.int .i64 key,.string S,.int .i64 i,nv,.int .i64 wh,.int .i64 e0]) (hi:i≤S.size) (hS:S.size≤65536) :
  Calls Tryz.prog 24 #[.pointer (some ⟨g,0,none⟩)] w fun e w'=>e=.returned (.tuple #[])∧Blk w' g 54 #[sv,.int .i64 key,.string S,.int .i64 (sk S.data.toList i),nv,.int .i64 wh,.int .i64 e0]∧Only g w w':=by
 have HB:=Lib.hid hB;clear hB;go_enter Tryz.func24,Tryz.ntmps24
 go_wp2_with fail
 go_loopg [] (S.size - i) (fun n wr=>∃ j:Nat,j≤S.size∧n=S.size - j∧Blk wr g 54 #[sv,.int .i64 key,.string S,.int .i64 j,nv,.int .i64 wh,.int .i64 e0]∧Hid (sk S.data.toList j=sk S.data.toList i)∧Only g w wr)
 case atStart=>exact ⟨i,hi,rfl,HB.out,Lib.hid rfl,Only.refl _ _⟩
 case round =>
  obtain ⟨j,hj,hn,hb,hsk,ho⟩:=hrel;have HN:=Lib.hid hn;have HBJ:=Lib.hid hb;have HO:=Lib.hid ho;clear hn ho;have c2:=hb.cell 2;have c3:=hb.cell 3;have f3:=hb.frozen 3;simp only[jA,jZ,jS]at c2 c3;clear hb;by_cases hlt:j<S.size
  ·by_cases h32:S[j]=32
   ·have q1:((S[j].toNat:Int)==32)=true:=by rw[h32];rfl
    have HSK:=Lib.hid (show sk S.data.toList (j+1)=sk S.data.toList i by rw[←hsk.out];exact (sk_go (by rw[get_data S j hlt,h32])).symm);have q2:IntKind.i64.wrap ((j:Int)+1)=(j:Int)+1:=IntWalk.i64_in _ (by omega);clear h32 hsk;go_wp2_with fail
    go_quiet (fail)
    go_wp2;have kb:=(HBJ.out.drewN nq).set_ 3 (.int .i64 ((j:Int)+1));simp only[jI,jY,jT]at kb;have ko:=(HO.out.drewN nq).set_ 3 (.int .i64 ((j:Int)+1));go_roundg (S.size - (j+1))
    case rel=>exact ⟨j+1,by omega,rfl,by rw[show ((j+1:Nat):Int)=(j:Int)+1 by omega];exact kb,Lib.hid HSK.out,ko⟩
    case measure=>have:=HN.out;omega
   ·have q1:((S[j].toNat:Int)==32)=false:=by
     rw[beq_eq_false_iff_ne];intro h
     exact h32 (UInt8.toNat_inj.1 (by show S[j].toNat=32;omega))
    have HSK:=Lib.hid (show sk S.data.toList i=j by rw[←hsk.out];exact sk_stop (by rw[get_data S j hlt];simpa using h32));clear h32 hsk;go_wp2_with fail
    go_quiet (fail)
    go_wp2;rw[HSK.out];exact bodyPost_end (results_none Tryz.results24 _ _ _) rfl ⟨rfl,HBJ.out,HO.out.drewN nq⟩
  ·have HSK:=Lib.hid (show sk S.data.toList i=j by rw[←hsk.out];exact sk_stop (by rw[List.getElem?_eq_none (by rw[size_data];omega)];simp));clear hsk;go_wp2_with fail
   go_quiet (fail)
   go_wp2;rw[HSK.out];exact bodyPost_end (results_none Tryz.results24 _ _ _) rfl ⟨rfl,HBJ.out,HO.out.drewN nq⟩
set_option maxRecDepth 100000 in
theorem pfail_any (g i:Nat) (sv nv:Value) (key wh e0 a b:Int) (S:ByteArray) (w:World) (hB:Blk w g 54 #[sv,.int .i64 key,.string S,.int .i64 i,nv,.int .i64 wh,.int .i64 e0]) :
  Calls Tryz.prog 47 #[.pointer (some ⟨g,0,none⟩),.int .i64 a,.int .i64 b] w fun e w'=>e=.returned (.bool false)∧Blk w' g 54 #[sv,.int .i64 key,.string S,.int .i64 i,nv,.int .i64 a,.int .i64 b]∧Only g w w':=by
 have HB:=Lib.hid hB;have c5:=hB.cell 5;have c6:=hB.cell 6;have f5:=hB.frozen 5;have f6:=hB.frozen 6;simp only[jA,jZ,jS]at c5 c6;clear hB;go_enter Tryz.func47,Tryz.ntmps47
 go_wp2;go_ret;have kb:=(HB.out.set_ 5 (.int .i64 a)).set_ 6 (.int .i64 b);simp only[jI,jY,jT]at kb;exact ⟨rfl,kb,((Only.refl g w).set_ 5 _).set_ 6 _⟩
theorem exp_err {T:List UInt8} {b:UInt8} {i:Nat} (h:T[sk T i]?≠some b):expP T b i=.error (sk T i,2):=if_neg h
theorem exp_ok {T:List UInt8} {b:UInt8} {i:Nat} (h:T[sk T i]?=some b):expP T b i=.ok (sk T i+1):=if_pos h
def RetExp (w:World) (g:Nat) (sv nv:Value) (key wh e0:Int) (S:ByteArray) (r:Except (Nat×Int) Nat) (e:Ending) (w':World):Prop:=Only g w w'∧match r with
 | .ok j=>e=.returned (.bool true)∧Blk w' g 54 #[sv,.int .i64 key,.string S,.int .i64 j,nv,.int .i64 wh,.int .i64 e0]
 | .error (k,x)=>e=.returned (.bool false)∧∃ i:Nat,Blk w' g 54 #[sv,.int .i64 key,.string S,.int .i64 i,nv,.int .i64 k,.int .i64 x]
set_option maxRecDepth 100000 in
set_option maxHeartbeats 4000000 in
theorem pexp_any (g i:Nat) (sv nv:Value) (key wh e0:Int) (S:ByteArray) (b:UInt8) (w:World) (hB:Blk w g 54 #[sv,.int .i64 key,.string S,.int .i64 i,nv,.int .i64 wh,.int .i64 e0]) (hi:i≤S.size) (hS:S.size≤65536) :
  Calls Tryz.prog 43 #[.pointer (some ⟨g,0,none⟩),.int .u8 (b.toNat:Int)] w (RetExp w g sv nv key wh e0 S (expP S.data.toList b i)):=by
 have HSK:=Lib.hid (pskip_any g i sv nv key wh e0 S w hB hi hS);have hk:=sk_le (T:=S.data.toList) (by rw[size_data];exact hi);rw[size_data]at hk;obtain ⟨k,hkk⟩:∃ k,sk S.data.toList i=k:=⟨_,rfl⟩
 have HK:=Lib.hid hkk;rw[hkk]at HSK hk;clear hB hkk;go_enter Tryz.func43,Tryz.ntmps43
 go_wp2_with fail
 refine HSK.out.mono ?_;rintro _ w1 ⟨rfl,hB,ho⟩;have HB:=Lib.hid hB;have HO:=Lib.hid ho;have c2:=hB.cell 2;have c3:=hB.cell 3;have f3:=hB.frozen 3;simp only[jA,jZ,jS]at c2 c3;clear hB ho HSK;by_cases hlt:k<S.size
 ·have hne:((k:Int)==(S.size:Int))=false:=by rw[beq_eq_false_iff_ne];omega
  by_cases hb:S[k]=b
  ·have q1:((S[k].toNat:Int) != (b.toNat:Int))=false:=by rw[hb];simp
   have HR:=Lib.hid (exp_ok (T:=S.data.toList) (b:=b) (i:=i) (by rw[HK.out,get_data S k hlt,hb]));have q2:IntKind.i64.wrap ((k:Int)+1)=(k:Int)+1:=IntWalk.i64_in _ (by omega);clear hb;go_wp2_with fail
   go_quiet (fail)
   go_wp2;go_ret;rw[HR.out,HK.out];have kb:=(HB.out.drewN nq).set_ 3 (.int .i64 ((k:Int)+1));simp only[jI,jY,jT]at kb;exact ⟨(HO.out.drewN nq).set_ 3 _,rfl,by rw[show ((k+1:Nat):Int)=(k:Int)+1 by omega];exact kb⟩
  ·have q1:((S[k].toNat:Int) != (b.toNat:Int))=true:=by
    rw[bne_iff_ne];intro h
    exact hb (UInt8.toNat_inj.1 (by omega))
   have HR:=Lib.hid (exp_err (T:=S.data.toList) (b:=b) (i:=i) (by rw[HK.out,get_data S k hlt];simpa using hb));clear hb;go_wp2_with fail
   go_quiet (fail)
   have HB1:=Lib.hid (HB.out.drewN nq);have HO1:=Lib.hid (HO.out.drewN nq);go_wp2_with fail
   refine (pfail_any g k sv nv key wh e0 _ _ S _ HB1.out).mono ?_;rintro _ w2 ⟨rfl,hB2,ho2⟩;have HB2:=Lib.hid hB2;have HO2:=Lib.hid ho2;clear hB2 ho2;go_wp2;go_ret;rw[HR.out,HK.out];exact ⟨HO1.out.trans HO2.out,rfl,k,HB2.out⟩
 ·have hne:((k:Int)==(S.size:Int))=true:=by rw[beq_iff_eq];omega
  have HR:=Lib.hid (exp_err (T:=S.data.toList) (b:=b) (i:=i) (by rw[HK.out,List.getElem?_eq_none (by rw[size_data];omega)];simp));go_wp2_with fail
  go_quiet (fail)
  have HB1:=Lib.hid (HB.out.drewN nq);have HO1:=Lib.hid (HO.out.drewN nq);go_wp2_with fail
  refine (pfail_any g k sv nv key wh e0 _ _ S _ HB1.out).mono ?_;rintro _ w2 ⟨rfl,hB2,ho2⟩;have HB2:=Lib.hid hB2;have HO2:=Lib.hid ho2;clear hB2 ho2;go_wp2;go_ret;rw[HR.out,HK.out];exact ⟨HO1.out.trans HO2.out,rfl,k,HB2.out⟩
theorem ext_list (S:ByteArray) (a b:Nat):(S.extract a b).data.toList=(S.data.toList.drop a).take (b - a):=by
 rw[ByteArray.data_extract,Array.toList_extract,List.extract_eq_take_drop]
theorem spi_at (c:UInt8):wdB c=decide (Lib.indexByte [32,40,41] c<0):=by
 have:∀ n:Fin 256,wdB (UInt8.ofNat n.val)=decide (Lib.indexByte [32,40,41] (UInt8.ofNat n.val)<0):=by decide +kernel
 have h:=this ⟨c.toNat,c.toNat_lt⟩;rwa [show UInt8.ofNat c.toNat=c from UInt8.ofNat_toNat]at h
theorem spi_call (c:UInt8) (v:Int) (hv:Lib.indexByte [32,40,41] c=v) (X:World):Calls Tryz.prog 68 #[.string { data:=#[32,40,41] },.int .u8 (c.toNat:Int)] X fun e w'=>e=.returned (.int .i64 v)∧w'=X:=by
 have h:=Tryz.strings_IndexByte { data:=#[32,40,41] } (c.toNat:Int) X;rw[show ({ data:=#[32,40,41] }:ByteArray).data.toList=[32,40,41] from rfl,Int.toNat_natCast,show c.toNat.toUInt8=c from UInt8.ofNat_toNat,hv]at h;exact h
def RetWord (w:World) (g:Nat) (sv nv:Value) (key wh e0:Int) (S:ByteArray) (i:Nat) (e:Ending) (w':World):Prop :=
 ∃ W:ByteArray,W.data.toList=wd S.data.toList (sk S.data.toList i)∧e=.returned (.tuple #[.int .i64 (sk S.data.toList i:Nat),.string W])∧Blk w' g 54 #[sv,.int .i64 key,.string S,.int .i64 (we S.data.toList (sk S.data.toList i):Nat),nv,.int .i64 wh,.int .i64 e0]∧Only g w w'
set_option maxRecDepth 100000 in
set_option maxHeartbeats 4000000 in
theorem pword_any (g i:Nat) (sv nv:Value) (key wh e0:Int) (S:ByteArray) (w:World) (hB:Blk w g 54 #[sv,.int .i64 key,.string S,.int .i64 i,nv,.int .i64 wh,.int .i64 e0]) (hi:i≤S.size) (hS:S.size≤65536) :
  Calls Tryz.prog 44 #[.pointer (some ⟨g,0,none⟩)] w (RetWord w g sv nv key wh e0 S i):=by
 have HSK:=Lib.hid (pskip_any g i sv nv key wh e0 S w hB hi hS);have hk:=sk_le (T:=S.data.toList) (by rw[size_data];exact hi);rw[size_data]at hk;obtain ⟨k,hkk⟩:∃ k,sk S.data.toList i=k:=⟨_,rfl⟩
 have HK:=Lib.hid hkk;rw[hkk]at HSK hk;clear hB hkk;go_enter Tryz.func44,Tryz.ntmps44
 go_wp2_with fail
 refine HSK.out.mono ?_;rintro _ w1 ⟨rfl,hB,ho⟩;have HB:=Lib.hid hB;have HO:=Lib.hid ho;have c3:=hB.cell 3;simp only[jA,jZ,jS]at c3;clear hB ho HSK;go_wp2_with fail
 clear c3;go_loopg [] (S.size - k) (fun n wr=>∃ j:Nat,k≤j∧j≤S.size∧n=S.size - j∧Blk wr g 54 #[sv,.int .i64 key,.string S,.int .i64 j,nv,.int .i64 wh,.int .i64 e0]∧Hid (we S.data.toList j=we S.data.toList k)∧Only g w wr)
 case atStart=>exact ⟨k,Nat.le_refl _,hk,rfl,HB.out,Lib.hid rfl,HO.out⟩
 case round =>
  clear HB HO;obtain ⟨j,hkj,hj,hn,hb,hwe,ho⟩:=hrel;have HN:=Lib.hid hn;have HBJ:=Lib.hid hb;have HO:=Lib.hid ho;clear hn ho;have c2:=hb.cell 2;have c3:=hb.cell 3;have f3:=hb.frozen 3;simp only[jA,jZ,jS]at c2 c3;clear hb;by_cases hlt:j<S.size
  ·obtain ⟨v,hv⟩:∃ v,Lib.indexByte [32,40,41] S[j]=v:=⟨_,rfl⟩
   have H1:=Lib.hid (spi_call S[j] v hv);by_cases hw:wdB S[j]=true
   ·have hv0:v<0:=by have:=spi_at S[j];rw[hw,hv]at this;simpa using this.symm
    have q1:decide (v<0)=true:=by simpa using hv0
    have HWE:=Lib.hid (show we S.data.toList (j+1)=we S.data.toList k by rw[←hwe.out];exact (we_go (get_data S j hlt) hw).symm);have q2:IntKind.i64.wrap ((j:Int)+1)=(j:Int)+1:=IntWalk.i64_in _ (by omega);clear hw hwe hv;go_wp2_with fail
    go_quiet ((first | (go_at_call 68;exact quiet_i0 H1.out _ _)))
    go_wp2;have kb:=(HBJ.out.drewN nq).set_ 3 (.int .i64 ((j:Int)+1));simp only[jI,jY,jT]at kb;have ko:=(HO.out.drewN nq).set_ 3 (.int .i64 ((j:Int)+1));go_roundg (S.size - (j+1))
    case rel=>exact ⟨j+1,by omega,by omega,rfl,by rw[show ((j+1:Nat):Int)=(j:Int)+1 by omega];exact kb,Lib.hid HWE.out,ko⟩
    case measure=>have:=HN.out;omega
   ·have hv0:¬ v<0:=by have:=spi_at S[j];rw[hv]at this;intro h;rw[decide_eq_true h]at this;exact hw this
    have q1:decide (v<0)=false:=by simpa using hv0
    have HWE:=Lib.hid (show we S.data.toList k=j by rw[←hwe.out];exact we_stop (wd_stop (get_data S j hlt) (by simpa using hw)));clear hw hwe hv;go_wp2_with fail
    go_quiet ((first | (go_at_call 68;exact quiet_i0 H1.out _ _)))
    go_wp2_with fail
    have hjk:(k:Int)≤(j:Int):=by omega
    have hjs:(j:Int)≤(S.size:Int):=by omega
    go_quiet (fail)
    go_wp2;exact bodyPost_ret (results_tmp2 Tryz.results44 _ _ _) rfl (by unfold RetWord;rw[HK.out,HWE.out];exact ⟨_,by rw[ext_list,←HWE.out];exact wd_slice _ _,rfl,(HBJ.out.drewN _).drewN _,(HO.out.drewN _).drewN _⟩)
  ·have HWE:=Lib.hid (show we S.data.toList k=j by rw[←hwe.out];exact we_stop (wd_end (by rw[size_data];omega)));clear hwe;go_wp2_with fail
   go_quiet (fail)
   go_wp2_with fail
   have hjk:(k:Int)≤(j:Int):=by omega
   have hjs:(j:Int)≤(S.size:Int):=by omega
   go_quiet (fail)
   go_wp2;exact bodyPost_ret (results_tmp2 Tryz.results44 _ _ _) rfl (by unfold RetWord;rw[HK.out,HWE.out];exact ⟨_,by rw[ext_list,←HWE.out];exact wd_slice _ _,rfl,(HBJ.out.drewN _).drewN _,(HO.out.drewN _).drewN _⟩)
theorem empty_of {W:ByteArray} {l:List UInt8} (h:W.data.toList=l) (hl:l=[]):W.toList.isEmpty=true∧W.toList=[]:=by
 have:W.toList=[]:=by rw[Go.ByteArray.toList_eq,h,hl]
 rw[this];exact ⟨rfl,rfl⟩
theorem full_of {W:ByteArray} {l:List UInt8} (h:W.data.toList=l) (hl:l≠[]):W.toList.isEmpty=false:=by
 rw[Go.ByteArray.toList_eq,h];cases l with
 | nil=>exact absurd rfl hl
 | cons=>rfl
def RetColP (w:World) (g N:Nat) (sv nv:Value) (key wh e0:Int) (S:ByteArray) (op:Int) (b:Bool) (n:Int) (s:ByteArray) (lu:Value) (x y:Int) (r:Except (Nat×Int) (Nat×Nat)) (e:Ending) (w':World):Prop :=
 Kp (fun i=>i=g∨i=N) w w'∧match r with
 | .ok (j,K)=>e=.returned (.bool true)∧Blk w' g 54 #[sv,.int .i64 key,.string S,.int .i64 j,nv,.int .i64 wh,.int .i64 e0]∧Blk w' N 66 #[.int .i64 op,.int .i64 K,.bool b,.int .i64 n,.string s,lu,.int .i64 x,.int .i64 y]
 | .error (k,er)=>e=.returned (.bool false)∧(∃ i:Nat,Blk w' g 54 #[sv,.int .i64 key,.string S,.int .i64 i,nv,.int .i64 k,.int .i64 er])
theorem col_err {cs:List Col} {T:List UInt8} {i:Nat} (h:wd T (sk T i)=[]):colP cs T i=.error (sk T i,2):=if_pos h
theorem col_name {cs:List Col} {T:List UInt8} {i:Nat} (h:wd T (sk T i)≠[]) (hf:findC cs ⟨(wd T (sk T i)).toArray⟩ < 0):colP cs T i=.error (sk T i,3):=by unfold colP;rw[if_neg h,if_pos hf]
theorem col_ok {cs:List Col} {T:List UInt8} {i:Nat} (h:wd T (sk T i)≠[]) (hf:¬ findC cs ⟨(wd T (sk T i)).toArray⟩ < 0):colP cs T i=.ok (we T (sk T i),(findC cs ⟨(wd T (sk T i)).toArray⟩).toNat):=by unfold colP;rw[if_neg h,if_neg hf]
set_option maxRecDepth 100000 in
set_option maxHeartbeats 4000000 in
theorem pcol_any (w0:World) (g N i:Nat) (sv nv lu:Value) (key wh e0 op c0 n x y:Int) (b:Bool) (s S:ByteArray) (cs:List Col) (w:World) (hB:Blk w g 54 #[sv,.int .i64 key,.string S,.int .i64 i,nv,.int .i64 wh,.int .i64 e0]) (hN:Blk w N 66 #[.int .i64 op,.int .i64 c0,.bool b,.int .i64 n,.string s,lu,.int .i64 x,.int .i64 y])
  (hi:i≤S.size) (hS:S.size≤65536) (hcs:Sl w0 4 sv cs.length (cols cs)) (hb0:Below w0.heap.size w0 w) (hg:w0.heap.size≤g) (hn:w0.heap.size≤N) (hcl:cs.length≤1000) :
  Calls Tryz.prog 70 #[.pointer (some ⟨g,0,none⟩),.pointer (some ⟨N,0,none⟩)] w (RetColP w g N sv nv key wh e0 S op b n s lu x y (colP cs S.data.toList i)):=by
 have hgN:g≠N:=by intro e;subst e;have:=hB.symm.trans hN;injection this with this;injection this with _ h;revert h;decide
 have HW:=Lib.hid (pword_any g i sv nv key wh e0 S w hB hi hS);obtain ⟨k,hk⟩:∃ k,sk S.data.toList i=k:=⟨_,rfl⟩
 obtain ⟨T,hT⟩:∃ T,wd S.data.toList k=T:=⟨_,rfl⟩
 obtain ⟨m,hm⟩:∃ m,we S.data.toList k=m:=⟨_,rfl⟩
 have H1:=Lib.hid (col_err (cs:=cs) (T:=S.data.toList) (i:=i));have H2:=Lib.hid (col_name (cs:=cs) (T:=S.data.toList) (i:=i));have H3:=Lib.hid (col_ok (cs:=cs) (T:=S.data.toList) (i:=i));unfold RetWord at HW
 rw[hk,hT]at H1 H2 H3;rw[hk,hT,hm]at HW;rw[hm]at H3;clear hk hT hm hB;have HN:=Lib.hid hN;have HCS:=Lib.hid hcs;have HB0:=Lib.hid hb0;obtain ⟨AS,cS,rfl,_,_⟩:=hcs.form;clear hN hcs hb0;go_enter Tryz.func70,Tryz.ntmps70
 go_wp2_with fail
 refine HW.out.mono ?_;rintro _ w1 ⟨W,hW,rfl,hB,ho⟩;have HB:=Lib.hid hB;have HK:=Lib.hid (Kp.only (S:=fun i=>i=g∨i=N) Kp.refl ho (.inl (.inl rfl)));have HN1:=Lib.hid (HN.out.grown ho (by intro e;injection e with e;exact hgN e));have HB1:=Lib.hid (below_only HB0.out ho hg HB0.out.size);clear hB ho HN HW;by_cases hT:T=[]
 ·obtain ⟨e1,e2⟩:=empty_of hW hT;have HR:=Lib.hid (H1.out hT);clear hT hW H1 H2 H3;go_wp2_with fail
  refine (pfail_any g m _ nv key wh e0 _ _ S w1 HB.out).mono ?_;rintro _ w2 ⟨rfl,hB2,ho2⟩;have HB2:=Lib.hid hB2;have HK2:=Lib.hid (HK.out.only ho2 (.inl (.inl rfl)));clear hB2 ho2;go_wp2;go_ret;rw[HR.out];exact ⟨HK2.out,rfl,m,HB2.out⟩
 ·have e1:=full_of hW hT;have hWT:W=⟨T.toArray⟩:=by cases W;cases hW;rfl
  have HF:=Lib.hid (find_any _ cs key W w1 (HCS.out.below HB1.out) (by omega));obtain ⟨z,hz⟩:∃ z,findC cs W=z:=⟨_,rfl⟩
  rw[hz]at HF;have H2':=Lib.hid (H2.out hT);have H3':=Lib.hid (H3.out hT);rw[←hWT,hz]at H2' H3';clear hT hW H1 H2 H3 hWT hz;have bb:=HB.out;have s0:=bb.cell 0;have s1:=bb.cell 1;have n1:=HN1.out.cell 1;have nf:=HN1.out.frozen 1;simp only[jA,jZ,jS]at s0 s1 n1;clear bb;go_wp2_with fail
  refine HF.out.mono ?_;rintro _ w2 ⟨rfl,hb2⟩;have HB2:=Lib.hid (HB.out.below hb2 HB.out.lt);have HN2:=Lib.hid (HN1.out.below hb2 HN1.out.lt);have HK2:=Lib.hid (HK.out.below hb2);clear hb2 s0 s1 n1 nf HF HB1;have n1:=HN2.out.cell 1;have nf:=HN2.out.frozen 1;simp only[jA,jZ,jS]at n1;go_upto_region 5 with (fail)
  obtain ⟨X,hX⟩:∃ X,X=w2.setCell ⟨N,1,none⟩ (.int .i64 z):=⟨_,rfl⟩
  have kb:=HN2.out.set_ 1 (.int .i64 z);simp only[jI,jY,jT]at kb;have HNX:=Lib.hid kb;have HBX:=Lib.hid (HB2.out.row (grownBy_set w2 ⟨N,1,none⟩ (.int .i64 z)) hgN);have HKX:=Lib.hid (HK2.out.set (p:=⟨N,1,none⟩) (.inl (.inr rfl)) (.int .i64 z));clear kb;rw[←hX]at HNX HBX HKX ⊢;clear hX n1 nf HN2 HB2 HK2;have n1:=HNX.out.cell 1;simp only[jA,jZ,jS]at n1;by_cases hz:z<0
  ·have q1:decide (z<0)=true:=by simpa using hz
   have HR:=Lib.hid (H2'.out hz);clear H2' H3';go_wp2_with fail
   refine (pfail_any g m _ nv key wh e0 _ _ S X HBX.out).mono ?_;rintro _ w3 ⟨rfl,hB3,ho3⟩;have HB3:=Lib.hid hB3;have HK3:=Lib.hid (HKX.out.only ho3 (.inl (.inl rfl)));clear hB3 ho3;go_wp2;go_ret;rw[HR.out];exact ⟨HK3.out,rfl,m,HB3.out⟩
  ·have q1:decide (z<0)=false:=by simpa using hz
   have HR:=Lib.hid (H3'.out (by omega));clear H2' H3';go_wp2;go_ret;rw[HR.out];exact ⟨HKX.out,rfl,HBX.out,by rw[show ((z.toNat:Nat):Int)=z by omega];exact HNX.out⟩

def RetValP (w:World) (g N:Nat) (sv nv:Value) (key wh e0:Int) (S:ByteArray) (op:Int) (K:Nat) (lu:Value) (x y:Int) (r:Except (Nat×Int) (Nat×Vl)) (e:Ending) (w':World):Prop :=
 Kp (fun i=>i=g∨i=N) w w'∧match r with
 | .ok (j,v)=>e=.returned (.bool true)∧Blk w' g 54 #[sv,.int .i64 key,.string S,.int .i64 j,nv,.int .i64 wh,.int .i64 e0]∧Blk w' N 66 #[.int .i64 op,.int .i64 (K:Int),.bool v.nu,.int .i64 v.n,.string v.s,lu,.int .i64 x,.int .i64 y]
 | .error (k,er)=>e=.returned (.bool false)∧(∃ i:Nat,Blk w' g 54 #[sv,.int .i64 key,.string S,.int .i64 i,nv,.int .i64 k,.int .i64 er])
theorem val_emp {c:Col} {T:List UInt8} {i:Nat} (h:wd T (sk T i)=[]):valC c T i=.error (sk T i,2):=if_pos h
theorem val_bad {c:Col} {T:List UInt8} {i:Nat} (h:wd T (sk T i)≠[]) (hf:(vparV c.ty c.sc false (wd T (sk T i))).2≠0):valC c T i=.error (sk T i,(vparV c.ty c.sc false (wd T (sk T i))).2):=by unfold valC;rw[if_neg h,if_pos hf]
theorem val_ok {c:Col} {T:List UInt8} {i:Nat} (h:wd T (sk T i)≠[]) (hf:(vparV c.ty c.sc false (wd T (sk T i))).2=0):valC c T i=.ok (we T (sk T i),vlP (vparV c.ty c.sc false (wd T (sk T i))).1):=by unfold valC;rw[if_neg h,if_neg (by rw[hf];simp)]
theorem bset {a w':World} {A j:Nat} (h:Below a.heap.size a w') (hA:a.heap.size≤A) (u:Value):Below a.heap.size a (w'.setCell ⟨A,j,none⟩ u):=h.grown (grownBy_set w' ⟨A,j,none⟩ u) h.size (fun k hk=>by injection hk with hk;subst hk;exact hA)
theorem vbV_of {w:World} {r:(Bool×Int×List UInt8)×Int} {b:Bool} {n f:Int} {s:ByteArray} (hb:r.1.1=b) (hn:r.1.2.1=n) (hs:(⟨r.1.2.2.toArray⟩:ByteArray)=s) (hf:r.2=f) {P:Program} {F:FuncId} {args:Array Value} (h:Calls P F args w (RetVb w r)) :
  Calls P F args w fun e w'=>e=.returned (.tuple #[.agg #[.bool b,.int .i64 n,.string s],.int .i64 f])∧Below w.heap.size w w':=by subst hb hn hs hf;exact h
set_option maxRecDepth 100000 in
set_option maxHeartbeats 8000000 in
theorem pval_any (w0:World) (g N i K:Nat) (sv nv lu:Value) (key wh e0 op n0 x y:Int) (b0:Bool) (s0 S:ByteArray) (cs:List Col) (c:Col) (w:World) (hB:Blk w g 54 #[sv,.int .i64 key,.string S,.int .i64 i,nv,.int .i64 wh,.int .i64 e0]) (hN:Blk w N 66 #[.int .i64 op,.int .i64 (K:Int),.bool b0,.int .i64 n0,.string s0,lu,.int .i64 x,.int .i64 y])
  (hi:i≤S.size) (hS:S.size≤65536) (hcs:Sl w0 4 sv cs.length (cols cs)) (hE:Env w0) (hb0:Below w0.heap.size w0 w) (hg:w0.heap.size≤g) (hn:w0.heap.size≤N) (_hcl:cs.length≤1000) (hc:cs[K]?=some c) :
  Calls Tryz.prog 72 #[.pointer (some ⟨g,0,none⟩),.pointer (some ⟨N,0,none⟩)] w (RetValP w g N sv nv key wh e0 S op K lu x y (valC c S.data.toList i)):=by
 have hgN:g≠N:=by intro e;subst e;have:=hB.symm.trans hN;injection this with this;injection this with _ h;revert h;decide
 have HWD:=Lib.hid (pword_any g i sv nv key wh e0 S w hB hi hS);obtain ⟨k,hk⟩:∃ k,sk S.data.toList i=k:=⟨_,rfl⟩
 obtain ⟨T,hT⟩:∃ T,wd S.data.toList k=T:=⟨_,rfl⟩
 obtain ⟨m,hm⟩:∃ m,we S.data.toList k=m:=⟨_,rfl⟩
 have hTl:T.length≤65536:=by
  have:=we_le (T:=S.data.toList) (i:=k) (by rw[←hk];exact sk_le (by rw[size_data];exact hi))
  rw[size_data]at this;unfold we at this;rw[hT]at this;omega
 have H1:=Lib.hid (val_emp (c:=c) (T:=S.data.toList) (i:=i));have H2:=Lib.hid (val_bad (c:=c) (T:=S.data.toList) (i:=i));have H3:=Lib.hid (val_ok (c:=c) (T:=S.data.toList) (i:=i));unfold RetWord at HWD
 rw[hk,hT]at H1 H2 H3;rw[hk,hT,hm]at HWD;rw[hm]at H3;clear hk hT hm hB;have HN:=Lib.hid hN;have HCS:=Lib.hid hcs;have HB0:=Lib.hid hb0;have HE:=Lib.hid hE;obtain ⟨AS,cS,rfl,_,_⟩:=hcs.form;clear hN hcs hb0 hE;go_enter Tryz.func72,Tryz.ntmps72
 go_wp2_with fail
 refine HWD.out.mono ?_;rintro _ w1 ⟨W,hW,rfl,hB,ho⟩;have HB:=Lib.hid hB;have HK:=Lib.hid (Kp.only (S:=fun i=>i=g∨i=N) Kp.refl ho (.inl (.inl rfl)));have HN1:=Lib.hid (HN.out.grown ho (by intro e;injection e with e;exact hgN e));have HB1:=Lib.hid (below_only HB0.out ho hg HB0.out.size);clear hB ho HN HWD;by_cases hT:T=[]
 ·obtain ⟨e1,e2⟩:=empty_of hW hT;have HR:=Lib.hid (H1.out hT);clear hT hW H1 H2 H3;go_wp2_with fail
  refine (pfail_any g m _ nv key wh e0 _ _ S w1 HB.out).mono ?_;rintro _ w2 ⟨rfl,hB2,ho2⟩;have HB2:=Lib.hid hB2;have HK2:=Lib.hid (HK.out.only ho2 (.inl (.inl rfl)));clear hB2 ho2;go_wp2;go_ret;rw[HR.out];exact ⟨HK2.out,rfl,m,HB2.out⟩
 ·have e1:=full_of hW hT;have hWs:W.size≤65536:=by rw[←size_data,hW];exact hTl
  have hkc:K<cs.length:=(List.getElem?_eq_some_iff.1 hc).1;have qK:decide (K<cs.length)=true:=decide_eq_true hkc;have pK:((K:Int)<(cs.length:Int))=True:=eq_true (by omega);obtain ⟨ad,c',pc,rfl,hc',hpc,hCA⟩:=(HCS.out.below HB1.out).col_load rfl hkc;rw[hc]at hc';injection hc' with hc'
  subst hc';have HCA:=Lib.hid hCA;obtain ⟨h1,h2⟩:=val_same c.ty c.sc c.nu T;have hq:vparV c.ty c.sc c.nu T=vparV c.ty c.sc c.nu W.data.toList:=by rw[hW]
  obtain ⟨b,hb⟩:∃ b,(vparV c.ty c.sc c.nu W.data.toList).1.1=b:=⟨_,rfl⟩
  obtain ⟨n,hn⟩:∃ n,(vparV c.ty c.sc c.nu W.data.toList).1.2.1=n:=⟨_,rfl⟩
  obtain ⟨s,hs⟩:∃ s,(⟨(vparV c.ty c.sc c.nu W.data.toList).1.2.2.toArray⟩:ByteArray)=s:=⟨_,rfl⟩
  obtain ⟨f,hf⟩:∃ f,(vparV c.ty c.sc c.nu W.data.toList).2=f:=⟨_,rfl⟩
  have HV:=Lib.hid (fun (w':World) (he:Env w')=>vbV_of hb hn hs hf (vpar_any c.nm c.ty c.sc c.nu W w' he (by omega)));have HVL:=Lib.hid (show vlP (vparV c.ty c.sc c.nu T).1=⟨b,n,s⟩ by rw[hq,←hb,←hn,←hs];rfl);rw[hq,hb,hf]at h1;have H4:=Lib.hid h1;have H5:=Lib.hid h2;have H2':=Lib.hid (H2.out hT);have H3':=Lib.hid (H3.out hT);clear hT hW H1 H2 H3 h1 h2 hq hb hn hs hf hc HCS hCA hTl;go_upto_region 4 with (fail)

  refine wp_region_inv (by kernel_rfl) (by kernel_rfl) (fun L a w'=>∃ u20 u21 u22 u23 u24 u25 u26 u27 u28 u29 u30 u31 u32 u19 u33 u34 u7 u8:Value,a=⟨#[.pointer (some ⟨g,0,none⟩),.pointer (some ⟨N,0,none⟩),undef,undef,.bool false,.int .i64 k,.string W,u7,u8,.tuple #[.int .i64 k,.string W],.pointer (some ⟨g,0,none⟩),.tuple #[.int .i64 k,.string W],.int .i64 k,.string W,.string W,.bool false,undef,undef,undef,u19,u20,u21,u22,u23,u24,u25,u26,u27,u28,u29,u30,u31,u32,u33,u34,undef,undef,undef,undef,undef,undef,undef,undef,undef,undef,undef,undef,undef,undef,undef,undef],[]⟩ ∧
    Below w1.heap.size w1 w'∧Got (L 0) u20 (.pointer (some ⟨g,0,none⟩))∧Got (L 1) u21 (.pointer (some ⟨g,0,none⟩))∧Got (L 2) u22 (.pointer (some ⟨g,0,none⟩))∧Got (L 3) u23 (.pointer (some ⟨g,0,none⟩))∧Got (L 4) u24 (.slice (some ad) cs.length cS)∧Got (L 5) u25 (.pointer (some ⟨N,0,none⟩))∧Got (L 6) u26 (.pointer (some ⟨N,0,none⟩))∧Got (L 7) u27 (.pointer (some ⟨N,1,none⟩))∧Got (L 8) u28 (.int .i64 (K:Int))∧Got (L 9) u29 (.pointer (some pc))∧Got (L 10) u30 (.agg #[.string c.nm,.int .i64 c.ty,.int .i64 c.sc,.bool c.nu])∧Got (L 11) u31 (.string W)∧Got (L 12) u32 (.tuple #[.agg #[.bool b,.int .i64 n,.string s],.int .i64 f])∧Got (L 13) u19 (.tuple #[.agg #[.bool b,.int .i64 n,.string s],.int .i64 f])∧Got (L 14) u33 (.agg #[.bool b,.int .i64 n,.string s])∧Got (L 15) u34 (.int .i64 f)∧(L 16=true→∃ A,u7=.pointer (some ⟨A,0,none⟩)∧w1.heap.size≤A∧(L 17=false→Blk w' A 64 #[.bool false,.int .i64 0,.string { data:=#[] }])∧(L 17=true→Blk w' A 64 #[.bool b,.int .i64 n,.string s]))∧(L 17=true→L 16=true)∧Got (L 18) u8 (.int .i64 f))
   ?_ ?_ ?_
  ·exact ⟨_,_,_,_,_,_,_,_,_,_,_,_,_,_,_,_,_,_,rfl,(Below.refl _ _).drew,nofun,nofun,nofun,nofun,nofun,nofun,nofun,nofun,nofun,nofun,nofun,nofun,nofun,nofun,nofun,nofun,nofun,nofun,nofun⟩
  ·refine ⟨?_,?_,?_,?_,?_,?_,?_,?_,?_,?_,?_,?_,?_,?_,?_,?_,?_,?_,?_,trivial⟩
   ·refine fun L a w'=>ex16 fun _ _ _ _ _ _ _ _ _ _ _ _ _ _ _ _=>ex2 fun _ _=>un16 fun ha hb g0 g1 g2 g3 g4 g5 g6 g7 g8 g9 g10 g11 g12 g13=>un4 fun g14 g15 g16 g17 g18 hl hd K hK=>?_;subst ha
    dsimp only at hK ⊢;go_simp;exact hK _ _ ⟨_,_,_,_,_,_,_,_,_,_,_,_,_,_,_,_,_,_,rfl,hb,fun _=>rfl,g1,g2,g3,g4,g5,g6,g7,g8,g9,g10,g11,g12,g13,g14,g15,g16,g17,g18⟩
   ·refine fun L a w'=>ex16 fun _ _ _ _ _ _ _ _ _ _ _ _ _ _ _ _=>ex2 fun _ _=>un16 fun ha hb g0 g1 g2 g3 g4 g5 g6 g7 g8 g9 g10 g11 g12 g13=>un4 fun g14 g15 g16 g17 g18 hl hd K hK=>?_;subst ha
    simp[Region.binds]at hd;dsimp only at hK ⊢;have e0:=g0 (by simp[hd]);subst e0;go_simp;exact hK _ _ ⟨_,_,_,_,_,_,_,_,_,_,_,_,_,_,_,_,_,_,rfl,hb,g0,fun _=>rfl,g2,g3,g4,g5,g6,g7,g8,g9,g10,g11,g12,g13,g14,g15,g16,g17,g18⟩
   ·refine fun L a w'=>ex16 fun _ _ _ _ _ _ _ _ _ _ _ _ _ _ _ _=>ex2 fun _ _=>un16 fun ha hb g0 g1 g2 g3 g4 g5 g6 g7 g8 g9 g10 g11 g12 g13=>un4 fun g14 g15 g16 g17 g18 hl hd K hK=>?_;subst ha
    simp[Region.binds]at hd;dsimp only at hK ⊢;have e1:=g1 (by simp[hd]);subst e1;go_simp;exact hK _ _ ⟨_,_,_,_,_,_,_,_,_,_,_,_,_,_,_,_,_,_,rfl,hb,g0,g1,fun _=>rfl,g3,g4,g5,g6,g7,g8,g9,g10,g11,g12,g13,g14,g15,g16,g17,g18⟩
   ·refine fun L a w'=>ex16 fun _ _ _ _ _ _ _ _ _ _ _ _ _ _ _ _=>ex2 fun _ _=>un16 fun ha hb g0 g1 g2 g3 g4 g5 g6 g7 g8 g9 g10 g11 g12 g13=>un4 fun g14 g15 g16 g17 g18 hl hd K hK=>?_;subst ha
    simp[Region.binds]at hd;dsimp only at hK ⊢;have e2:=g2 (by simp[hd]);subst e2;go_simp;exact hK _ _ ⟨_,_,_,_,_,_,_,_,_,_,_,_,_,_,_,_,_,_,rfl,hb,g0,g1,g2,fun _=>rfl,g4,g5,g6,g7,g8,g9,g10,g11,g12,g13,g14,g15,g16,g17,g18⟩
   ·refine fun L a w'=>ex16 fun _ _ _ _ _ _ _ _ _ _ _ _ _ _ _ _=>ex2 fun _ _=>un16 fun ha hb g0 g1 g2 g3 g4 g5 g6 g7 g8 g9 g10 g11 g12 g13=>un4 fun g14 g15 g16 g17 g18 hl hd K hK=>?_;subst ha
    simp[Region.binds]at hd;dsimp only at hK ⊢;have e3:=g3 (by simp[hd]);subst e3;have bb:=HB.out.below hb HB.out.lt;have c0:=bb.cell 0;simp only[jA,jZ]at c0;clear bb;go_simp;exact hK _ _ ⟨_,_,_,_,_,_,_,_,_,_,_,_,_,_,_,_,_,_,rfl,hb,g0,g1,g2,g3,fun _=>rfl,g5,g6,g7,g8,g9,g10,g11,g12,g13,g14,g15,g16,g17,g18⟩
   ·refine fun L a w'=>ex16 fun _ _ _ _ _ _ _ _ _ _ _ _ _ _ _ _=>ex2 fun _ _=>un16 fun ha hb g0 g1 g2 g3 g4 g5 g6 g7 g8 g9 g10 g11 g12 g13=>un4 fun g14 g15 g16 g17 g18 hl hd K hK=>?_;subst ha
    dsimp only at hK ⊢;go_simp;exact hK _ _ ⟨_,_,_,_,_,_,_,_,_,_,_,_,_,_,_,_,_,_,rfl,hb,g0,g1,g2,g3,g4,fun _=>rfl,g6,g7,g8,g9,g10,g11,g12,g13,g14,g15,g16,g17,g18⟩
   ·refine fun L a w'=>ex16 fun _ _ _ _ _ _ _ _ _ _ _ _ _ _ _ _=>ex2 fun _ _=>un16 fun ha hb g0 g1 g2 g3 g4 g5 g6 g7 g8 g9 g10 g11 g12 g13=>un4 fun g14 g15 g16 g17 g18 hl hd K hK=>?_;subst ha
    simp[Region.binds]at hd;dsimp only at hK ⊢;have e5:=g5 (by simp[hd]);subst e5;go_simp;exact hK _ _ ⟨_,_,_,_,_,_,_,_,_,_,_,_,_,_,_,_,_,_,rfl,hb,g0,g1,g2,g3,g4,g5,fun _=>rfl,g7,g8,g9,g10,g11,g12,g13,g14,g15,g16,g17,g18⟩
   ·refine fun L a w'=>ex16 fun _ _ _ _ _ _ _ _ _ _ _ _ _ _ _ _=>ex2 fun _ _=>un16 fun ha hb g0 g1 g2 g3 g4 g5 g6 g7 g8 g9 g10 g11 g12 g13=>un4 fun g14 g15 g16 g17 g18 hl hd K hK=>?_;subst ha
    simp[Region.binds]at hd;dsimp only at hK ⊢;have e6:=g6 (by simp[hd]);subst e6;go_simp;exact hK _ _ ⟨_,_,_,_,_,_,_,_,_,_,_,_,_,_,_,_,_,_,rfl,hb,g0,g1,g2,g3,g4,g5,g6,fun _=>rfl,g8,g9,g10,g11,g12,g13,g14,g15,g16,g17,g18⟩
   ·refine fun L a w'=>ex16 fun _ _ _ _ _ _ _ _ _ _ _ _ _ _ _ _=>ex2 fun _ _=>un16 fun ha hb g0 g1 g2 g3 g4 g5 g6 g7 g8 g9 g10 g11 g12 g13=>un4 fun g14 g15 g16 g17 g18 hl hd K hK=>?_;subst ha
    simp[Region.binds]at hd;dsimp only at hK ⊢;have e7:=g7 (by simp[hd]);subst e7;have bb:=HN1.out.below hb HN1.out.lt;have c0:=bb.cell 0;have c1:=bb.cell 1;simp only[jA,jZ,jS]at c0 c1;clear bb;go_simp;exact hK _ _ ⟨_,_,_,_,_,_,_,_,_,_,_,_,_,_,_,_,_,_,rfl,hb,g0,g1,g2,g3,g4,g5,g6,g7,fun _=>rfl,g9,g10,g11,g12,g13,g14,g15,g16,g17,g18⟩
   ·refine fun L a w'=>ex16 fun _ _ _ _ _ _ _ _ _ _ _ _ _ _ _ _=>ex2 fun _ _=>un16 fun ha hb g0 g1 g2 g3 g4 g5 g6 g7 g8 g9 g10 g11 g12 g13=>un4 fun g14 g15 g16 g17 g18 hl hd K hK=>?_;subst ha
    simp[Region.binds]at hd;dsimp only at hK ⊢;have e4:=g4 (by simp[hd]);subst e4;have e8:=g8 (by simp[hd]);subst e8;go_simp;exact hK _ _ ⟨_,_,_,_,_,_,_,_,_,_,_,_,_,_,_,_,_,_,rfl,hb,g0,g1,g2,g3,g4,g5,g6,g7,g8,fun _=>rfl,g10,g11,g12,g13,g14,g15,g16,g17,g18⟩
   ·refine fun L a w'=>ex16 fun _ _ _ _ _ _ _ _ _ _ _ _ _ _ _ _=>ex2 fun _ _=>un16 fun ha hb g0 g1 g2 g3 g4 g5 g6 g7 g8 g9 g10 g11 g12 g13=>un4 fun g14 g15 g16 g17 g18 hl hd K hK=>?_;subst ha
    simp[Region.binds]at hd;dsimp only at hK ⊢;have e9:=g9 (by simp[hd]);subst e9;have hca:=HCA.out.below hb;have k0:=hca.c0;have k1:=hca.c1;have k2:=hca.c2;have k3:=hca.c3;clear hca;go_simp;exact hK _ _ ⟨_,_,_,_,_,_,_,_,_,_,_,_,_,_,_,_,_,_,rfl,hb,g0,g1,g2,g3,g4,g5,g6,g7,g8,g9,fun _=>rfl,g11,g12,g13,g14,g15,g16,g17,g18⟩
   ·refine fun L a w'=>ex16 fun _ _ _ _ _ _ _ _ _ _ _ _ _ _ _ _=>ex2 fun _ _=>un16 fun ha hb g0 g1 g2 g3 g4 g5 g6 g7 g8 g9 g10 g11 g12 g13=>un4 fun g14 g15 g16 g17 g18 hl hd K hK=>?_;subst ha
    dsimp only at hK ⊢;go_simp;exact hK _ _ ⟨_,_,_,_,_,_,_,_,_,_,_,_,_,_,_,_,_,_,rfl,hb,g0,g1,g2,g3,g4,g5,g6,g7,g8,g9,g10,fun _=>rfl,g12,g13,g14,g15,g16,g17,g18⟩
   ·refine fun L a w'=>ex16 fun _ _ _ _ _ _ _ _ _ _ _ _ _ _ _ _=>ex2 fun _ _=>un16 fun ha hb g0 g1 g2 g3 g4 g5 g6 g7 g8 g9 g10 g11 g12 g13=>un4 fun g14 g15 g16 g17 g18 hl hd K hK=>?_;subst ha
    simp[Region.binds]at hd;dsimp only at hK ⊢;have e10:=g10 (by simp[hd]);subst e10;have e11:=g11 (by simp[hd]);subst e11;go_wp2_with fail
    refine (HV.out w' (HE.out.below (HB1.out.trans (hb.mono HB1.out.size)))).mono ?_;rintro _ w4 ⟨rfl,hb4⟩;exact hK _ _ ⟨_,_,_,_,_,_,_,_,_,_,_,_,_,_,_,_,_,_,rfl,bst hb hb4,g0,g1,g2,g3,g4,g5,g6,g7,g8,g9,g10,g11,fun _=>rfl,g13,g14,g15,fun h=>(g16 h).elim fun A h=>⟨A,h.1,h.2.1,fun q=>(h.2.2.1 q).below hb4 (h.2.2.1 q).lt,fun q=>(h.2.2.2 q).below hb4 (h.2.2.2 q).lt⟩,g17,g18⟩
   ·refine fun L a w'=>ex16 fun _ _ _ _ _ _ _ _ _ _ _ _ _ _ _ _=>ex2 fun _ _=>un16 fun ha hb g0 g1 g2 g3 g4 g5 g6 g7 g8 g9 g10 g11 g12 g13=>un4 fun g14 g15 g16 g17 g18 hl hd K hK=>?_;subst ha
    simp[Region.binds]at hd;dsimp only at hK ⊢;have e12:=g12 (by simp[hd]);subst e12;go_simp;exact hK _ _ ⟨_,_,_,_,_,_,_,_,_,_,_,_,_,_,_,_,_,_,rfl,hb,g0,g1,g2,g3,g4,g5,g6,g7,g8,g9,g10,g11,g12,fun _=>rfl,g14,g15,g16,g17,g18⟩
   ·refine fun L a w'=>ex16 fun _ _ _ _ _ _ _ _ _ _ _ _ _ _ _ _=>ex2 fun _ _=>un16 fun ha hb g0 g1 g2 g3 g4 g5 g6 g7 g8 g9 g10 g11 g12 g13=>un4 fun g14 g15 g16 g17 g18 hl hd K hK=>?_;subst ha
    simp[Region.binds]at hd;dsimp only at hK ⊢;have e13:=g13 (by simp[hd]);subst e13;go_simp;exact hK _ _ ⟨_,_,_,_,_,_,_,_,_,_,_,_,_,_,_,_,_,_,rfl,hb,g0,g1,g2,g3,g4,g5,g6,g7,g8,g9,g10,g11,g12,g13,fun _=>rfl,g15,g16,g17,g18⟩
   ·refine fun L a w'=>ex16 fun _ _ _ _ _ _ _ _ _ _ _ _ _ _ _ _=>ex2 fun _ _=>un16 fun ha hb g0 g1 g2 g3 g4 g5 g6 g7 g8 g9 g10 g11 g12 g13=>un4 fun g14 g15 g16 g17 g18 hl hd K hK=>?_;subst ha
    simp[Region.binds]at hd;dsimp only at hK ⊢;have e13:=g13 (by simp[hd]);subst e13;go_simp;exact hK _ _ ⟨_,_,_,_,_,_,_,_,_,_,_,_,_,_,_,_,_,_,rfl,hb,g0,g1,g2,g3,g4,g5,g6,g7,g8,g9,g10,g11,g12,g13,g14,fun _=>rfl,g16,g17,g18⟩
   ·refine fun L a w'=>ex16 fun _ _ _ _ _ _ _ _ _ _ _ _ _ _ _ _=>ex2 fun _ _=>un16 fun ha hb g0 g1 g2 g3 g4 g5 g6 g7 g8 g9 g10 g11 g12 g13=>un4 fun g14 g15 g16 g17 g18 hl hd K hK=>?_;subst ha
    dsimp only at hK ⊢;go_simp;exact hK _ _ ⟨_,_,_,_,_,_,_,_,_,_,_,_,_,_,_,_,_,_,rfl,hb.alloc hb.size _,g0,g1,g2,g3,g4,g5,g6,g7,g8,g9,g10,g11,g12,g13,g14,g15,fun _=>⟨_,rfl,hb.size,fun _=>Blk.new _ _ _,fun h=>by have:=g17 h;rw[hl]at this;cases this⟩,fun _=>rfl,g18⟩
   ·refine fun L a w'=>ex16 fun _ _ _ _ _ _ _ _ _ _ _ _ _ _ _ _=>ex2 fun _ _=>un16 fun ha hb g0 g1 g2 g3 g4 g5 g6 g7 g8 g9 g10 g11 g12 g13=>un4 fun g14 g15 g16 g17 g18 hl hd K hK=>?_;subst ha
    simp[Region.binds]at hd;dsimp only at hK ⊢;have e14:=g14 (by simp[hd]);subst e14;have h16:L 16=true:=by simp[hd]
    obtain ⟨A,hA,hA1,hA2,hA3⟩:=g16 h16;subst hA;have bb:=hA2 hl;have z0:=bb.cell 0;have z1:=bb.cell 1;have z2:=bb.cell 2;have y0:=bb.frozen 0;have y1:=bb.frozen 1;have y2:=bb.frozen 2;simp only[jA,jZ,jS]at z0 z1 z2;have hlt:=bb.lt;go_simp;have kb:=((bb.set_ 0 (.bool b)).set_ 1 (.int .i64 n)).set_ 2 (.string s);simp only[jI,jY,jT]at kb;exact hK _ _ ⟨_,_,_,_,_,_,_,_,_,_,_,_,_,_,_,_,_,_,rfl,bset (bset (bset hb hA1 _) hA1 _) hA1 _,g0,g1,g2,g3,g4,g5,g6,g7,g8,g9,g10,g11,g12,g13,g14,g15,fun _=>⟨A,rfl,hA1,nofun,fun _=>kb⟩,fun _=>h16,g18⟩
   ·refine fun L a w'=>ex16 fun _ _ _ _ _ _ _ _ _ _ _ _ _ _ _ _=>ex2 fun _ _=>un16 fun ha hb g0 g1 g2 g3 g4 g5 g6 g7 g8 g9 g10 g11 g12 g13=>un4 fun g14 g15 g16 g17 g18 hl hd K hK=>?_;subst ha
    simp[Region.binds]at hd;dsimp only at hK ⊢;have e15:=g15 (by simp[hd]);subst e15;go_simp;exact hK _ _ ⟨_,_,_,_,_,_,_,_,_,_,_,_,_,_,_,_,_,_,rfl,hb,g0,g1,g2,g3,g4,g5,g6,g7,g8,g9,g10,g11,g12,g13,g14,g15,g16,g17,fun _=>rfl⟩
  intro a w2 hI
  revert hI;refine ex16 fun _ _ _ _ _ _ _ _ _ _ _ _ _ _ _ _=>ex2 fun _ _=>un16 fun ha hb g0 g1 g2 g3 g4 g5 g6 g7 g8 g9 g10 g11 g12 g13=>un4 fun g14 g15 g16 g17 g18=>?_;subst ha
  have e18:=g18 rfl;subst e18;obtain ⟨A,hA,hA1,_,hA3⟩:=g16 rfl;subst hA;have HA:=Lib.hid (hA3 rfl);have HB2:=Lib.hid (HB.out.below hb HB.out.lt);have HN2:=Lib.hid (HN1.out.below hb HN1.out.lt);have HK2:=Lib.hid (HK.out.below hb);have HAL:=Lib.hid hA1;have hNA:N≠A:=by have:=HN1.out.lt;omega
  clear g0 g1 g2 g3 g4 g5 g6 g7 g8 g9 g10 g11 g12 g13 g14 g15 g16 g17 g18 hb hA3 hA1;by_cases hf0:f=0
  ·subst hf0;by_cases hbt:b=true
   ·subst hbt;have HR:=Lib.hid (H2'.out (by rw[←H4.out];decide));have HQ:=Lib.hid (show (vparV c.ty c.sc false T).2=12 by rw[←H4.out];rfl);have bb:=HA.out;have a0:=bb.cell 0;simp only[jA,jZ]at a0;clear bb H2' H3' H4 H5;go_wp2_with fail
    refine (pfail_any g m _ nv key wh e0 _ _ S w2 HB2.out).mono ?_;rintro _ w3 ⟨rfl,hB3,ho3⟩;have HB3:=Lib.hid hB3;have HK3:=Lib.hid (HK2.out.only ho3 (.inl (.inl rfl)));clear hB3 ho3;go_wp2;go_ret;rw[HR.out,HQ.out];exact ⟨HK3.out,rfl,m,HB3.out⟩
   ·have hbf:b=false:=by simpa using hbt
    subst hbf;have hz:(vparV c.ty c.sc false T).2=0:=by rw[←H4.out];rfl
    have HR:=Lib.hid (H3'.out hz);have HQ:=Lib.hid (show vlP (vparV c.ty c.sc false T).1=⟨false,n,s⟩ by rw[←H5.out hz];exact HVL.out);have bb:=HA.out;have a0:=bb.cell 0;have a1:=bb.cell 1;have a2:=bb.cell 2;simp only[jA,jZ,jS]at a0 a1 a2;clear bb H2' H3' H4 H5 hz hbt;have bb:=HN2.out;have n2:=bb.cell 2;have n3:=bb.cell 3;have n4:=bb.cell 4;have m2:=bb.frozen 2;have m3:=bb.frozen 3;have m4:=bb.frozen 4;simp only[jA,jZ,jS]at n2 n3 n4;have hlt:=bb.lt;clear bb;have kb:=((HN2.out.set_ 2 (.bool false)).set_ 3 (.int .i64 n)).set_ 4 (.string s);simp only[jI,jY,jT]at kb;have KB:=Lib.hid kb;have kg:=Lib.hid (((HB2.out.row (grownBy_set _ ⟨N,2,none⟩ (.bool false)) hgN).row (grownBy_set _ ⟨N,3,none⟩ (.int .i64 n)) hgN).row (grownBy_set _ ⟨N,4,none⟩ (.string s)) hgN);have kk:=Lib.hid (((HK2.out.set (p:=⟨N,2,none⟩) (.inl (.inr rfl)) (.bool false)).set (p:=⟨N,3,none⟩) (.inl (.inr rfl)) (.int .i64 n)).set (p:=⟨N,4,none⟩) (.inl (.inr rfl)) (.string s));clear kb;go_wp2;go_ret;rw[HR.out,HQ.out];exact ⟨kk.out,rfl,kg.out,KB.out⟩
  ·have q0:(f==0)=false:=by simpa using hf0
   have q1:(f != 0)=true:=by simpa using hf0
   have hz:(vparV c.ty c.sc false T).2=f:=by rw[←H4.out,if_neg (by intro h;exact hf0 h.1)]
   have HR:=Lib.hid (H2'.out (by rw[hz];exact hf0));have HQ:=Lib.hid hz;clear H2' H3' H4 H5 hz hf0;go_wp2_with fail
   refine (pfail_any g m _ nv key wh e0 _ _ S w2 HB2.out).mono ?_;rintro _ w3 ⟨rfl,hB3,ho3⟩;have HB3:=Lib.hid hB3;have HK3:=Lib.hid (HK2.out.only ho3 (.inl (.inl rfl)));clear hB3 ho3;go_wp2;go_ret;rw[HR.out,HQ.out];exact ⟨HK3.out,rfl,m,HB3.out⟩
end Go.Proofs.YtjnamjkdjcndiaaGreatDoor
