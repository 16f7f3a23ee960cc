/-
 ref21's reader: next,operator,value.
-/
import Derived.Test.YtjnamjkdjcndiaaGreatDoorM22
import Derived.Test.YtjnamjkdjcndiaaGreatDoorM19
import Derived.Test.YtjnamjkdjcndiaaGreatDoorM18
import Derived.Test.YtjnamjkdjcndiaaGreatDoorM13
import Derived.Test.YtjnamjkdjcndiaaGreatDoorRVPar
import Derived.Test.YtjnamjkdjcndiaaGreatDoorM20
namespace Go.Proofs.YtjnamjkdjcndiaaGreatDoor
open Go.RowKit Go.Sort

theorem we_eq {T:List UInt8} {k:Nat}:we T k=k ↔ wd T k=[]:=by
 unfold we
 constructor
 ·intro h;exact List.length_eq_zero_iff.1 (by omega)
 ·intro h;rw[h];rfl
def RetRNext (w:World) (g:Nat) (sv nv:Value) (key wh:Int) (S:ByteArray) (T:List UInt8) (k m:Nat) (e:Ending) (w':World):Prop :=
 ∃ W:ByteArray,W.data.toList=T∧e=.returned (.tuple #[.string W,.int .i64 (k:Nat)])∧Only g w w'∧(T=[]→Blk w' g 106 #[sv,.int .i64 key,.string S,.int .i64 (m:Nat),nv,.int .i64 2,.int .i64 (k:Nat)])∧(T≠[]→Blk w' g 106 #[sv,.int .i64 key,.string S,.int .i64 (m:Nat),nv,.int .i64 0,.int .i64 wh])
set_option maxRecDepth 100000 in
set_option maxHeartbeats 8000000 in
theorem rnext_any (g i:Nat) (sv nv:Value) (key wh:Int) (S:ByteArray) (w:World) (hB:Blk w g 106 #[sv,.int .i64 key,.string S,.int .i64 i,nv,.int .i64 0,.int .i64 wh]) (hi:i≤S.size) (hS:S.size≤65536) :
  Calls Tryz.prog 85 #[.pointer (some ⟨g,0,none⟩)] w (RetRNext w g sv nv key wh S (wd S.data.toList (sk S.data.toList i)) (sk S.data.toList i) (we S.data.toList (sk S.data.toList i))):=by
 have HSK:=Lib.hid (rspace_any g i sv nv key wh 0 S w hB hi hS);have hk:=sk_le (T:=S.data.toList) (by rw[size_data];exact hi);rw[size_data]at hk;obtain ⟨k,hkk⟩:∃ k,sk S.data.toList i=k:=⟨_,rfl⟩
 rw[hkk]at HSK hk ⊢;clear hB hkk;go_enter Tryz.func85,Tryz.ntmps85
 go_wp2_with fail
 refine HSK.out.mono ?_;rintro _ w1 ⟨rfl,hB,ho⟩;have HB:=Lib.hid hB;have HO:=Lib.hid ho;have c3:=hB.cell 3;simp only[jA,jZ,jS]at c3;clear hB ho HSK;go_wp2_with fail
 clear c3;go_loopg [] (S.size - k) (fun n wr=>∃ j:Nat,k≤j∧j≤S.size∧n=S.size - j∧Blk wr g 106 #[sv,.int .i64 key,.string S,.int .i64 j,nv,.int .i64 0,.int .i64 wh]∧Hid (we S.data.toList j=we S.data.toList k)∧Only g w wr)
 case atStart=>exact ⟨k,Nat.le_refl _,hk,rfl,HB.out,Lib.hid rfl,HO.out⟩
 case round =>
  clear HB HO;obtain ⟨j,hkj,hj,hn,hb,hwe,ho⟩:=hrel;have HN:=Lib.hid hn;have HBJ:=Lib.hid hb;have HO:=Lib.hid ho;clear hn ho;have c2:=hb.cell 2;have c3:=hb.cell 3;have f3:=hb.frozen 3;simp only[jA,jZ,jS]at c2 c3;clear hb;by_cases hlt:j<S.size
  ·by_cases hw:wdB S[j]=true
   ·have hne:=wdB_ne hw;have q1:((S[j].toNat:Int) != 32)=true:=by rw[bne_iff_ne];intro h;exact hne.1 (UInt8.toNat_inj.1 (by show S[j].toNat=32;omega))
    have q2:((S[j].toNat:Int) != 40)=true:=by rw[bne_iff_ne];intro h;exact hne.2 (.inl (UInt8.toNat_inj.1 (by show S[j].toNat=40;omega)))
    have q3:((S[j].toNat:Int) != 41)=true:=by rw[bne_iff_ne];intro h;exact hne.2 (.inr (UInt8.toNat_inj.1 (by show S[j].toNat=41;omega)))
    have HWE:=Lib.hid (show we S.data.toList (j+1)=we S.data.toList k by rw[←hwe.out];exact (we_go (get_data S j hlt) hw).symm);have q5:IntKind.i64.wrap ((j:Int)+1)=(j:Int)+1:=IntWalk.i64_in _ (by omega);clear hw hwe hne;go_wp2_with fail
    go_quiet (fail)
    go_wp2;have kb:=(HBJ.out.drewN nq).set_ 3 (.int .i64 ((j:Int)+1));simp only[jI,jY,jT]at kb;have ko:=(HO.out.drewN nq).set_ 3 (.int .i64 ((j:Int)+1));go_roundg (S.size - (j+1))
    case rel=>exact ⟨j+1,by omega,by omega,rfl,by rw[show ((j+1:Nat):Int)=(j:Int)+1 by omega];exact kb,Lib.hid HWE.out,ko⟩
    case measure=>have:=HN.out;omega
   ·have hwf:wdB S[j]=false:=by simpa using hw
    have HWE:=Lib.hid (show we S.data.toList k=j by rw[←hwe.out];exact we_stop (wd_stop (get_data S j hlt) hwf));rcases wdB_not hwf with h|h|h
    ·have q1:((S[j].toNat:Int) != 32)=false:=by rw[h];rfl
     clear h hw hwe hwf;go_wp2_with fail
     go_quiet (fail)
     have HBX:=Lib.hid (HBJ.out.drewN nq);have HOX:=Lib.hid (HO.out.drewN nq);clear HBJ HO;have c2:=HBX.out.cell 2;have c3:=HBX.out.cell 3;simp only[jA,jZ,jS]at c2 c3;have hjk:(k:Int)≤(j:Int):=by omega
     have hjs:(j:Int)≤(S.size:Int):=by omega
     by_cases hjk0:j=k
     ·have q9:((j:Int)==(k:Int))=true:=by rw[beq_iff_eq];omega
      have hT:=Lib.hid (show wd S.data.toList k=[] from we_eq.1 (by rw[HWE.out];exact hjk0));go_wp2_with fail
      refine (rfail_first g j sv nv key wh _ _ S _ HBX.out).mono ?_;rintro _ w2 ⟨rfl,hB2,ho2⟩;have HB2:=Lib.hid hB2;have HO2:=Lib.hid (HOX.out.trans ho2);clear hB2 ho2 c2 c3 hjk0;have c2:=HB2.out.cell 2;have c3:=HB2.out.cell 3;simp only[jA,jZ,jS]at c2 c3;go_wp2_with fail
      go_quiet (fail)
      go_wp2;exact bodyPost_ret (results_tmp2 Tryz.results85 _ _ _) rfl (by
       unfold RetRNext
       rw[HWE.out];exact ⟨_,by rw[ext_list,←HWE.out];exact wd_slice _ _,rfl,HO2.out.drewN _,fun _=>HB2.out.drewN _,fun h=>absurd hT.out h⟩)
     ·have q9:((j:Int)==(k:Int))=false:=by rw[beq_eq_false_iff_ne];omega
      have hT:=Lib.hid (show wd S.data.toList k≠[] from fun h=>hjk0 (by rw[←HWE.out];exact we_eq.2 h));clear hjk0;go_wp2_with fail
      go_quiet (fail)
      go_wp2;exact bodyPost_ret (results_tmp2 Tryz.results85 _ _ _) rfl (by
       unfold RetRNext
       rw[HWE.out];exact ⟨_,by rw[ext_list,←HWE.out];exact wd_slice _ _,rfl,HOX.out.drewN _,fun h=>absurd h hT.out,fun _=>HBX.out.drewN _⟩)
    ·have q1:((S[j].toNat:Int) != 32)=true:=by rw[h];rfl
     have q2:((S[j].toNat:Int) != 40)=false:=by rw[h];rfl
     clear h hw hwe hwf;go_wp2_with fail
     go_quiet (fail)
     have HBX:=Lib.hid (HBJ.out.drewN nq);have HOX:=Lib.hid (HO.out.drewN nq);clear HBJ HO;have c2:=HBX.out.cell 2;have c3:=HBX.out.cell 3;simp only[jA,jZ,jS]at c2 c3;have hjk:(k:Int)≤(j:Int):=by omega
     have hjs:(j:Int)≤(S.size:Int):=by omega
     by_cases hjk0:j=k
     ·have q9:((j:Int)==(k:Int))=true:=by rw[beq_iff_eq];omega
      have hT:=Lib.hid (show wd S.data.toList k=[] from we_eq.1 (by rw[HWE.out];exact hjk0));go_wp2_with fail
      refine (rfail_first g j sv nv key wh _ _ S _ HBX.out).mono ?_;rintro _ w2 ⟨rfl,hB2,ho2⟩;have HB2:=Lib.hid hB2;have HO2:=Lib.hid (HOX.out.trans ho2);clear hB2 ho2 c2 c3 hjk0;have c2:=HB2.out.cell 2;have c3:=HB2.out.cell 3;simp only[jA,jZ,jS]at c2 c3;go_wp2_with fail
      go_quiet (fail)
      go_wp2;exact bodyPost_ret (results_tmp2 Tryz.results85 _ _ _) rfl (by
       unfold RetRNext
       rw[HWE.out];exact ⟨_,by rw[ext_list,←HWE.out];exact wd_slice _ _,rfl,HO2.out.drewN _,fun _=>HB2.out.drewN _,fun h=>absurd hT.out h⟩)
     ·have q9:((j:Int)==(k:Int))=false:=by rw[beq_eq_false_iff_ne];omega
      have hT:=Lib.hid (show wd S.data.toList k≠[] from fun h=>hjk0 (by rw[←HWE.out];exact we_eq.2 h));clear hjk0;go_wp2_with fail
      go_quiet (fail)
      go_wp2;exact bodyPost_ret (results_tmp2 Tryz.results85 _ _ _) rfl (by
       unfold RetRNext
       rw[HWE.out];exact ⟨_,by rw[ext_list,←HWE.out];exact wd_slice _ _,rfl,HOX.out.drewN _,fun h=>absurd h hT.out,fun _=>HBX.out.drewN _⟩)
    ·have q1:((S[j].toNat:Int) != 32)=true:=by rw[h];rfl
     have q2:((S[j].toNat:Int) != 40)=true:=by rw[h];rfl
     have q3:((S[j].toNat:Int) != 41)=false:=by rw[h];rfl
     clear h hw hwe hwf;go_wp2_with fail
     go_quiet (fail)
     have HBX:=Lib.hid (HBJ.out.drewN nq);have HOX:=Lib.hid (HO.out.drewN nq);clear HBJ HO;have c2:=HBX.out.cell 2;have c3:=HBX.out.cell 3;simp only[jA,jZ,jS]at c2 c3;have hjk:(k:Int)≤(j:Int):=by omega
     have hjs:(j:Int)≤(S.size:Int):=by omega
     by_cases hjk0:j=k
     ·have q9:((j:Int)==(k:Int))=true:=by rw[beq_iff_eq];omega
      have hT:=Lib.hid (show wd S.data.toList k=[] from we_eq.1 (by rw[HWE.out];exact hjk0));go_wp2_with fail
      refine (rfail_first g j sv nv key wh _ _ S _ HBX.out).mono ?_;rintro _ w2 ⟨rfl,hB2,ho2⟩;have HB2:=Lib.hid hB2;have HO2:=Lib.hid (HOX.out.trans ho2);clear hB2 ho2 c2 c3 hjk0;have c2:=HB2.out.cell 2;have c3:=HB2.out.cell 3;simp only[jA,jZ,jS]at c2 c3;go_wp2_with fail
      go_quiet (fail)
      go_wp2;exact bodyPost_ret (results_tmp2 Tryz.results85 _ _ _) rfl (by
       unfold RetRNext
       rw[HWE.out];exact ⟨_,by rw[ext_list,←HWE.out];exact wd_slice _ _,rfl,HO2.out.drewN _,fun _=>HB2.out.drewN _,fun h=>absurd hT.out h⟩)
     ·have q9:((j:Int)==(k:Int))=false:=by rw[beq_eq_false_iff_ne];omega
      have hT:=Lib.hid (show wd S.data.toList k≠[] from fun h=>hjk0 (by rw[←HWE.out];exact we_eq.2 h));clear hjk0;go_wp2_with fail
      go_quiet (fail)
      go_wp2;exact bodyPost_ret (results_tmp2 Tryz.results85 _ _ _) rfl (by
       unfold RetRNext
       rw[HWE.out];exact ⟨_,by rw[ext_list,←HWE.out];exact wd_slice _ _,rfl,HOX.out.drewN _,fun h=>absurd h hT.out,fun _=>HBX.out.drewN _⟩)
  ·have HWE:=Lib.hid (show we S.data.toList k=j by rw[←hwe.out];exact we_stop (wd_end (by rw[size_data];omega)));clear hwe;go_wp2_with fail
   go_quiet (fail)
   have HBX:=Lib.hid (HBJ.out.drewN nq);have HOX:=Lib.hid (HO.out.drewN nq);clear HBJ HO;have c2:=HBX.out.cell 2;have c3:=HBX.out.cell 3;simp only[jA,jZ,jS]at c2 c3;have hjk:(k:Int)≤(j:Int):=by omega
   have hjs:(j:Int)≤(S.size:Int):=by omega
   by_cases hjk0:j=k
   ·have q9:((j:Int)==(k:Int))=true:=by rw[beq_iff_eq];omega
    have hT:=Lib.hid (show wd S.data.toList k=[] from we_eq.1 (by rw[HWE.out];exact hjk0));go_wp2_with fail
    refine (rfail_first g j sv nv key wh _ _ S _ HBX.out).mono ?_;rintro _ w2 ⟨rfl,hB2,ho2⟩;have HB2:=Lib.hid hB2;have HO2:=Lib.hid (HOX.out.trans ho2);clear hB2 ho2 c2 c3 hjk0;have c2:=HB2.out.cell 2;have c3:=HB2.out.cell 3;simp only[jA,jZ,jS]at c2 c3;go_wp2_with fail
    go_quiet (fail)
    go_wp2;exact bodyPost_ret (results_tmp2 Tryz.results85 _ _ _) rfl (by
     unfold RetRNext
     rw[HWE.out];exact ⟨_,by rw[ext_list,←HWE.out];exact wd_slice _ _,rfl,HO2.out.drewN _,fun _=>HB2.out.drewN _,fun h=>absurd hT.out h⟩)
   ·have q9:((j:Int)==(k:Int))=false:=by rw[beq_eq_false_iff_ne];omega
    have hT:=Lib.hid (show wd S.data.toList k≠[] from fun h=>hjk0 (by rw[←HWE.out];exact we_eq.2 h));clear hjk0;go_wp2_with fail
    go_quiet (fail)
    go_wp2;exact bodyPost_ret (results_tmp2 Tryz.results85 _ _ _) rfl (by
     unfold RetRNext
     rw[HWE.out];exact ⟨_,by rw[ext_list,←HWE.out];exact wd_slice _ _,rfl,HOX.out.drewN _,fun h=>absurd h hT.out,fun _=>HBX.out.drewN _⟩)
set_option maxRecDepth 100000 in
set_option maxHeartbeats 8000000 in
theorem roper_any (W:ByteArray) (w:World):Calls Tryz.prog 86 #[.string W] w fun e w'=>e=.returned (.int .i64 (opW W.data.toList:Nat))∧Below w.heap.size w w':=by
 go_enter Tryz.func86,Tryz.ntmps86
 go_wp2_with fail
 go_loopw [3] (fun n wr=>∃ k:Nat,k≤11∧n=.int .i64 ((k:Int)+1)∧Hid (∀ j:Nat,j<k→wordP ((j:Int)+1)≠W.data.toList)∧Below w.heap.size w wr) (fun n _=>12 - (intOf n).toNat)
 case atStart=>exact ⟨0,by omega,rfl,Lib.hid (fun j hj=>by omega),Below.refl _ _⟩
 case round =>
  obtain ⟨k,hk,rfl,hno,hbel⟩:=hrel;have HBE:=Lib.hid hbel;clear hbel;by_cases hlt:k<11
  ·have ql:decide ((k:Int)+1≤11)=true:=decide_eq_true (by omega);have wJ:IntKind.i64.wrap ((k:Int)+1+1)=(k:Int)+1+1:=IntWalk.i64_in _ (by omega);by_cases he:W.data.toList=wordP ((k:Int)+1)
   ·have q1:(wordP ((k:Int)+1)==W.toList)=true:=by rw[Go.ByteArray.toList_eq,he];exact beq_self_eq_true _
    have HR:=Lib.hid (opW_at hno.out he.symm hlt);clear he hno;go_wp2_with fail
    refine (rword_any _ (by omega) (by omega) wr).mono ?_;rintro _ _ ⟨rfl,rfl⟩;go_wp2;go_ret;rw[HR.out];exact ⟨by rw[show ((k+1:Nat):Int)=(k:Int)+1 by omega];rfl,HBE.out⟩
   ·have q1:(wordP ((k:Int)+1)==W.toList)=false:=by rw[Go.ByteArray.toList_eq];simpa using fun h=>he h.symm
    have HN:=Lib.hid (show ∀ j:Nat,j<k+1→wordP ((j:Int)+1)≠W.data.toList by
     intro j hj
     by_cases e:j=k
     ·subst e;exact fun h=>he h.symm
     ·exact hno.out j (by omega))
    clear he hno;go_wp2_with fail
    refine (rword_any _ (by omega) (by omega) wr).mono ?_;rintro _ _ ⟨rfl,rfl⟩;go_wp2;go_roundw
    case rel=>exact ⟨k+1,by omega,by rw[show ((k+1:Nat):Int)=(k:Int)+1 by omega],HN,HBE.out⟩
    case measure=>simp[intOf];omega
  ·have ql:decide ((k:Int)+1≤11)=false:=decide_eq_false (by omega);obtain rfl:k=11:=by omega
   have HR:=Lib.hid (opW_none hno.out);clear hno;go_wp2;go_ret;rw[HR.out];exact ⟨rfl,HBE.out⟩
def valZ (c:Col) (cn:Bool) (T:List UInt8) (i:Nat):Except (Nat×Int) (Nat×Vl) :=
 if wd T (sk T i)=[] then .error (sk T i,2)
 else if (vparV c.ty c.sc cn (wd T (sk T i))).2≠0 then .error (sk T i,(vparV c.ty c.sc cn (wd T (sk T i))).2)
 else .ok (we T (sk T i),vlP (vparV c.ty c.sc cn (wd T (sk T i))).1)
theorem valZ_emp {c:Col} {cn:Bool} {T:List UInt8} {i:Nat} (h:wd T (sk T i)=[]):valZ c cn T i=.error (sk T i,2):=if_pos h
theorem valZ_bad {c:Col} {cn:Bool} {T:List UInt8} {i:Nat} (h:wd T (sk T i)≠[]) (hf:(vparV c.ty c.sc cn (wd T (sk T i))).2≠0):valZ c cn T i=.error (sk T i,(vparV c.ty c.sc cn (wd T (sk T i))).2):=by unfold valZ;rw[if_neg h,if_pos hf]
theorem valZ_ok {c:Col} {cn:Bool} {T:List UInt8} {i:Nat} (h:wd T (sk T i)≠[]) (hf:(vparV c.ty c.sc cn (wd T (sk T i))).2=0):valZ c cn T i=.ok (we T (sk T i),vlP (vparV c.ty c.sc cn (wd T (sk T i))).1):=by unfold valZ;rw[if_neg h,if_neg (by rw[hf];simp)]
def RetRVal (w:World) (g:Nat) (sv nv:Value) (key wh:Int) (S:ByteArray) (r:Except (Nat×Int) (Nat×Vl)) (e:Ending) (w':World):Prop :=
 ∃ v:Vl,e=.returned (.agg #[.bool v.nu,.int .i64 v.n,.string v.s])∧Kp (fun i=>i=g) w w'∧match r with
 | .ok (j,y)=>v=y∧Blk w' g 106 #[sv,.int .i64 key,.string S,.int .i64 j,nv,.int .i64 0,.int .i64 wh]
 | .error (k,er)=>er≠0∧∃ i:Nat,i≤S.size∧Blk w' g 106 #[sv,.int .i64 key,.string S,.int .i64 i,nv,.int .i64 er,.int .i64 k]
set_option maxRecDepth 100000 in
set_option maxHeartbeats 8000000 in
theorem rval_any (w0:World) (g i:Nat) (sv nv:Value) (key wh:Int) (S:ByteArray) (c:Col) (cn:Bool) (w:World) (hB:Blk w g 106 #[sv,.int .i64 key,.string S,.int .i64 i,nv,.int .i64 0,.int .i64 wh]) (hi:i≤S.size) (hS:S.size≤65536) (hE:Env w0) (hb0:Below w0.heap.size w0 w) (hg:w0.heap.size≤g) :
  Calls Tryz.prog 107 #[.pointer (some ⟨g,0,none⟩),.agg #[.string c.nm,.int .i64 c.ty,.int .i64 c.sc,.bool cn]] w (RetRVal w g sv nv key wh S (valZ c cn S.data.toList i)):=by
 obtain ⟨W0,hW0⟩:∃ W0,W0=(w.alloc (.cells #[.string c.nm,.int .i64 c.ty,.int .i64 c.sc,.bool cn] 56)).alloc (.cells #[.bool false,.int .i64 0,.string { data:=#[] }] 64):=⟨_,rfl⟩
 have hbw:Below w.heap.size w W0:=by rw[hW0];exact abelS _ _ _
 obtain ⟨C,hC⟩:∃ C,w.heap.size=C:=⟨_,rfl⟩
 have HC:=Lib.hid (show Blk W0 C 56 #[.string c.nm,.int .i64 c.ty,.int .i64 c.sc,.bool cn] by rw[hW0,←hC];exact (Blk.new _ _ _).alloc _);have HR:=Lib.hid (show Blk W0 (C+1) 64 #[.bool false,.int .i64 0,.string { data:=#[] }] by rw[hW0,←hC];have h:=Blk.new (w.alloc (.cells #[.string c.nm,.int .i64 c.ty,.int .i64 c.sc,.bool cn] 56)) 64 #[.bool false,.int .i64 0,.string { data:=#[] }];simpa using h);have hgC:g<C:=by rw[←hC];exact hB.lt
 have hwC:w.heap.size=C:=hC;have HK0:=Lib.hid (Kp.below (S:=fun i=>i=g) Kp.refl hbw);have HNX:=Lib.hid (rnext_any g i sv nv key wh S W0 (hB.below hbw hB.lt) hi hS);have HBE:=Lib.hid (show Below w0.heap.size w0 W0 from hb0.trans (hbw.mono hb0.size));obtain ⟨k,hk⟩:∃ k,sk S.data.toList i=k:=⟨_,rfl⟩
 obtain ⟨T,hT⟩:∃ T,wd S.data.toList k=T:=⟨_,rfl⟩
 obtain ⟨m,hm⟩:∃ m,we S.data.toList k=m:=⟨_,rfl⟩
 have hkS:k≤S.size:=by rw[←hk,←size_data];exact sk_le (by rw[size_data];exact hi)
 have hmS:m≤S.size:=by rw[←hm,←size_data];exact we_le (by rw[size_data];exact hkS)
 have hTl:T.length≤65536:=by have h:=hmS;rw[←hm]at h;unfold we at h;rw[hT]at h;omega
 have H1:=Lib.hid (valZ_emp (c:=c) (cn:=cn) (T:=S.data.toList) (i:=i));have H2:=Lib.hid (valZ_bad (c:=c) (cn:=cn) (T:=S.data.toList) (i:=i));have H3:=Lib.hid (valZ_ok (c:=c) (cn:=cn) (T:=S.data.toList) (i:=i));rw[hk,hT,hm]at HNX;rw[hk,hT]at H1 H2 H3;rw[hm]at H3;clear hk hT hm hbw;go_enter Tryz.func107,Tryz.ntmps107
 go_upto_region 1 with (fail)
 rw[←hW0];try simp only[hC]
 clear hW0;go_wp2_with fail
 refine HNX.out.mono ?_;rintro _ w1 ⟨W,hW,rfl,ho,hBe,hBn⟩;have HK1:=Lib.hid (HK0.out.only ho (.inl rfl));have HC1:=Lib.hid (HC.out.row ho (by omega));have HR1:=Lib.hid (HR.out.row ho (by omega));have HBE1:=Lib.hid (below_only HBE.out ho hg HBE.out.size);clear ho HNX HC HR HK0 HBE;by_cases hTe:T=[]
 ·have HB1:=Lib.hid (hBe hTe);have c5:=(hBe hTe).cell 5;have r0:=HR1.out.cell 0;have r1:=HR1.out.cell 1;have r2:=HR1.out.cell 2;have f0:=HR1.out.frozen 0;have f1:=HR1.out.frozen 1;have f2:=HR1.out.frozen 2;simp only[jA,jZ,jS]at c5 r0 r1 r2;have HQ:=Lib.hid (H1.out hTe);have hlt:=HR1.out.lt;clear hBe hBn H1 H2 H3 hTe;go_wp2;have kb:=((HR1.out.set_ 0 (.bool false)).set_ 1 (.int .i64 0)).set_ 2 (.string { data:=#[] });simp only[jI,jY,jT]at kb;have r0':=kb.cell 0;have r1':=kb.cell 1;have r2':=kb.cell 2;simp only[jA,jZ,jS]at r0' r1' r2';rw[HQ.out];exact bodyPost_ret (v:=.agg #[.bool false,.int .i64 0,.string { data:=#[] }]) (by simp[results,Tryz.results107,go_sem,r0',r1',r2']) rfl
   ⟨⟨false,0,{ data:=#[] }⟩,rfl,((HK1.out.set (p:=⟨C+1,0,none⟩) (.inr (by show w.heap.size≤C+1;omega)) _).set (p:=⟨C+1,1,none⟩) (.inr (by show w.heap.size≤C+1;omega)) _).set (p:=⟨C+1,2,none⟩) (.inr (by show w.heap.size≤C+1;omega)) _,
    by decide,m,hmS,((HB1.out.row (grownBy_set _ ⟨C+1,0,none⟩ _) (show g≠C+1 by omega)).row (grownBy_set _ ⟨C+1,1,none⟩ _) (show g≠C+1 by omega)).row (grownBy_set _ ⟨C+1,2,none⟩ _) (show g≠C+1 by omega)⟩
 ·have HB1:=Lib.hid (hBn hTe);have c5:=(hBn hTe).cell 5;simp only[jA,jZ,jS]at c5;have hWs:W.size≤65536:=by rw[←size_data,hW];exact hTl
  have hq:vparV c.ty c.sc cn T=vparV c.ty c.sc cn W.data.toList:=by rw[hW]
  obtain ⟨vb,hb⟩:∃ b,(vparV c.ty c.sc cn W.data.toList).1.1=b:=⟨_,rfl⟩
  obtain ⟨vn,hn⟩:∃ n,(vparV c.ty c.sc cn W.data.toList).1.2.1=n:=⟨_,rfl⟩
  obtain ⟨vs,hs⟩:∃ s,(⟨(vparV c.ty c.sc cn W.data.toList).1.2.2.toArray⟩:ByteArray)=s:=⟨_,rfl⟩
  obtain ⟨er,hf⟩:∃ f,(vparV c.ty c.sc cn W.data.toList).2=f:=⟨_,rfl⟩
  have HV:=Lib.hid (vbV_of hb hn hs hf (rvpar_any c.nm c.ty c.sc cn W w1 (hE.below HBE1.out) (by omega)));have HVL:=Lib.hid (show vlP (vparV c.ty c.sc cn T).1=⟨vb,vn,vs⟩ by rw[hq,←hb,←hn,←hs];rfl);have HVE:=Lib.hid (show (vparV c.ty c.sc cn T).2=er by rw[hq];exact hf);have H2':=Lib.hid (H2.out hTe);have H3':=Lib.hid (H3.out hTe);clear hTe hW H1 H2 H3 hq hb hn hs hf hBe hBn;have bb:=HC1.out;have z0:=bb.cell 0;have z1:=bb.cell 1;have z2:=bb.cell 2;have z3:=bb.cell 3;simp only[jA,jZ,jS]at z0 z1 z2 z3;clear bb;go_wp2_with fail
  refine HV.out.mono ?_;rintro _ w2 ⟨rfl,hb2⟩;have HK2:=Lib.hid (HK1.out.below hb2);have HB2:=Lib.hid (HB1.out.below hb2 HB1.out.lt);have HR2:=Lib.hid (HR1.out.below hb2 HR1.out.lt);clear hb2 HV HK1 HB1 HR1 HC1 c5 z0 z1 z2 z3;obtain ⟨A,hA⟩:∃ A,w2.heap.size=A:=⟨_,rfl⟩
  obtain ⟨X,hX⟩:∃ X,X=w2.alloc (.cells #[.bool vb,.int .i64 vn,.string vs] 64):=⟨_,rfl⟩
  have HKX:=Lib.hid (show Kp (fun i=>i=g) w X by rw[hX];exact HK2.out.alloc _);have HBX:=Lib.hid (show Blk X g 106 #[sv,.int .i64 key,.string S,.int .i64 m,nv,.int .i64 0,.int .i64 wh] by rw[hX];exact HB2.out.alloc _);have HRX:=Lib.hid (show Blk X (C+1) 64 #[.bool false,.int .i64 0,.string { data:=#[] }] by rw[hX];exact HR2.out.alloc _);have HAX:=Lib.hid (show Blk X A 64 #[.bool vb,.int .i64 vn,.string vs] by rw[hX,←hA];exact Blk.new _ _ _);have hCA:C+1<A:=by rw[←hA];exact HR2.out.lt
  go_upto_region 5 with (fail)
  rw[←hX];try simp only[hA]
  clear hX hA HK2 HB2 HR2;by_cases her:er=0
  ·subst her;have HQ:=Lib.hid (H3'.out HVE.out);rw[HVL.out]at HQ;clear H2' H3';have a0:=HAX.out.cell 0;have a1:=HAX.out.cell 1;have a2:=HAX.out.cell 2;have r0:=HRX.out.cell 0;have r1:=HRX.out.cell 1;have r2:=HRX.out.cell 2;have f0:=HRX.out.frozen 0;have f1:=HRX.out.frozen 1;have f2:=HRX.out.frozen 2;simp only[jA,jZ,jS]at a0 a1 a2 r0 r1 r2;have hlt:=HRX.out.lt;go_wp2;have kb:=((HRX.out.set_ 0 (.bool vb)).set_ 1 (.int .i64 vn)).set_ 2 (.string vs);simp only[jI,jY,jT]at kb;have r0':=kb.cell 0;have r1':=kb.cell 1;have r2':=kb.cell 2;simp only[jA,jZ,jS]at r0' r1' r2';rw[HQ.out];exact bodyPost_ret (v:=.agg #[.bool vb,.int .i64 vn,.string vs]) (by simp[results,Tryz.results107,go_sem,r0',r1',r2']) rfl
    ⟨⟨vb,vn,vs⟩,rfl,((HKX.out.set (p:=⟨C+1,0,none⟩) (.inr (by show w.heap.size≤C+1;omega)) _).set (p:=⟨C+1,1,none⟩) (.inr (by show w.heap.size≤C+1;omega)) _).set (p:=⟨C+1,2,none⟩) (.inr (by show w.heap.size≤C+1;omega)) _,rfl,((HBX.out.row (grownBy_set _ ⟨C+1,0,none⟩ _) (show g≠C+1 by omega)).row (grownBy_set _ ⟨C+1,1,none⟩ _) (show g≠C+1 by omega)).row (grownBy_set _ ⟨C+1,2,none⟩ _) (show g≠C+1 by omega)⟩
  ·have q7:(er != 0)=true:=by simpa using her
   have HQ:=Lib.hid (H2'.out (by rw[HVE.out];exact her));have HER:=Lib.hid her;clear H2' H3' her;go_wp2_with fail
   refine (rfail_first g m sv nv key wh _ _ S X HBX.out).mono ?_;rintro _ X3 ⟨rfl,hB,ho⟩;have HKX:=Lib.hid (HKX.out.only ho (.inl rfl));have HRX:=Lib.hid (HRX.out.row ho (by omega));have HAX:=Lib.hid (HAX.out.row ho (by omega));have HBX:=Lib.hid hB;clear hB ho;have a0:=HAX.out.cell 0;have a1:=HAX.out.cell 1;have a2:=HAX.out.cell 2;have r0:=HRX.out.cell 0;have r1:=HRX.out.cell 1;have r2:=HRX.out.cell 2;have f0:=HRX.out.frozen 0;have f1:=HRX.out.frozen 1;have f2:=HRX.out.frozen 2;simp only[jA,jZ,jS]at a0 a1 a2 r0 r1 r2;have hlt:=HRX.out.lt;go_wp2;have kb:=((HRX.out.set_ 0 (.bool vb)).set_ 1 (.int .i64 vn)).set_ 2 (.string vs);simp only[jI,jY,jT]at kb;have r0':=kb.cell 0;have r1':=kb.cell 1;have r2':=kb.cell 2;simp only[jA,jZ,jS]at r0' r1' r2';rw[HQ.out,HVE.out];exact bodyPost_ret (v:=.agg #[.bool vb,.int .i64 vn,.string vs]) (by simp[results,Tryz.results107,go_sem,r0',r1',r2']) rfl
    ⟨⟨vb,vn,vs⟩,rfl,((HKX.out.set (p:=⟨C+1,0,none⟩) (.inr (by show w.heap.size≤C+1;omega)) _).set (p:=⟨C+1,1,none⟩) (.inr (by show w.heap.size≤C+1;omega)) _).set (p:=⟨C+1,2,none⟩) (.inr (by show w.heap.size≤C+1;omega)) _,HER.out,m,hmS,((HBX.out.row (grownBy_set _ ⟨C+1,0,none⟩ _) (show g≠C+1 by omega)).row (grownBy_set _ ⟨C+1,1,none⟩ _) (show g≠C+1 by omega)).row (grownBy_set _ ⟨C+1,2,none⟩ _) (show g≠C+1 by omega)⟩
end Go.Proofs.YtjnamjkdjcndiaaGreatDoor
