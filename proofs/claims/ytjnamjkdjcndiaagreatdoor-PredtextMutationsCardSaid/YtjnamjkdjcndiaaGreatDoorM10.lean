/-
  Words, plain laws and contracts on which the walks lean, in one text.
-/
import Derived.Test.YtjnamjkdjcndiaaGreatDoorM9
import Derived.Test.YtjnamjkdjcndiaaGreatDoorM7
namespace Go.Proofs.YtjnamjkdjcndiaaGreatDoor
open Go.RowKit Go.Sort
set_option linter.unusedVariables false
theorem digit_any (c:UInt8) (w:World):Calls Tryz.prog 183 #[.int .u8 (c.toNat:Int)] w (Ret0 w (digB c)):=by
 rcases digB_cases c with ⟨ho,h1,h2⟩|⟨ho,h1⟩|⟨ho,h1⟩
 all_goals
  have HO:=Lib.hid ho.symm;clear ho;go_enter Tryz.func183,Tryz.ntmps183
  go_wp2;go_ret;first
   | exact Ret0.mk_ HO.out.symm
   | exact Ret0.mk_ (HO.out.symm.trans (by symm;rw[decide_eq_true_eq];omega))
   | exact Ret0.mk_ (HO.out.symm.trans (by symm;rw[decide_eq_false_iff_not];omega))
def RetForm (w:World) (ng:Bool) (W F:ByteArray) (ok:Bool) (e:Ending) (w':World):Prop:=e=.returned (.tuple #[.bool ng,.string W,.string F,.bool ok])∧∃ n,w'=w.drewN n
theorem zero_next {Z:ByteArray} {j:Nat} (h:j<Z.size):zeroB (Z.data.toList.take (j+1))=(zeroB (Z.data.toList.take j)&&decide (Z[j].toNat=48)):=by
 have h':j<Z.data.toList.length:=by rw[size_data];exact h
 unfold zeroB
 rw[List.take_add_one,get_data Z j h,Option.toList_some,List.all_append,List.all_cons,List.all_nil,Bool.and_true]
theorem zero_all {Z:ByteArray} {j:Nat} (h:Z.size≤j):zeroB (Z.data.toList.take j)=zeroB Z.data.toList:=by
 rw[List.take_of_length_le (by rw[size_data];exact h)]
theorem spW_nil_form {t:List UInt8} (h:spW t=[]):formB t=false:=by unfold formB wholeOk;rw[h];rfl
theorem lead_form {t:List UInt8} (h1:1<(spW t).length) (h2:(spW t).headD 0=48):formB t=false:=by
 unfold formB wholeOk;rw[decide_eq_false (show ¬((spW t).length≤1) by omega),decide_eq_false (show ¬((spW t).headD 0≠48) by rw[h2];simp)];simp
theorem rest_form {t:List UInt8} (h:restOk (spR t)=false):formB t=false:=by unfold formB;rw[h,Bool.and_false]
theorem ok_form {t:List UInt8} (h0:spW t≠[]) (h1:(spW t).length≤1∨(spW t).headD 0≠48) (h:restOk (spR t)=true):formB t=true:=by
 unfold formB wholeOk;rw[h,decide_eq_true h0,Bool.and_true,Bool.true_and,Bool.or_eq_true,decide_eq_true_eq,decide_eq_true_eq];exact h1
theorem rest_dot {c:UInt8} {p:List UInt8} (h:c≠46):restOk (c::p)=false:=by simp[restOk,h]
theorem rest_nil {c:UInt8} {p:List UInt8} (h:p=[]):restOk (c::p)=false:=by simp[restOk,h]
theorem rest_dig {c:UInt8} {p:List UInt8} (h:p.all digB=false):restOk (c::p)=false:=by simp[restOk,h]
theorem rest_yes {p:List UInt8} (h:p≠[]) (h2:p.all digB=true):restOk (46::p)=true:=by simp[restOk,h,h2]
theorem drop_at {s:ByteArray} {k:Nat} (h:k<s.size):s.data.toList.drop k=s[k]::s.data.toList.drop (k+1):=by
 rw[List.drop_eq_getElem_cons (by rw[size_data];exact h)];rfl
theorem results_tmp4 {fn:Func} {t u v x:Tmp} (h:fn.results=#[.tmp t,.tmp u,.tmp v,.tmp x]) (tmps:Array Value) (P:Program) (w:World) :
  (results fn tmps).run P w=.ok (.tuple #[tmps.getD t undef,tmps.getD u undef,tmps.getD v undef,tmps.getD x undef]) w:=by
 simp[results,h]
def FormRes (s W F:ByteArray) (w:World) (e:Ending) (w':World):Prop :=
 (formB (bodyL s.data.toList)=false∧RetForm w false ⟨#[]⟩ ⟨#[]⟩ false e w')∨(formB (bodyL s.data.toList)=true∧RetForm w (negB s.data.toList) W F (!(negB s.data.toList&&zeroB (W++F).data.toList)) e w')
theorem FormRes.bad {s W F:ByteArray} {w:World} {n:Nat} (h:formB (bodyL s.data.toList)=false):FormRes s W F w (.returned (.tuple #[.bool false,.string ⟨#[]⟩,.string ⟨#[]⟩,.bool false])) (w.drewN n):=.inl ⟨h,rfl,n,rfl⟩
theorem FormRes.good {s W F:ByteArray} {w:World} {n:Nat} {ng ok:Bool} (h:formB (bodyL s.data.toList)=true) (h2:negB s.data.toList=ng) (h3:(!(ng&&zeroB (W++F).data.toList))=ok):FormRes s W F w (.returned (.tuple #[.bool ng,.string W,.string F,.bool ok])) (w.drewN n):=.inr ⟨h,by rw[h2,h3];exact ⟨rfl,n,rfl⟩⟩
set_option maxRecDepth 100000 in
set_option maxHeartbeats 4000000 in
theorem form_any (s W F:ByteArray) (hW:W.data.toList=spW (bodyL s.data.toList)) (hF:F.data.toList=(spR (bodyL s.data.toList)).tail) (w:World) (hs:s.size≤140737488351232) :
  Calls Tryz.prog 169 #[.string s] w (FormRes s W F w):=by
 obtain ⟨B,hB⟩:∃ B:ByteArray,B.data.toList=bodyL s.data.toList:=⟨⟨(bodyL s.data.toList).toArray⟩,by simp⟩
 have hBl:B.size≤s.size:=by rw[←size_data,←size_data,hB];exact body_len _
 rw[←hB]at hW hF;have HB:=Lib.hid hB;have HW:=Lib.hid hW;have HFF:=Lib.hid hF;have DG:=Lib.hid (fun (c:UInt8) X=>digit_any c X);have hvar:(s.size=0∧s=B∧negB s.data.toList=false)∨((0<s.size∧∀ h:0<s.size,(s[0].toNat:Int)≠45)∧s=B∧negB s.data.toList=false)∨((0<s.size∧∀ h:0<s.size,(s[0].toNat:Int)=45)∧s.extract 1 s.size=B∧negB s.data.toList=true):=by
  rcases Nat.eq_zero_or_pos s.size with h0|h0
  ·have e:s.data.toList=[]:=List.eq_nil_of_length_eq_zero (by rw[size_data];exact h0);refine .inl ⟨h0,strEq (by rw[hB,e];rfl),by rw[e];rfl⟩
  ·by_cases h:s[0]=45
   ·have hn:negB s.data.toList=true:=by unfold negB;rw[head_data s h0,decide_eq_true h]
    exact .inr (.inr ⟨⟨h0,fun _=>by rw[h];rfl⟩,strEq (by rw[hB];unfold bodyL;rw[hn,if_pos rfl,Lib.extract_from];simp),hn⟩)
   ·have hn:negB s.data.toList=false:=by unfold negB;rw[head_data s h0,decide_eq_false h]
    exact .inr (.inl ⟨⟨h0,fun _ e=>h (UInt8.toNat_inj.1 (by have:(45:UInt8).toNat=45:=rfl;omega))⟩,strEq (by rw[hB];unfold bodyL;rw[hn];rfl),hn⟩)
 clear hB hW hF;rcases hvar with ⟨v0,e,hn⟩|⟨⟨v0,v1⟩,e,hn⟩|⟨⟨v0,v1⟩,e,hn⟩
 ·subst e;have HNG:=Lib.hid hn;have HX:=Lib.hid (spW_nil_form (show spW s.data.toList=[] by rw[List.eq_nil_of_length_eq_zero (show s.data.toList.length=0 by rw[size_data];exact v0)];rfl));clear hn;go_enter Tryz.func169,Tryz.ntmps169
  go_wp2;go_loop [6] (fun i=>i=.int .i64 0) (fun _=>0)
  case atStart=>exact rfl
  case round =>
   obtain rfl:=hrel;go_wp2;try simp only[Exit.inBlock,Exit.then]
   refine bodyPost_ret (results_tmp4 rfl _ _ _) rfl ?_
   exact FormRes.bad (n:=0) (by rw[←HB.out];exact HX.out)
 ·subst e;have HNG:=Lib.hid hn;have v2:((s[0].toNat:Int)==45)=false:=by rw[beq_eq_false_iff_ne];exact v1 v0
  clear hn v1;go_enter Tryz.func169,Tryz.ntmps169
  go_wp2;go_loop [6] (fun i=>∃ k:Nat,k≤s.size∧i=.int .i64 k∧Hid (DigTo s k)) (fun i=>s.size - (intOf i).toNat)
  case atStart=>exact ⟨0,by omega,rfl,Lib.hid (DigTo.zero s)⟩
  case round =>
   obtain ⟨k,hk,rfl,hok⟩:=hrel;by_cases hlt:k<s.size
   ·cases DF:digB s[k] with
    | true =>
     have HO:=Lib.hid (hok.out.next hlt DF);have DC:=Lib.hid (DG.out s[k]);rw[DF]at DC;clear DF hok;go_wp2_with fail
     refine (DC.out _).mono ?_;rintro _ _ ⟨rfl,rfl⟩;go_wp2;go_round
     case rel=>exact ⟨k+1,by omega,by go_num,HO⟩
     case measure=>simp[intOf];omega
    | false =>
     have ho:=DF
     -- a byte that is no digit
     have SP:=Lib.hid (sp_at hok.out (by omega) (fun _=>ho));clear hok ho;have hWk:s.extract 0 k=W:=strEq (by rw[HW.out,SP.out.1,Lib.extract_upto]);have HWS:=Lib.hid (show W.size=k by rw[←size_data,HW.out,SP.out.1,List.length_take,size_data];omega);have hRd:=Lib.hid (show spR s.data.toList=s[k]::s.data.toList.drop (k+1) by rw[SP.out.2,drop_at hlt]);have hFk:s.extract (k+1) s.size=F:=strEq (by rw[HFF.out,hRd.out,Lib.extract_from];rfl);have HFD:=Lib.hid (show F.data.toList=s.data.toList.drop (k+1) by rw[HFF.out,hRd.out];rfl);have hFle:F.size≤s.size:=by rw[←size_data,HFD.out,List.length_drop,size_data];omega
     have DC:=Lib.hid (DG.out s[k]);rw[DF]at DC;by_cases h0:k=0
     ·have HX:=Lib.hid (spW_nil_form (show spW s.data.toList=[] by rw[SP.out.1,h0];rfl));have hk0:((W.size:Int)==0)=true:=by rw[beq_iff_eq];have:=HWS.out;omega
      clear h0;go_wp2_with fail
      refine (DC.out _).mono ?_;rintro _ _ ⟨rfl,rfl⟩;go_wp2
      (try simp only[Exit.inBlock,Exit.then]);refine bodyPost_ret (results_tmp4 rfl _ _ _) rfl ?_
      exact FormRes.bad (n:=0) (by rw[←HB.out];exact HX.out)
     have hk0:((W.size:Int)==0)=false:=by rw[beq_eq_false_iff_ne];have:=HWS.out;omega
     have hW0:0<W.size:=by have:=HWS.out;omega
     clear h0;by_cases hld:1<W.size∧(W[0].toNat:Int)=48
     ·obtain ⟨l1,l2⟩:=hld;have l3:((W[0].toNat:Int)==48)=true:=by simpa using l2
      have HX:=Lib.hid (lead_form (t:=s.data.toList) (by rw[←HW.out,size_data];exact l1) (by rw[←HW.out,head_data W hW0];exact UInt8.toNat_inj.1 (by have:(48:UInt8).toNat=48:=rfl;omega)));go_wp2_with fail
      refine (DC.out _).mono ?_;rintro _ _ ⟨rfl,rfl⟩;go_wp2
      (try simp only[Exit.inBlock,Exit.then]);refine bodyPost_ret (results_tmp4 rfl _ _ _) rfl ?_
      exact FormRes.bad (n:=0) (by rw[←HB.out];exact HX.out)
     have HH:=Lib.hid (show (spW s.data.toList).length≤1∨(spW s.data.toList).headD 0≠48 by
      rw[←HW.out,size_data,head_data W hW0];by_cases h1:1<W.size
      ·exact .inr (fun e=>hld ⟨h1,by rw[e];rfl⟩)
      ·exact .inl (by omega))
     have HNE:=Lib.hid (show spW s.data.toList≠[] by rw[←HW.out];intro e;have:=size_data W;rw[e]at this;simp at this;omega);have hld2:¬(1<W.size)∨(1<W.size∧((W[0].toNat:Int)==48)=false):=by
      by_cases h1:1<W.size
      ·exact .inr ⟨h1,by rw[beq_eq_false_iff_ne];exact fun h=>hld ⟨h1,h⟩⟩
      ·exact .inl h1
     clear hld;have hWFs:(W++F).size=W.size+F.size:=ByteArray.size_append;have hsum1:¬(9223372036854775807<W.size+F.size):=by have:=HWS.out;omega
     have hsum2:¬((9223372036854775807:Int)<(W.size:Int)+(F.size:Int)):=by omega
     by_cases hd46:s[k]=46
     case neg =>
      have hq:((s[k].toNat:Int) != 46)=true:=by simp;intro e;exact hd46 (UInt8.toNat_inj.1 (by have:(46:UInt8).toNat=46:=rfl;omega))
      have HX:=Lib.hid (rest_form (t:=s.data.toList) (by rw[hRd.out];exact rest_dot hd46));rcases hld2 with l1|⟨l1,l3⟩
      all_goals
       go_wp2_with fail
       refine (DC.out _).mono ?_;rintro _ _ ⟨rfl,rfl⟩;go_wp2
       (try simp only[Exit.inBlock,Exit.then]);refine bodyPost_ret (results_tmp4 rfl _ _ _) rfl ?_
       exact FormRes.bad (n:=0) (by rw[←HB.out];exact HX.out)
     have HDOT:=Lib.hid hd46;have hq:((s[k].toNat:Int) != 46)=false:=by rw[hd46];rfl
     clear hd46;by_cases hF0:F.size=0
     case pos =>
      have hf0:((F.size:Int)==0)=true:=by rw[beq_iff_eq];omega
      have HX:=Lib.hid (rest_form (t:=s.data.toList) (by rw[hRd.out];exact rest_nil (by rw[←HFD.out];exact List.eq_nil_of_length_eq_zero (by rw[size_data];exact hF0))));rcases hld2 with l1|⟨l1,l3⟩
      all_goals
       go_wp2_with fail
       refine (DC.out _).mono ?_;rintro _ _ ⟨rfl,rfl⟩;go_wp2
       (try simp only[Exit.inBlock,Exit.then]);refine bodyPost_ret (results_tmp4 rfl _ _ _) rfl ?_
       exact FormRes.bad (n:=0) (by rw[←HB.out];exact HX.out)
     have hf0:((F.size:Int)==0)=false:=by rw[beq_eq_false_iff_ne];omega
     rcases hld2 with l1|⟨l1,l3⟩
     all_goals
      go_wp2_with fail
      refine (DC.out _).mono ?_;rintro _ _ ⟨rfl,rfl⟩;go_wp2;go_loop [2,3,4,5,7] (fun a b c d i=>a=.bool false∧b=.string W∧c=.string F∧d=.bool false∧∃ j:Nat,j≤F.size∧i=.int .i64 j∧Hid (DigTo F j)) (fun _ _ _ _ i=>F.size - (intOf i).toNat)
      case atStart=>exact ⟨rfl,rfl,rfl,rfl,0,by omega,rfl,Lib.hid (DigTo.zero F)⟩
      case round =>
       obtain ⟨rfl,rfl,rfl,rfl,j,hj,rfl,hfo⟩:=hrel;by_cases hlj:j<F.size
       ·rcases digB_cases F[j] with ⟨hf,_,_⟩ | hf
        ·have HO:=Lib.hid (hfo.out.next hlj hf);have DC:=Lib.hid (DG.out F[j]);rw[hf]at DC;clear hf hfo;go_wp2_with fail
         refine (DC.out _).mono ?_;rintro _ _ ⟨rfl,rfl⟩;go_wp2;go_round
         case rel=>exact ⟨rfl,rfl,rfl,rfl,j+1,by omega,by go_num,HO⟩
         case measure=>simp[intOf];omega
        ·have hf2:digB F[j]=false:=hf.elim And.left And.left;have HX:=Lib.hid (rest_form (t:=s.data.toList) (by rw[hRd.out];exact rest_dig (by rw[←HFD.out];exact dig_not hlj hf2)));have DC:=Lib.hid (DG.out F[j]);rw[hf2]at DC;clear hf hf2 hfo;go_wp2_with fail
         refine (DC.out _).mono ?_;rintro _ _ ⟨rfl,rfl⟩;go_wp2
         (try simp only[Exit.inBlock,Exit.then]);refine bodyPost_ret (results_tmp4 rfl _ _ _) rfl ?_
         exact FormRes.bad (n:=0) (by rw[←HB.out];exact HX.out)
       ·have hFd:=Lib.hid (hfo.out.all (by omega));have HFO:=Lib.hid (ok_form HNE.out HH.out (by rw[hRd.out,HDOT.out];exact rest_yes (by rw[←HFD.out];intro e;have:=size_data F;rw[e]at this;simp at this;omega) (by rw[←HFD.out];exact hFd.out)));clear hfo;have HOK:=Lib.hid (show formB (bodyL s.data.toList)=true by rw[←HB.out];exact HFO.out);go_wp2;go_loop [8,9] (fun p i=>∃ (j:Nat) (b:Bool),j≤(W++F).size∧i=.int .i64 j∧p=.bool b∧Hid (b=zeroB ((W++F).data.toList.take j))) (fun _ i=>(W++F).size - (intOf i).toNat)
        case atStart=>exact ⟨0,true,by omega,rfl,rfl,Lib.hid rfl⟩
        case round =>
         obtain ⟨j,b,hj,rfl,rfl,hz⟩:=hrel;by_cases hlj:j<(W++F).size
         ·have hlj2:j<W.size+F.size:=by rw[←hWFs];exact hlj
          have hzn:=Lib.hid (zero_next hlj);cases b with
          | false =>
           have HZ:=Lib.hid (show false=zeroB ((W++F).data.toList.take (j+1)) by rw[hzn.out,←hz.out];rfl);clear hz hzn;go_wp2;go_round
           case rel=>exact ⟨j+1,false,by omega,by go_num,rfl,HZ⟩
           case measure=>simp[intOf,hWFs];omega
          | true =>
           by_cases hc:((W++F)[j].toNat:Int)=48
           ·have HZ:=Lib.hid (show true=zeroB ((W++F).data.toList.take (j+1)) by rw[hzn.out,←hz.out,decide_eq_true (by omega)];rfl);have hc2:(((W++F)[j].toNat:Int)==48)=true:=by simpa using hc
            clear hz hzn hc;go_wp2;go_round
            case rel=>exact ⟨j+1,true,by omega,by go_num,rfl,HZ⟩
            case measure=>simp[intOf,hWFs];omega
           ·have HZ:=Lib.hid (show false=zeroB ((W++F).data.toList.take (j+1)) by rw[hzn.out,decide_eq_false (by omega),Bool.and_false]);have hc2:(((W++F)[j].toNat:Int)==48)=false:=by rw[beq_eq_false_iff_ne];exact hc
            clear hz hzn hc;go_wp2;go_round
            case rel=>exact ⟨j+1,false,by omega,by go_num,rfl,HZ⟩
            case measure=>simp[intOf,hWFs];omega
         ·have HZ:=Lib.hid (show b=zeroB (W++F).data.toList by rw[hz.out];exact zero_all (by omega));clear hz;cases b
          all_goals
           go_wp2
           (try simp only[Exit.inBlock,Exit.then]);refine bodyPost_ret (results_tmp4 rfl _ _ _) rfl ?_
           exact FormRes.good (n:=0) HOK.out HNG.out (by rw[←HZ.out];rfl)
   ·skip
    -- all digits
    have SP:=Lib.hid (sp_at hok.out (by omega) (fun h=>absurd h hlt));clear hok;have hWk:s.extract 0 k=W:=strEq (by rw[HW.out,SP.out.1,Lib.extract_upto]);have HWS:=Lib.hid (show W.size=k by rw[←size_data,HW.out,SP.out.1,List.length_take,size_data];omega);have HFn:F=⟨#[]⟩:=strEq (by rw[HFF.out,SP.out.2,List.drop_eq_nil_of_le (by rw[size_data];omega)];rfl);have hRn:=Lib.hid (show restOk (spR s.data.toList)=true by rw[SP.out.2,List.drop_eq_nil_of_le (by rw[size_data];omega)];rfl);subst HFn;by_cases h0:k=0
    ·have HX:=Lib.hid (spW_nil_form (show spW s.data.toList=[] by rw[SP.out.1,h0];rfl));have hk0:((W.size:Int)==0)=true:=by rw[beq_iff_eq];have:=HWS.out;omega
     clear h0;go_wp2
     (try simp only[Exit.inBlock,Exit.then]);refine bodyPost_ret (results_tmp4 rfl _ _ _) rfl ?_
     exact FormRes.bad (n:=0) (by rw[←HB.out];exact HX.out)
    have hk0:((W.size:Int)==0)=false:=by rw[beq_eq_false_iff_ne];have:=HWS.out;omega
    have hW0:0<W.size:=by have:=HWS.out;omega
    clear h0;by_cases hld:1<W.size∧(W[0].toNat:Int)=48
    ·obtain ⟨l1,l2⟩:=hld;have l3:((W[0].toNat:Int)==48)=true:=by simpa using l2
     have HX:=Lib.hid (lead_form (t:=s.data.toList) (by rw[←HW.out,size_data];exact l1) (by rw[←HW.out,head_data W hW0];exact UInt8.toNat_inj.1 (by have:(48:UInt8).toNat=48:=rfl;omega)));go_wp2
     (try simp only[Exit.inBlock,Exit.then]);refine bodyPost_ret (results_tmp4 rfl _ _ _) rfl ?_
     exact FormRes.bad (n:=0) (by rw[←HB.out];exact HX.out)
    have HH:=Lib.hid (show (spW s.data.toList).length≤1∨(spW s.data.toList).headD 0≠48 by
     rw[←HW.out,size_data,head_data W hW0];by_cases h1:1<W.size
     ·exact .inr (fun e=>hld ⟨h1,by rw[e];rfl⟩)
     ·exact .inl (by omega))
    have HNE:=Lib.hid (show spW s.data.toList≠[] by rw[←HW.out];intro e;have:=size_data W;rw[e]at this;simp at this;omega);have hld2:¬(1<W.size)∨(1<W.size∧((W[0].toNat:Int)==48)=false):=by
     by_cases h1:1<W.size
     ·exact .inr ⟨h1,by rw[beq_eq_false_iff_ne];exact fun h=>hld ⟨h1,h⟩⟩
     ·exact .inl h1
    clear hld;have HFO:=Lib.hid (ok_form HNE.out HH.out hRn.out);have HWE:=Lib.hid (show W++(⟨#[]⟩:ByteArray)=W from strEq (by rw[ByteArray.data_append,Array.toList_append];simp));have hsum1:¬(9223372036854775807<W.size):=by have:=HWS.out;omega
    have hsum2:¬((9223372036854775807:Int)<(W.size:Int)):=by omega
    rcases hld2 with l1|⟨l1,l3⟩
    all_goals
     go_wp2;have HOK:=Lib.hid (show formB (bodyL s.data.toList)=true by rw[←HB.out];exact HFO.out);go_loop [8,9] (fun p i=>∃ (j:Nat) (b:Bool),j≤W.size∧i=.int .i64 j∧p=.bool b∧Hid (b=zeroB (W.data.toList.take j))) (fun _ i=>W.size - (intOf i).toNat)
     case atStart=>exact ⟨0,true,by omega,rfl,rfl,Lib.hid rfl⟩
     case round =>
      obtain ⟨j,b,hj,rfl,rfl,hz⟩:=hrel;by_cases hlj:j<W.size
      ·have hlj2:j<W.size:=hlj;have hzn:=Lib.hid (zero_next hlj);cases b with
       | false =>
        have HZ:=Lib.hid (show false=zeroB (W.data.toList.take (j+1)) by rw[hzn.out,←hz.out];rfl);clear hz hzn;go_wp2;go_round
        case rel=>exact ⟨j+1,false,by omega,by go_num,rfl,HZ⟩
        case measure=>simp[intOf];omega
       | true =>
        by_cases hc:(W[j].toNat:Int)=48
        ·have HZ:=Lib.hid (show true=zeroB (W.data.toList.take (j+1)) by rw[hzn.out,←hz.out,decide_eq_true (by omega)];rfl);have hc2:((W[j].toNat:Int)==48)=true:=by simpa using hc
         clear hz hzn hc;go_wp2;go_round
         case rel=>exact ⟨j+1,true,by omega,by go_num,rfl,HZ⟩
         case measure=>simp[intOf];omega
        ·have HZ:=Lib.hid (show false=zeroB (W.data.toList.take (j+1)) by rw[hzn.out,decide_eq_false (by omega),Bool.and_false]);have hc2:((W[j].toNat:Int)==48)=false:=by rw[beq_eq_false_iff_ne];exact hc
         clear hz hzn hc;go_wp2;go_round
         case rel=>exact ⟨j+1,false,by omega,by go_num,rfl,HZ⟩
         case measure=>simp[intOf];omega
      ·have HZ:=Lib.hid (show b=zeroB W.data.toList by rw[hz.out];exact zero_all (by omega));clear hz;cases b
       all_goals
        go_wp2
        (try simp only[Exit.inBlock,Exit.then]);refine bodyPost_ret (results_tmp4 rfl _ _ _) rfl ?_
        exact FormRes.good (n:=0) HOK.out HNG.out (by rw[HWE.out,←HZ.out];rfl)
 ·have HNG:=Lib.hid hn;have v2:((s[0].toNat:Int)==45)=true:=by simpa using v1 v0
  clear hn v1;go_enter Tryz.func169,Tryz.ntmps169
  go_wp2;go_quiet (fail)
  simp only[Exit.then];go_at_K
  go_wp2;go_loop [6] (fun i=>∃ k:Nat,k≤B.size∧i=.int .i64 k∧Hid (DigTo B k)) (fun i=>B.size - (intOf i).toNat)
  case atStart=>exact ⟨0,by omega,rfl,Lib.hid (DigTo.zero B)⟩
  case round =>
   obtain ⟨k,hk,rfl,hok⟩:=hrel;by_cases hlt:k<B.size
   ·cases DF:digB B[k] with
    | true =>
     have HO:=Lib.hid (hok.out.next hlt DF);have DC:=Lib.hid (DG.out B[k]);rw[DF]at DC;clear DF hok;go_wp2_with fail
     refine (DC.out _).mono ?_;rintro _ _ ⟨rfl,rfl⟩;go_wp2;go_round
     case rel=>exact ⟨k+1,by omega,by go_num,HO⟩
     case measure=>simp[intOf];omega
    | false =>
     have ho:=DF
     -- a byte that is no digit
     have SP:=Lib.hid (sp_at hok.out (by omega) (fun _=>ho));clear hok ho;have hWk:B.extract 0 k=W:=strEq (by rw[HW.out,SP.out.1,Lib.extract_upto]);have HWS:=Lib.hid (show W.size=k by rw[←size_data,HW.out,SP.out.1,List.length_take,size_data];omega);have hRd:=Lib.hid (show spR B.data.toList=B[k]::B.data.toList.drop (k+1) by rw[SP.out.2,drop_at hlt]);have hFk:B.extract (k+1) B.size=F:=strEq (by rw[HFF.out,hRd.out,Lib.extract_from];rfl);have HFD:=Lib.hid (show F.data.toList=B.data.toList.drop (k+1) by rw[HFF.out,hRd.out];rfl);have hFle:F.size≤B.size:=by rw[←size_data,HFD.out,List.length_drop,size_data];omega
     have DC:=Lib.hid (DG.out B[k]);rw[DF]at DC;by_cases h0:k=0
     ·have HX:=Lib.hid (spW_nil_form (show spW B.data.toList=[] by rw[SP.out.1,h0];rfl));have hk0:((W.size:Int)==0)=true:=by rw[beq_iff_eq];have:=HWS.out;omega
      clear h0;go_wp2_with fail
      refine (DC.out _).mono ?_;rintro _ _ ⟨rfl,rfl⟩;go_wp2
      (try simp only[Exit.inBlock,Exit.then]);refine bodyPost_ret (results_tmp4 rfl _ _ _) rfl ?_
      exact FormRes.bad (by rw[←HB.out];exact HX.out)
     have hk0:((W.size:Int)==0)=false:=by rw[beq_eq_false_iff_ne];have:=HWS.out;omega
     have hW0:0<W.size:=by have:=HWS.out;omega
     clear h0;by_cases hld:1<W.size∧(W[0].toNat:Int)=48
     ·obtain ⟨l1,l2⟩:=hld;have l3:((W[0].toNat:Int)==48)=true:=by simpa using l2
      have HX:=Lib.hid (lead_form (t:=B.data.toList) (by rw[←HW.out,size_data];exact l1) (by rw[←HW.out,head_data W hW0];exact UInt8.toNat_inj.1 (by have:(48:UInt8).toNat=48:=rfl;omega)));go_wp2_with fail
      refine (DC.out _).mono ?_;rintro _ _ ⟨rfl,rfl⟩;go_wp2
      (try simp only[Exit.inBlock,Exit.then]);refine bodyPost_ret (results_tmp4 rfl _ _ _) rfl ?_
      exact FormRes.bad (by rw[←HB.out];exact HX.out)
     have HH:=Lib.hid (show (spW B.data.toList).length≤1∨(spW B.data.toList).headD 0≠48 by
      rw[←HW.out,size_data,head_data W hW0];by_cases h1:1<W.size
      ·exact .inr (fun e=>hld ⟨h1,by rw[e];rfl⟩)
      ·exact .inl (by omega))
     have HNE:=Lib.hid (show spW B.data.toList≠[] by rw[←HW.out];intro e;have:=size_data W;rw[e]at this;simp at this;omega);have hld2:¬(1<W.size)∨(1<W.size∧((W[0].toNat:Int)==48)=false):=by
      by_cases h1:1<W.size
      ·exact .inr ⟨h1,by rw[beq_eq_false_iff_ne];exact fun h=>hld ⟨h1,h⟩⟩
      ·exact .inl h1
     clear hld;have hWFs:(W++F).size=W.size+F.size:=ByteArray.size_append;have hsum1:¬(9223372036854775807<W.size+F.size):=by have:=HWS.out;omega
     have hsum2:¬((9223372036854775807:Int)<(W.size:Int)+(F.size:Int)):=by omega
     by_cases hd46:B[k]=46
     case neg =>
      have hq:((B[k].toNat:Int) != 46)=true:=by simp;intro e;exact hd46 (UInt8.toNat_inj.1 (by have:(46:UInt8).toNat=46:=rfl;omega))
      have HX:=Lib.hid (rest_form (t:=B.data.toList) (by rw[hRd.out];exact rest_dot hd46));rcases hld2 with l1|⟨l1,l3⟩
      all_goals
       go_wp2_with fail
       refine (DC.out _).mono ?_;rintro _ _ ⟨rfl,rfl⟩;go_wp2
       (try simp only[Exit.inBlock,Exit.then]);refine bodyPost_ret (results_tmp4 rfl _ _ _) rfl ?_
       exact FormRes.bad (by rw[←HB.out];exact HX.out)
     have HDOT:=Lib.hid hd46;have hq:((B[k].toNat:Int) != 46)=false:=by rw[hd46];rfl
     clear hd46;by_cases hF0:F.size=0
     case pos =>
      have hf0:((F.size:Int)==0)=true:=by rw[beq_iff_eq];omega
      have HX:=Lib.hid (rest_form (t:=B.data.toList) (by rw[hRd.out];exact rest_nil (by rw[←HFD.out];exact List.eq_nil_of_length_eq_zero (by rw[size_data];exact hF0))));rcases hld2 with l1|⟨l1,l3⟩
      all_goals
       go_wp2_with fail
       refine (DC.out _).mono ?_;rintro _ _ ⟨rfl,rfl⟩;go_wp2
       (try simp only[Exit.inBlock,Exit.then]);refine bodyPost_ret (results_tmp4 rfl _ _ _) rfl ?_
       exact FormRes.bad (by rw[←HB.out];exact HX.out)
     have hf0:((F.size:Int)==0)=false:=by rw[beq_eq_false_iff_ne];omega
     rcases hld2 with l1|⟨l1,l3⟩
     all_goals
      go_wp2_with fail
      refine (DC.out _).mono ?_;rintro _ _ ⟨rfl,rfl⟩;go_wp2;go_loop [2,3,4,5,7] (fun a b c d i=>a=.bool true∧b=.string W∧c=.string F∧d=.bool false∧∃ j:Nat,j≤F.size∧i=.int .i64 j∧Hid (DigTo F j)) (fun _ _ _ _ i=>F.size - (intOf i).toNat)
      case atStart=>exact ⟨rfl,rfl,rfl,rfl,0,by omega,rfl,Lib.hid (DigTo.zero F)⟩
      case round =>
       obtain ⟨rfl,rfl,rfl,rfl,j,hj,rfl,hfo⟩:=hrel;by_cases hlj:j<F.size
       ·rcases digB_cases F[j] with ⟨hf,_,_⟩ | hf
        ·have HO:=Lib.hid (hfo.out.next hlj hf);have DC:=Lib.hid (DG.out F[j]);rw[hf]at DC;clear hf hfo;go_wp2_with fail
         refine (DC.out _).mono ?_;rintro _ _ ⟨rfl,rfl⟩;go_wp2;go_round
         case rel=>exact ⟨rfl,rfl,rfl,rfl,j+1,by omega,by go_num,HO⟩
         case measure=>simp[intOf];omega
        ·have hf2:digB F[j]=false:=hf.elim And.left And.left;have HX:=Lib.hid (rest_form (t:=B.data.toList) (by rw[hRd.out];exact rest_dig (by rw[←HFD.out];exact dig_not hlj hf2)));have DC:=Lib.hid (DG.out F[j]);rw[hf2]at DC;clear hf hf2 hfo;go_wp2_with fail
         refine (DC.out _).mono ?_;rintro _ _ ⟨rfl,rfl⟩;go_wp2
         (try simp only[Exit.inBlock,Exit.then]);refine bodyPost_ret (results_tmp4 rfl _ _ _) rfl ?_
         exact FormRes.bad (by rw[←HB.out];exact HX.out)
       ·have hFd:=Lib.hid (hfo.out.all (by omega));have HFO:=Lib.hid (ok_form HNE.out HH.out (by rw[hRd.out,HDOT.out];exact rest_yes (by rw[←HFD.out];intro e;have:=size_data F;rw[e]at this;simp at this;omega) (by rw[←HFD.out];exact hFd.out)));clear hfo;have HOK:=Lib.hid (show formB (bodyL s.data.toList)=true by rw[←HB.out];exact HFO.out);go_wp2;go_loop [8,9] (fun p i=>∃ (j:Nat) (b:Bool),j≤(W++F).size∧i=.int .i64 j∧p=.bool b∧Hid (b=zeroB ((W++F).data.toList.take j))) (fun _ i=>(W++F).size - (intOf i).toNat)
        case atStart=>exact ⟨0,true,by omega,rfl,rfl,Lib.hid rfl⟩
        case round =>
         obtain ⟨j,b,hj,rfl,rfl,hz⟩:=hrel;by_cases hlj:j<(W++F).size
         ·have hlj2:j<W.size+F.size:=by rw[←hWFs];exact hlj
          have hzn:=Lib.hid (zero_next hlj);cases b with
          | false =>
           have HZ:=Lib.hid (show false=zeroB ((W++F).data.toList.take (j+1)) by rw[hzn.out,←hz.out];rfl);clear hz hzn;go_wp2;go_round
           case rel=>exact ⟨j+1,false,by omega,by go_num,rfl,HZ⟩
           case measure=>simp[intOf,hWFs];omega
          | true =>
           by_cases hc:((W++F)[j].toNat:Int)=48
           ·have HZ:=Lib.hid (show true=zeroB ((W++F).data.toList.take (j+1)) by rw[hzn.out,←hz.out,decide_eq_true (by omega)];rfl);have hc2:(((W++F)[j].toNat:Int)==48)=true:=by simpa using hc
            clear hz hzn hc;go_wp2;go_round
            case rel=>exact ⟨j+1,true,by omega,by go_num,rfl,HZ⟩
            case measure=>simp[intOf,hWFs];omega
           ·have HZ:=Lib.hid (show false=zeroB ((W++F).data.toList.take (j+1)) by rw[hzn.out,decide_eq_false (by omega),Bool.and_false]);have hc2:(((W++F)[j].toNat:Int)==48)=false:=by rw[beq_eq_false_iff_ne];exact hc
            clear hz hzn hc;go_wp2;go_round
            case rel=>exact ⟨j+1,false,by omega,by go_num,rfl,HZ⟩
            case measure=>simp[intOf,hWFs];omega
         ·have HZ:=Lib.hid (show b=zeroB (W++F).data.toList by rw[hz.out];exact zero_all (by omega));clear hz;cases b
          all_goals
           go_wp2
           (try simp only[Exit.inBlock,Exit.then]);refine bodyPost_ret (results_tmp4 rfl _ _ _) rfl ?_
           exact FormRes.good HOK.out HNG.out (by rw[←HZ.out];rfl)
   ·skip
    -- all digits
    have SP:=Lib.hid (sp_at hok.out (by omega) (fun h=>absurd h hlt));clear hok;have hWk:B.extract 0 k=W:=strEq (by rw[HW.out,SP.out.1,Lib.extract_upto]);have HWS:=Lib.hid (show W.size=k by rw[←size_data,HW.out,SP.out.1,List.length_take,size_data];omega);have HFn:F=⟨#[]⟩:=strEq (by rw[HFF.out,SP.out.2,List.drop_eq_nil_of_le (by rw[size_data];omega)];rfl);have hRn:=Lib.hid (show restOk (spR B.data.toList)=true by rw[SP.out.2,List.drop_eq_nil_of_le (by rw[size_data];omega)];rfl);subst HFn;by_cases h0:k=0
    ·have HX:=Lib.hid (spW_nil_form (show spW B.data.toList=[] by rw[SP.out.1,h0];rfl));have hk0:((W.size:Int)==0)=true:=by rw[beq_iff_eq];have:=HWS.out;omega
     clear h0;go_wp2
     (try simp only[Exit.inBlock,Exit.then]);refine bodyPost_ret (results_tmp4 rfl _ _ _) rfl ?_
     exact FormRes.bad (by rw[←HB.out];exact HX.out)
    have hk0:((W.size:Int)==0)=false:=by rw[beq_eq_false_iff_ne];have:=HWS.out;omega
    have hW0:0<W.size:=by have:=HWS.out;omega
    clear h0;by_cases hld:1<W.size∧(W[0].toNat:Int)=48
    ·obtain ⟨l1,l2⟩:=hld;have l3:((W[0].toNat:Int)==48)=true:=by simpa using l2
     have HX:=Lib.hid (lead_form (t:=B.data.toList) (by rw[←HW.out,size_data];exact l1) (by rw[←HW.out,head_data W hW0];exact UInt8.toNat_inj.1 (by have:(48:UInt8).toNat=48:=rfl;omega)));go_wp2
     (try simp only[Exit.inBlock,Exit.then]);refine bodyPost_ret (results_tmp4 rfl _ _ _) rfl ?_
     exact FormRes.bad (by rw[←HB.out];exact HX.out)
    have HH:=Lib.hid (show (spW B.data.toList).length≤1∨(spW B.data.toList).headD 0≠48 by
     rw[←HW.out,size_data,head_data W hW0];by_cases h1:1<W.size
     ·exact .inr (fun e=>hld ⟨h1,by rw[e];rfl⟩)
     ·exact .inl (by omega))
    have HNE:=Lib.hid (show spW B.data.toList≠[] by rw[←HW.out];intro e;have:=size_data W;rw[e]at this;simp at this;omega);have hld2:¬(1<W.size)∨(1<W.size∧((W[0].toNat:Int)==48)=false):=by
     by_cases h1:1<W.size
     ·exact .inr ⟨h1,by rw[beq_eq_false_iff_ne];exact fun h=>hld ⟨h1,h⟩⟩
     ·exact .inl h1
    clear hld;have HFO:=Lib.hid (ok_form HNE.out HH.out hRn.out);have HWE:=Lib.hid (show W++(⟨#[]⟩:ByteArray)=W from strEq (by rw[ByteArray.data_append,Array.toList_append];simp));have hsum1:¬(9223372036854775807<W.size):=by have:=HWS.out;omega
    have hsum2:¬((9223372036854775807:Int)<(W.size:Int)):=by omega
    rcases hld2 with l1|⟨l1,l3⟩
    all_goals
     go_wp2;have HOK:=Lib.hid (show formB (bodyL s.data.toList)=true by rw[←HB.out];exact HFO.out);go_loop [8,9] (fun p i=>∃ (j:Nat) (b:Bool),j≤W.size∧i=.int .i64 j∧p=.bool b∧Hid (b=zeroB (W.data.toList.take j))) (fun _ i=>W.size - (intOf i).toNat)
     case atStart=>exact ⟨0,true,by omega,rfl,rfl,Lib.hid rfl⟩
     case round =>
      obtain ⟨j,b,hj,rfl,rfl,hz⟩:=hrel;by_cases hlj:j<W.size
      ·have hlj2:j<W.size:=hlj;have hzn:=Lib.hid (zero_next hlj);cases b with
       | false =>
        have HZ:=Lib.hid (show false=zeroB (W.data.toList.take (j+1)) by rw[hzn.out,←hz.out];rfl);clear hz hzn;go_wp2;go_round
        case rel=>exact ⟨j+1,false,by omega,by go_num,rfl,HZ⟩
        case measure=>simp[intOf];omega
       | true =>
        by_cases hc:(W[j].toNat:Int)=48
        ·have HZ:=Lib.hid (show true=zeroB (W.data.toList.take (j+1)) by rw[hzn.out,←hz.out,decide_eq_true (by omega)];rfl);have hc2:((W[j].toNat:Int)==48)=true:=by simpa using hc
         clear hz hzn hc;go_wp2;go_round
         case rel=>exact ⟨j+1,true,by omega,by go_num,rfl,HZ⟩
         case measure=>simp[intOf];omega
        ·have HZ:=Lib.hid (show false=zeroB (W.data.toList.take (j+1)) by rw[hzn.out,decide_eq_false (by omega),Bool.and_false]);have hc2:((W[j].toNat:Int)==48)=false:=by rw[beq_eq_false_iff_ne];exact hc
         clear hz hzn hc;go_wp2;go_round
         case rel=>exact ⟨j+1,false,by omega,by go_num,rfl,HZ⟩
         case measure=>simp[intOf];omega
      ·have HZ:=Lib.hid (show b=zeroB W.data.toList by rw[hz.out];exact zero_all (by omega));clear hz;cases b
       all_goals
        go_wp2
        (try simp only[Exit.inBlock,Exit.then]);refine bodyPost_ret (results_tmp4 rfl _ _ _) rfl ?_
        exact FormRes.good HOK.out HNG.out (by rw[HWE.out,←HZ.out];rfl)
set_option linter.unusedVariables false
theorem valN_lead {a:List UInt8} (ha:a.all digB=true) (hh:a.headD 0≠48) (hl:18<a.length) (p:List UInt8) (j:Nat):999999999999999999<valP a p j:=by
 have hne:a≠[]:=by intro e;rw[e]at hl;simp at hl
 obtain ⟨_,e⟩:=valN_pos a _ rfl hne ha hh;have h1:999999999999999999<valN a:=by
  by_cases h:valN a<10 ^ 18
  ·have:=dd_len_lt (valN a) 18 (by decide) h
   rw[e]at this;omega
  ·have e18:(10:Nat) ^ 18=1000000000000000000:=by decide
   omega
 rw[valP_eq,valN_app];have h2:valN a * 1≤valN a * 10 ^ p.length:=Nat.mul_le_mul_left _ (Nat.pow_pos (by decide));have h3:(valN a * 10 ^ p.length+valN p) * 1≤(valN a * 10 ^ p.length+valN p) * 10 ^ j:=Nat.mul_le_mul_left _ (Nat.pow_pos (by decide));omega
theorem take_val {Z:ByteArray} {q:Nat} (h:q<Z.size):valN (Z.data.toList.take (q+1))=valN (Z.data.toList.take q) * 10+(Z[q].toNat - 48):=by
 rw[List.take_add_one,get_data Z q h,Option.toList_some,valN_snoc]
theorem take_big {Z:ByteArray} {q:Nat} (h:q<Z.size) (hv:99999999999999999<valN (Z.data.toList.take q)):999999999999999999<valN Z.data.toList:=by
 have e:Z.data.toList=Z.data.toList.take q++Z.data.toList.drop q:=(List.take_append_drop q _).symm;rw[e,valN_app];have hl:1≤(Z.data.toList.drop q).length:=by rw[List.length_drop,size_data];omega
 have h1:10 ^ 1≤10 ^ (Z.data.toList.drop q).length:=Nat.pow_le_pow_right (by decide) hl;have h2:valN (Z.data.toList.take q) * 10 ^ 1≤valN (Z.data.toList.take q) * 10 ^ (Z.data.toList.drop q).length:=Nat.mul_le_mul_left _ h1;omega
def strSz:Value→Nat
 | .string s=>s.size
 | _=>0
theorem outP_big {ng:Bool} {v:Nat} (h:999999999999999999<v):outP ng v=(0,8):=if_pos h
theorem outP_small {ng:Bool} {v:Nat} (h:v≤999999999999999999):outP ng v=(if ng=true then -(v:Int) else (v:Int),0):=if_neg (by omega)
set_option maxRecDepth 100000 in
set_option maxHeartbeats 4000000 in
theorem rdecpar_any (s:ByteArray) (k:Int) (w:World) (hs:s.size≤140737488351232) :
  Calls Tryz.prog 145 #[.string s,.int .i64 k] w (RetRb w (decP s.data.toList k)):=by
 by_cases hk:scaB k=true
 case neg =>
  have hk':scaB k=false:=by simpa using hk
  have HO:=Lib.hid (decP_range (l:=s.data.toList) hk');have hk2:k<0∨(¬(k<0)∧18<k):=by unfold scaB at hk';simp at hk';omega
  clear hk hk';rcases hk2 with h|⟨h,h'⟩
  all_goals
   go_enter Tryz.func145,Tryz.ntmps145
   go_wp2;go_ret2
   exact RetRb.mk_ HO.out (Below.refl _ _)
 have HK:=Lib.hid hk;have hk2:=scaB_bd hk;obtain ⟨j,rfl⟩:=Int.eq_ofNat_of_zero_le hk2.1;have hj:j≤18:=by omega
 clear hk hk2;obtain ⟨W,hW⟩:∃ W:ByteArray,W.data.toList=spW (bodyL s.data.toList):=⟨⟨(spW (bodyL s.data.toList)).toArray⟩,by simp⟩
 obtain ⟨F,hF⟩:∃ F:ByteArray,F.data.toList=(spR (bodyL s.data.toList)).tail:=⟨⟨(spR (bodyL s.data.toList)).tail.toArray⟩,by simp⟩
 have hWF:W.size+F.size≤s.size:=by
  rw[←size_data,←size_data F,←size_data s,hW,hF];have h1:=body_len s.data.toList;have h2:=congrArg List.length (sp_whole (bodyL s.data.toList));rw[List.length_append]at h2;rw[List.length_tail];omega
 have FM:=Lib.hid (fun X=>form_any s W F hW hF X hs);have HW:=Lib.hid hW;have HF:=Lib.hid hF;obtain ⟨ng,hn⟩:∃ ng:Bool,negB s.data.toList=ng:=⟨_,rfl⟩
 obtain ⟨z,hz⟩:∃ z:Bool,(ng&&zeroB (W++F).data.toList)=z:=⟨_,rfl⟩
 have HN:=Lib.hid hn;have HZ:=Lib.hid hz;unfold FormRes at FM
 rw[hn,hz]at FM;have HD:=Lib.hid (show formB (bodyL s.data.toList)=true→decP s.data.toList (j:Int)=if z=true then (0,2) else if (j:Int)<(F.size:Int) then (0,8) else outP ng (valP W.data.toList F.data.toList (j - F.size)) from fun hf=>by
  unfold decP
  rw[if_neg (by rw[HK.out];decide),if_neg (by rw[hf];decide),hn,←hW,←hF,←Array.toList_append,←ByteArray.data_append,hz,size_data,Int.toNat_natCast])
 clear hW hF hn hz;have DONE:∀ {r:Int×Int} {n:Nat} {a b:Int},decP s.data.toList (j:Int)=(a,b)→RetRb w (decP s.data.toList (j:Int)) (.returned (.tuple #[.int .i64 a,.int .i64 b])) (w.drewN n):=fun h=>RetRb.mk_ h (below_dn w _)
 go_enter Tryz.func145,Tryz.ntmps145
 go_wp2_with fail
 refine (FM.out _).mono ?_;rintro _ w1 (⟨hf,rfl,n,rfl⟩|⟨hf,rfl,n,rfl⟩)
 ·have HO:=Lib.hid (decP_form (l:=s.data.toList) HK.out hf);clear hf;go_wp2;go_ret2
  exact RetRb.mk_ HO.out (below_dn w n)
 have HF1:=Lib.hid hf;have HD1:=Lib.hid (HD.out hf);clear hf;cases z with
 | true =>
  have HO:=Lib.hid (HD1.out.trans (if_pos rfl));go_wp2;go_ret2
  exact RetRb.mk_ HO.out (below_dn w n)
 | false =>
 have HD2:=Lib.hid (HD1.out.trans (if_neg (by decide)));by_cases hlong:(j:Int)<(F.size:Int)
 ·have HO:=Lib.hid (HD2.out.trans (if_pos hlong));go_wp2;go_ret2
  exact RetRb.mk_ HO.out (below_dn w n)
 have HD3:=Lib.hid (HD2.out.trans (if_neg hlong));have HWd:=Lib.hid (show W.data.toList.all digB=true by rw[HW.out];exact spW_all _);by_cases h18:18<W.size
 ·have HO:=Lib.hid (HD3.out.trans (outP_big (by
   refine valN_lead HWd.out ?_ (by rw[size_data];exact h18) _ _
   have h:=HF1.out;unfold formB wholeOk at h
   simp only[Bool.and_eq_true,Bool.or_eq_true,decide_eq_true_eq]at h;rw[←HW.out,size_data]at h;rcases h.1.2 with h2|h2
   ·omega
   ·exact h2)))
  go_wp2;go_ret2
  exact RetRb.mk_ HO.out (below_dn w n)
 have HFd:=Lib.hid (show F.data.toList.all digB=true by
  rw[HF.out];have h:=HF1.out;unfold formB at h
  rw[Bool.and_eq_true]at h;cases hr:spR (bodyL s.data.toList) with
  | nil=>rfl
  | cons c p =>
   rw[hr]at h;simp only[restOk,Bool.and_eq_true]at h;exact h.2.2.2)
 have hFj:F.size≤j:=by omega
 have hsum1:¬(9223372036854775807<W.size+F.size):=by omega
 have hsum2:¬((9223372036854775807:Int)<(W.size:Int)+(F.size:Int)):=by omega
 have hlong2:¬((j:Int)<(F.size:Int)):=hlong;go_wp2;go_loop [11] (fun t=>∃ (m:Nat) (Z:ByteArray),t=.string Z∧Hid (Z.data.toList=W.data.toList++F.data.toList++List.replicate m 48)∧m≤j - F.size∧Hid (Z.size=W.size+F.size+m)) (fun t=>W.size+j - strSz t)
 case atStart=>exact ⟨0,W++F,rfl,Lib.hid (by rw[ByteArray.data_append,Array.toList_append];simp),by omega,Lib.hid (by rw[ByteArray.size_append];rfl)⟩
 case round =>
  obtain ⟨m,Z,rfl,hZ,hm,hZs⟩:=hrel;by_cases hmj:m<j - F.size
  ·have c1:(Z.size:Int)<(W.size:Int)+(j:Int):=by have:=hZs.out;omega
   have c2:¬(9223372036854775807<Z.size+1):=by have:=hZs.out;omega
   have c3:¬((9223372036854775807:Int)<(Z.size:Int)+1):=by omega
   have HX:=Lib.hid (show Z.size<W.size+j by omega);go_wp2;go_round
   case rel=>exact ⟨m+1,Z ++ ⟨#[48]⟩,rfl,Lib.hid (by rw[ByteArray.data_append,Array.toList_append,hZ.out,List.replicate_succ'];simp),by omega,Lib.hid (by rw[ByteArray.size_append,hZs.out];rfl)⟩
   case measure =>
    have:=HX.out
    simp only[strSz,ByteArray.size_append];show W.size+j - (Z.size+1)<_
    omega
  ·have c1:¬((Z.size:Int)<(W.size:Int)+(j:Int)):=by have:=hZs.out;omega
   have HZv:=Lib.hid (show valN Z.data.toList=valP W.data.toList F.data.toList (j - F.size) by rw[hZ.out,show m=j - F.size by omega];rfl);have HZd:=Lib.hid (show Z.data.toList.all digB=true by rw[hZ.out,List.all_append,List.all_append,HWd.out,HFd.out,rep_dig];rfl);have hZb:Z.size≤9223372036854775806:=by have:=hZs.out;omega
   have HD4:=Lib.hid (show decP s.data.toList (j:Int)=outP ng (valN Z.data.toList) by rw[HZv.out];exact HD3.out);clear hZ hZs hm hmj;go_wp2;go_loop [4,5,10,12] (fun a b v i=>a=.int .i64 0∧b=.int .i64 0∧∃ q:Nat,q≤Z.size∧i=.int .i64 q∧v=.int .i64 (valN (Z.data.toList.take q):Int)∧Hid (valN (Z.data.toList.take q)≤999999999999999999)) (fun _ _ _ i=>Z.size - (intOf i).toNat)
   case atStart=>exact ⟨rfl,rfl,0,by omega,rfl,rfl,Lib.hid (by rw[List.take_zero];decide)⟩
   case round =>
    obtain ⟨rfl,rfl,q,hq,rfl,rfl,hv⟩:=hrel;by_cases hlq:q<Z.size
    ·obtain ⟨v,hve⟩:∃ v,valN (Z.data.toList.take q)=v:=⟨_,rfl⟩
     have HVE:=Lib.hid hve;rw[hve]at hv ⊢;clear hve;by_cases hbig:(99999999999999999:Int)<(v:Int)
     ·have HO:=Lib.hid (HD4.out.trans (outP_big (take_big hlq (by rw[HVE.out];omega))));clear hv;go_wp2;go_ret2
      exact RetRb.mk_ HO.out (below_dn w n)
     ·have hd:digB Z[q]=true:=all_mem HZd.out _ (List.mem_of_getElem? (get_data Z q hlq));unfold digB at hd
      rw[decide_eq_true_eq]at hd;obtain ⟨d1,d2⟩:=hd;have d3:48≤(Z[q].toNat:Int):=by omega
      have d4:(Z[q].toNat:Int)≤57:=by omega
      have HT:=Lib.hid (take_val hlq);clear hv d1 d2;go_wp2;go_round
      case rel=>exact ⟨rfl,rfl,q+1,by omega,by go_num,by rw[HT.out,HVE.out];first | go_num | (congr 1;omega),Lib.hid (by rw[HT.out,HVE.out];omega)⟩
      case measure=>simp[intOf];omega
    ·have HO:=Lib.hid (HD4.out.trans (outP_small (by have:=hv.out;rwa [List.take_of_length_le (by rw[size_data];omega)]at this)));have HTA:=Lib.hid (show Z.data.toList.take q=Z.data.toList from List.take_of_length_le (by rw[size_data];omega));rw[HTA.out];have hvb:=hv.out;rw[HTA.out]at hvb;clear hv;obtain ⟨v,hve⟩:∃ v,valN Z.data.toList=v:=⟨_,rfl⟩
     rw[hve]at HO hvb ⊢;clear hve;have hvb2:(v:Int)≤999999999999999999:=by omega
     cases ng
     all_goals
      go_wp2;go_ret2
      exact RetRb.mk_ HO.out (below_dn w n)
open Go.RowKit
theorem ext_tail (s:ByteArray):(s.extract 1 s.size).data.toList=s.data.toList.tail:=by
 rw[Lib.extract_data,←List.drop_one];exact List.take_of_length_le (by rw[List.length_drop,sizeD];exact Nat.le_refl _)
theorem readV_sg {s T:ByteArray} (h:s.extract 1 s.size=T) (h0:0<s.size) (hc:(s[0].toNat:Int)=45):readV s.data.toList=readT true T.data.toList:=by
 have e:s.data.toList.headD 0=45:=by rw[head_data s h0];apply UInt8.toNat.inj;show _=45;omega
 unfold readV;rw[if_pos e,←h,ext_tail]
theorem readV_un {s:ByteArray} (h:∀ h0:0<s.size,(s[0].toNat:Int)≠45):readV s.data.toList=readT false s.data.toList:=by
 unfold readV
 rw[if_neg];intro e
 by_cases h0:0<s.size
 ·rw[head_data s h0]at e;refine h h0 ?_
  rw[e];rfl
 ·have:s.data.toList=[]:=List.eq_nil_of_length_eq_zero (by rw[size_data];omega)
  rw[this]at e;cases e
theorem readT_nil {ng:Bool} {T:ByteArray} (h:T.size=0):readT ng T.data.toList=(0,2):=by
 have:T.data.toList=[]:=List.eq_nil_of_length_eq_zero (by rw[size_data];exact h)
 unfold readT;rw[if_pos (.inl this)]
theorem readT_zero {ng:Bool} {T:ByteArray} (h0:0<T.size) (hc:(T[0].toNat:Int)=48) (h:1<T.size∨ng=true):readT ng T.data.toList=(0,2):=by
 have e:T.data.toList.headD 0=48:=by rw[head_data T h0];apply UInt8.toNat.inj;show _=48;omega
 unfold readT;rw[if_pos (.inr ⟨e,by rw[size_data];exact h⟩)]
theorem readT_on {ng:Bool} {T:ByteArray} (h0:0<T.size) (h:(T[0].toNat:Int)≠48∨(T.size=1∧ng=false)) :
  readT ng T.data.toList=if T.data.toList.all digB=false then (0,2) else if 19<T.size then (0,8)
   else if ng=true then (if valN T.data.toList≤9223372036854775808 then (-(valN T.data.toList:Int),0) else (0,8)) else if valN T.data.toList<9223372036854775808 then ((valN T.data.toList:Int),0) else (0,8):=by
 unfold readT
 rw[if_neg,size_data];rintro (e|⟨e,e'⟩)
 ·have:=size_data T;rw[e]at this;simp at this;omega
 ·rcases h with h | ⟨h,h'⟩
  ·rw[head_data T h0]at e;apply h;rw[e];rfl
  ·rw[size_data]at e';rcases e' with e'|e'
   ·omega
   ·rw[h']at e';cases e'
def Digs (T:ByteArray) (k:Nat):Prop:=∀ j (h:j<T.size),j<k→digB T[j]=true
theorem Digs.next {s:ByteArray} {k:Nat} (h:Digs s k) (hk:k<s.size) (hc:digB s[k]=true):Digs s (k+1):=fun j hj hlt=>by
 by_cases e:j=k
 ·subst e;exact hc
 ·exact h j hj (by omega)
theorem Digs.all {s:ByteArray} (h:Digs s s.size):s.data.toList.all digB=true:=by
 rw[List.all_eq_true];intro c hc
 obtain ⟨k,hk⟩:=List.mem_iff_getElem?.1 hc;have hl:k<s.size:=by rw[←size_data];exact (List.getElem?_eq_some_iff.1 hk).1
 rw[get_data s k hl]at hk;injection hk with hk
 rw[←hk];exact h k hl hl
theorem digs_not {s:ByteArray} {k:Nat} (hk:k<s.size) (h:digB s[k]=false):s.data.toList.all digB=false:=by
 rw[List.all_eq_false];exact ⟨s[k],List.mem_of_getElem? (get_data s k hk),by simp[h]⟩
theorem all_at {s:ByteArray} (h:s.data.toList.all digB=true) {k:Nat} (hk:k<s.size):48≤s[k].toNat∧s[k].toNat≤57:=by
 rw[List.all_eq_true]at h;have:=h _ (List.mem_of_getElem? (get_data s k hk))
 unfold digB at this;rwa [decide_eq_true_eq]at this
theorem digB_int (c:UInt8):(digB c=true∧48≤(c.toNat:Int)∧(c.toNat:Int)≤57)∨(digB c=false∧((c.toNat:Int)<48∨57<(c.toNat:Int))):=by
 unfold digB
 by_cases h:48≤c.toNat∧c.toNat≤57
 ·exact .inl ⟨by rw[decide_eq_true_eq];exact h,by omega⟩
 ·exact .inr ⟨by rw[decide_eq_false_iff_not];exact h,by omega⟩
theorem valN_mono:∀ (r:List UInt8) (a:Nat),a≤r.foldl stepN a
 | [],a=>Nat.le_refl _
 | c::r,a=>Nat.le_trans (by unfold stepN;omega) (valN_mono r (stepN a c))
theorem valN_take_le (l:List UInt8) (k:Nat):valN (l.take k)≤valN l:=by
 have e:valN l=(l.drop k).foldl stepN (valN (l.take k)):=by
  unfold valN;rw[←List.foldl_append,List.take_append_drop]
 rw[e];exact valN_mono _ _
theorem valN_next {s:ByteArray} {k:Nat} (hk:k<s.size):valN (s.data.toList.take (k+1))=valN (s.data.toList.take k) * 10+(s[k].toNat - 48):=by
 rw[List.take_add_one,get_data s k hk,Option.toList_some,valN_snoc]
theorem valN_lt:∀ (l:List UInt8),l.all digB=true→valN l<10 ^ l.length:=by
 intro l
 induction h:l.length generalizing l with
 | zero=>intro _;obtain rfl:=List.eq_nil_of_length_eq_zero h;decide
 | succ n ih =>
  intro hd
  obtain ⟨r,c,rfl⟩:=list_snoc l (by intro e;rw[e]at h;cases h);rw[List.all_append,Bool.and_eq_true]at hd;have hc:digB c=true:=by simpa using hd.2
  unfold digB at hc
  rw[decide_eq_true_eq]at hc;have hl:r.length=n:=by simpa using h
  have:=ih r hl hd.1
  rw[valN_snoc,Nat.pow_succ];omega
theorem valN_19 {l:List UInt8} (h:l.all digB=true) (hl:l.length≤19):valN l≤9999999999999999999:=by
 have h1:=valN_lt l h;have h2:(10:Nat) ^ l.length≤10 ^ 19:=Nat.pow_le_pow_right (by decide) hl;have h3:(10:Nat) ^ 19=10000000000000000000:=by decide
 omega
theorem neg_conv (u:Nat) (h:u≤9223372036854775808):wrap64 (IntKind.u64.wrap (-(u:Int)))=-(u:Int):=by
 rw[IntKind.wrap_u64];unfold wrap64;omega
theorem readT_bad {ng:Bool} {T:ByteArray} (h0:0<T.size) (h:(T[0].toNat:Int)≠48∨(T.size=1∧ng=false)) {k:Nat} (hk:k<T.size) (hc:digB T[k]=false):readT ng T.data.toList=(0,2):=by
 rw[readT_on h0 h,if_pos (digs_not hk hc)]
theorem readT_long {ng:Bool} {T:ByteArray} (h0:0<T.size) (h:(T[0].toNat:Int)≠48∨(T.size=1∧ng=false)) (hd:T.data.toList.all digB=true) (hl:19<T.size):readT ng T.data.toList=(0,8):=by
 rw[readT_on h0 h,if_neg (by rw[hd];decide),if_pos hl]
theorem readT_pos {T:ByteArray} (h0:0<T.size) (h:(T[0].toNat:Int)≠48∨(T.size=1∧false=false)) (hd:T.data.toList.all digB=true) (hl:¬19<T.size) :
  readT false T.data.toList=if valN T.data.toList<9223372036854775808 then ((valN T.data.toList:Int),0) else (0,8):=by
 rw[readT_on h0 h,if_neg (by rw[hd];decide),if_neg hl,if_neg (by decide)]
theorem readT_neg {T:ByteArray} (h0:0<T.size) (h:(T[0].toNat:Int)≠48∨(T.size=1∧true=false)) (hd:T.data.toList.all digB=true) (hl:¬19<T.size) :
  readT true T.data.toList=if valN T.data.toList≤9223372036854775808 then (-(valN T.data.toList:Int),0) else (0,8):=by
 rw[readT_on h0 h,if_neg (by rw[hd];decide),if_neg hl,if_pos rfl]
theorem pos_conv (u:Nat) (h:u<9223372036854775808):wrap64 (u:Int)=(u:Int):=IntWalk.wrap64_in _ ⟨by omega,by omega⟩
set_option maxRecDepth 100000 in
set_option maxHeartbeats 4000000 in
theorem readnum_neg (s:ByteArray) (w:World) (hs:s.size≤9223372036854775807) (h0:0<s.size) (hc:(s[0].toNat:Int)=45):Calls Tryz.prog 143 #[.string s] w (RetRs w (readV s.data.toList)):=by
 obtain ⟨T,hT⟩:∃ T:ByteArray,s.extract 1 s.size=T:=⟨_,rfl⟩
 have hTs:T.size=s.size - 1:=by rw[←hT];simp
 obtain ⟨R,hR⟩:∃ R,readV s.data.toList=R:=⟨_,rfl⟩
 have HR:=Lib.hid ((readV_sg hT h0 hc).symm.trans hR);rw[hR];clear hR;have t1:((s[0].toNat:Int)==45)=true:=by simp;omega
 clear hc;by_cases hz:T.size=0
 ·have HE:=Lib.hid (HR.out.symm.trans (readT_nil hz));have hs1:s.size=1:=by omega
  clear hTs;go_enter Tryz.func143,Tryz.ntmps143
  go_wp2;go_ret2
  exact RetRs.mk_ HE.out
 have hz:0<T.size:=by omega
 have hs1:s.size=T.size+1:=by omega
 have hT2:s.extract 1 (T.size+1)=T:=by rw[←hs1];exact hT
 clear hTs hT;by_cases h48:(T[0].toNat:Int)=48
 ·have HE:=Lib.hid (HR.out.symm.trans (readT_zero hz h48 (.inr rfl)));have t2:((T[0].toNat:Int)==48)=true:=by simp;omega
  clear h48;go_enter Tryz.func143,Tryz.ntmps143
  go_wp2
  all_goals
   go_ret2
   exact RetRs.mk_ HE.out
 ·have hh:(T[0].toNat:Int)≠48∨(T.size=1∧true=false):=.inl h48;have t2:((T[0].toNat:Int)==48)=false:=by simp;omega
  clear h48;have HD:=Lib.hid (fun (k:Nat) (hk:k<T.size) (hc:digB T[k]=false)=>HR.out.symm.trans (readT_bad (ng:=true) (T:=T) hz hh hk hc));have HL:=Lib.hid (fun hd hl=>HR.out.symm.trans (readT_long (ng:=true) (T:=T) hz hh hd hl));have HV:=Lib.hid (fun hd hl=>HR.out.symm.trans (readT_neg (T:=T) hz hh hd hl));clear hh;have t3:((T.size:Int)==0)=false:=by rw[beq_eq_false_iff_ne];omega
  go_enter Tryz.func143,Tryz.ntmps143
  go_wp2;go_loop [6] (fun i=>∃ k:Nat,k≤T.size∧i=.int .i64 k∧Digs T k) (fun i=>T.size - (intOf i).toNat)
  case atStart=>exact ⟨0,Nat.zero_le _,rfl,fun j _ h=>absurd h (Nat.not_lt_zero _)⟩
  case round =>
   obtain ⟨k,hk,rfl,hdg⟩:=hrel;by_cases hlt:k<T.size
   ·rcases digB_int T[k] with ⟨d1,d2,d3⟩ | ⟨d1,d2⟩
    ·have HN:=Lib.hid (hdg.next hlt d1);clear d1;go_wp2;go_round
     case rel=>exact ⟨k+1,by omega,by go_num,HN.out⟩
     case measure=>simp[intOf];omega
    ·have HE:=Lib.hid (HD.out k hlt d1);clear d1;rcases d2 with d2|d2
     ·go_wp2;go_ret2
      exact RetRs.mk_ HE.out
     ·have d3:¬(T[k].toNat:Int)<48:=by omega
      go_wp2;go_ret2
      exact RetRs.mk_ HE.out
   ·obtain rfl:k=T.size:=by omega
    have hall:=hdg.all;have HA:=Lib.hid hall;by_cases hlong:19<T.size
    ·have HE:=Lib.hid (HL.out hall hlong);clear hall hdg;go_wp2
     all_goals
      go_ret2
      exact RetRs.mk_ HE.out
    ·have HF:=Lib.hid (HV.out hall hlong);have HU:=Lib.hid (valN_19 hall (by rw[size_data];omega));clear hall hdg;go_wp2;go_loop [7,8] (fun u i=>∃ (k:Nat),k≤T.size∧i=.int .i64 k∧u=.int .u64 (valN (T.data.toList.take k):Nat)) (fun _ i=>T.size - (intOf i).toNat)
     case atStart=>exact ⟨0,Nat.zero_le _,rfl,rfl⟩
     case round =>
      obtain ⟨k,hk,rfl,rfl⟩:=hrel;by_cases hlt:k<T.size
      ·obtain ⟨d1,d2⟩:=all_at HA.out hlt;have hv:=valN_next hlt;have hle:=Nat.le_trans (valN_take_le T.data.toList (k+1)) HU.out;obtain ⟨V,hV⟩:∃ V,valN (T.data.toList.take k)=V:=⟨_,rfl⟩
       rw[hV]at hv ⊢;rw[hv]at hle;have HN:=Lib.hid hv;clear hv hV;go_wp2;go_round
       case rel=>exact ⟨k+1,by omega,by go_num,by rw[HN.out];congr 1;omega⟩
       case measure=>simp[intOf];omega
      ·obtain rfl:k=T.size:=by omega
       have hU:=HU.out;obtain ⟨U,hUU⟩:∃ U,valN (T.data.toList.take T.size)=U:=⟨_,rfl⟩
       have hval:valN T.data.toList=U:=by rw[←hUU,List.take_of_length_le (by rw[size_data];exact Nat.le_refl _)]
       rw[hUU];rw[hval]at hU HF;clear hval hUU;by_cases hu:U≤9223372036854775808
       ·have HE:=Lib.hid (show R=(-(U:Int),0) by rw[HF.out,if_pos hu]);clear HF;go_wp2;go_ret2
        exact RetRs.mk_ (HE.out.trans (by rw[(neg_conv U hu)]))
       ·have HE:=Lib.hid (show R=(0,8) by rw[HF.out,if_neg hu]);clear HF;go_wp2;go_ret2
        exact RetRs.mk_ HE.out
set_option maxRecDepth 100000 in
set_option maxHeartbeats 4000000 in
theorem readnum_pos (s:ByteArray) (w:World) (hs:s.size≤9223372036854775807) (hc:∀ h0:0<s.size,(s[0].toNat:Int)≠45):Calls Tryz.prog 143 #[.string s] w (RetRs w (readV s.data.toList)):=by
 obtain ⟨R,hR⟩:∃ R,readV s.data.toList=R:=⟨_,rfl⟩
 have HR:=Lib.hid ((readV_un hc).symm.trans hR);rw[hR];clear hR;by_cases hz:s.size=0
 ·have HE:=Lib.hid (HR.out.symm.trans (readT_nil hz));clear hc;go_enter Tryz.func143,Tryz.ntmps143
  go_wp2;go_ret2
  exact RetRs.mk_ HE.out
 have hz:0<s.size:=by omega
 have t1:((s[0].toNat:Int)==45)=false:=by have:=hc hz;simp;omega
 clear hc;by_cases h48:(s[0].toNat:Int)=48
 ·have t2:((s[0].toNat:Int)==48)=true:=by simp;omega
  by_cases h1:1<s.size
  ·have HE:=Lib.hid (HR.out.symm.trans (readT_zero hz h48 (.inl h1)));clear h48;go_enter Tryz.func143,Tryz.ntmps143
   go_wp2;go_ret2
   exact RetRs.mk_ HE.out
  have hs1:s.size≤1:=by omega
  have hh:(s[0].toNat:Int)≠48∨(s.size=1∧false=false):=.inr ⟨by omega,rfl⟩;clear h48;have HD:=Lib.hid (fun (k:Nat) (hk:k<s.size) (hc:digB s[k]=false)=>HR.out.symm.trans (readT_bad (ng:=false) (T:=s) hz hh hk hc));have HL:=Lib.hid (fun hd hl=>HR.out.symm.trans (readT_long (ng:=false) (T:=s) hz hh hd hl));have HV:=Lib.hid (fun hd hl=>HR.out.symm.trans (readT_pos (T:=s) hz hh hd hl));clear hh;have t3:((s.size:Int)==0)=false:=by rw[beq_eq_false_iff_ne];omega
  go_enter Tryz.func143,Tryz.ntmps143
  go_wp2

  go_loop [6] (fun i=>∃ k:Nat,k≤s.size∧i=.int .i64 k∧Digs s k) (fun i=>s.size - (intOf i).toNat)
  case atStart=>exact ⟨0,Nat.zero_le _,rfl,fun j _ h=>absurd h (Nat.not_lt_zero _)⟩
  case round =>
   obtain ⟨k,hk,rfl,hdg⟩:=hrel;by_cases hlt:k<s.size
   ·rcases digB_int s[k] with ⟨d1,d2,d3⟩ | ⟨d1,d2⟩
    ·have HN:=Lib.hid (hdg.next hlt d1);clear d1;go_wp2;go_round
     case rel=>exact ⟨k+1,by omega,by go_num,HN.out⟩
     case measure=>simp[intOf];omega
    ·have HE:=Lib.hid (HD.out k hlt d1);clear d1;rcases d2 with d2|d2
     ·go_wp2;go_ret2
      exact RetRs.mk_ HE.out
     ·have d3:¬(s[k].toNat:Int)<48:=by omega
      go_wp2;go_ret2
      exact RetRs.mk_ HE.out
   ·obtain rfl:k=s.size:=by omega
    have hall:=hdg.all;have HA:=Lib.hid hall;by_cases hlong:19<s.size
    ·have HE:=Lib.hid (HL.out hall hlong);clear hall hdg;go_wp2
     all_goals
      go_ret2
      exact RetRs.mk_ HE.out
    ·have HF:=Lib.hid (HV.out hall hlong);have HU:=Lib.hid (valN_19 hall (by rw[size_data];omega));clear hall hdg;go_wp2;go_loop [7,8] (fun u i=>∃ (k:Nat),k≤s.size∧i=.int .i64 k∧u=.int .u64 (valN (s.data.toList.take k):Nat)) (fun _ i=>s.size - (intOf i).toNat)
     case atStart=>exact ⟨0,Nat.zero_le _,rfl,rfl⟩
     case round =>
      obtain ⟨k,hk,rfl,rfl⟩:=hrel;by_cases hlt:k<s.size
      ·obtain ⟨d1,d2⟩:=all_at HA.out hlt;have hv:=valN_next hlt;have hle:=Nat.le_trans (valN_take_le s.data.toList (k+1)) HU.out;obtain ⟨V,hV⟩:∃ V,valN (s.data.toList.take k)=V:=⟨_,rfl⟩
       rw[hV]at hv ⊢;rw[hv]at hle;have HN:=Lib.hid hv;clear hv hV;go_wp2;go_round
       case rel=>exact ⟨k+1,by omega,by go_num,by rw[HN.out];congr 1;omega⟩
       case measure=>simp[intOf];omega
      ·obtain rfl:k=s.size:=by omega
       have hU:=HU.out;obtain ⟨U,hUU⟩:∃ U,valN (s.data.toList.take s.size)=U:=⟨_,rfl⟩
       have hval:valN s.data.toList=U:=by rw[←hUU,List.take_of_length_le (by rw[size_data];exact Nat.le_refl _)]
       rw[hUU];rw[hval]at hU HF;clear hval hUU;by_cases hu:U<9223372036854775808
       ·have HE:=Lib.hid (show R=(wrap64 (U:Int),0) by rw[HF.out,if_pos hu,pos_conv U hu]);have t4:decide ((U:Int)<9223372036854775808)=true:=decide_eq_true (by omega);clear HF hu hU;go_wp2;go_ret2
        exact RetRs.mk_ HE.out
       ·have HE:=Lib.hid (show R=(0,8) by rw[HF.out,if_neg hu]);have t4:decide ((U:Int)<9223372036854775808)=false:=decide_eq_false (by omega);clear HF hu hU;go_wp2;go_ret2
        exact RetRs.mk_ HE.out
 ·have hh:(s[0].toNat:Int)≠48∨(s.size=1∧false=false):=.inl h48;have t2:((s[0].toNat:Int)==48)=false:=by simp;omega
  clear h48;have HD:=Lib.hid (fun (k:Nat) (hk:k<s.size) (hc:digB s[k]=false)=>HR.out.symm.trans (readT_bad (ng:=false) (T:=s) hz hh hk hc));have HL:=Lib.hid (fun hd hl=>HR.out.symm.trans (readT_long (ng:=false) (T:=s) hz hh hd hl));have HV:=Lib.hid (fun hd hl=>HR.out.symm.trans (readT_pos (T:=s) hz hh hd hl));clear hh;have t3:((s.size:Int)==0)=false:=by rw[beq_eq_false_iff_ne];omega
  go_enter Tryz.func143,Tryz.ntmps143
  go_wp2

  go_loop [6] (fun i=>∃ k:Nat,k≤s.size∧i=.int .i64 k∧Digs s k) (fun i=>s.size - (intOf i).toNat)
  case atStart=>exact ⟨0,Nat.zero_le _,rfl,fun j _ h=>absurd h (Nat.not_lt_zero _)⟩
  case round =>
   obtain ⟨k,hk,rfl,hdg⟩:=hrel;by_cases hlt:k<s.size
   ·rcases digB_int s[k] with ⟨d1,d2,d3⟩ | ⟨d1,d2⟩
    ·have HN:=Lib.hid (hdg.next hlt d1);clear d1;go_wp2;go_round
     case rel=>exact ⟨k+1,by omega,by go_num,HN.out⟩
     case measure=>simp[intOf];omega
    ·have HE:=Lib.hid (HD.out k hlt d1);clear d1;rcases d2 with d2|d2
     ·go_wp2;go_ret2
      exact RetRs.mk_ HE.out
     ·have d3:¬(s[k].toNat:Int)<48:=by omega
      go_wp2;go_ret2
      exact RetRs.mk_ HE.out
   ·obtain rfl:k=s.size:=by omega
    have hall:=hdg.all;have HA:=Lib.hid hall;by_cases hlong:19<s.size
    ·have HE:=Lib.hid (HL.out hall hlong);clear hall hdg;go_wp2
     all_goals
      go_ret2
      exact RetRs.mk_ HE.out
    ·have HF:=Lib.hid (HV.out hall hlong);have HU:=Lib.hid (valN_19 hall (by rw[size_data];omega));clear hall hdg;go_wp2;go_loop [7,8] (fun u i=>∃ (k:Nat),k≤s.size∧i=.int .i64 k∧u=.int .u64 (valN (s.data.toList.take k):Nat)) (fun _ i=>s.size - (intOf i).toNat)
     case atStart=>exact ⟨0,Nat.zero_le _,rfl,rfl⟩
     case round =>
      obtain ⟨k,hk,rfl,rfl⟩:=hrel;by_cases hlt:k<s.size
      ·obtain ⟨d1,d2⟩:=all_at HA.out hlt;have hv:=valN_next hlt;have hle:=Nat.le_trans (valN_take_le s.data.toList (k+1)) HU.out;obtain ⟨V,hV⟩:∃ V,valN (s.data.toList.take k)=V:=⟨_,rfl⟩
       rw[hV]at hv ⊢;rw[hv]at hle;have HN:=Lib.hid hv;clear hv hV;go_wp2;go_round
       case rel=>exact ⟨k+1,by omega,by go_num,by rw[HN.out];congr 1;omega⟩
       case measure=>simp[intOf];omega
      ·obtain rfl:k=s.size:=by omega
       have hU:=HU.out;obtain ⟨U,hUU⟩:∃ U,valN (s.data.toList.take s.size)=U:=⟨_,rfl⟩
       have hval:valN s.data.toList=U:=by rw[←hUU,List.take_of_length_le (by rw[size_data];exact Nat.le_refl _)]
       rw[hUU];rw[hval]at hU HF;clear hval hUU;by_cases hu:U<9223372036854775808
       ·have HE:=Lib.hid (show R=(wrap64 (U:Int),0) by rw[HF.out,if_pos hu,pos_conv U hu]);have t4:decide ((U:Int)<9223372036854775808)=true:=decide_eq_true (by omega);clear HF hu hU;go_wp2;go_ret2
        exact RetRs.mk_ HE.out
       ·have HE:=Lib.hid (show R=(0,8) by rw[HF.out,if_neg hu]);have t4:decide ((U:Int)<9223372036854775808)=false:=decide_eq_false (by omega);clear HF hu hU;go_wp2;go_ret2
        exact RetRs.mk_ HE.out
theorem readnum_any (s:ByteArray) (w:World) (hs:s.size≤9223372036854775807):Calls Tryz.prog 143 #[.string s] w (RetRs w (readV s.data.toList)):=by
 by_cases h:∃ h0:0<s.size,(s[0].toNat:Int)=45
 ·obtain ⟨h0,hc⟩:=h;exact readnum_neg s w hs h0 hc
 ·exact readnum_pos s w hs fun h0 hc=>h ⟨h0,hc⟩
end Go.Proofs.YtjnamjkdjcndiaaGreatDoor
