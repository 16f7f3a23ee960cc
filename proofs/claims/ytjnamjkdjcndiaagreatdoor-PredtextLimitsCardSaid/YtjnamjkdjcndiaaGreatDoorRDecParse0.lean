/-
 The contracts of ref1.digit,ref1.decimalForm,ref1.ParseDecimal.
-/
import Derived.Test.YtjnamjkdjcndiaaGreatDoorM9
namespace Go.Proofs.YtjnamjkdjcndiaaGreatDoor
open Go.RowKit Go.Sort
set_option linter.unusedVariables false
theorem digit_any (c:UInt8) (w:World):Calls Tryz.prog 183 #[.int .u8 (c.toNat:Int)] w (Ret0 w (digB c)):=by
 rcases digB_cases c with ⟨ho,h1,h2⟩|⟨ho,h1⟩|⟨ho,h1⟩
 all_goals
  have HO:=Lib.hid ho.symm
  clear ho
  go_enter Tryz.func183,Tryz.ntmps183
  go_wp2
  go_ret
  first
   | exact Ret0.mk_ HO.out.symm
   | exact Ret0.mk_ (HO.out.symm.trans (by symm;rw[decide_eq_true_eq];omega))
   | exact Ret0.mk_ (HO.out.symm.trans (by symm;rw[decide_eq_false_iff_not];omega))
def RetForm (w:World) (ng:Bool) (W F:ByteArray) (ok:Bool) (e:Ending) (w':World):Prop:=e=.returned (.tuple #[.bool ng,.string W,.string F,.bool ok])∧∃ n,w'=w.drewN n
theorem zero_next {Z:ByteArray} {j:Nat} (h:j<Z.size):zeroB (Z.data.toList.take (j+1))=(zeroB (Z.data.toList.take j)&&decide (Z[j].toNat=48)):=by
 have h':j<Z.data.toList.length:=by rw[size_data];exact h
 unfold zeroB
 rw[List.take_add_one,get_data Z j h,Option.toList_some,List.all_append,List.all_cons,List.all_nil,Bool.and_true]
theorem zero_all {Z:ByteArray} {j:Nat} (h:Z.size≤j):zeroB (Z.data.toList.take j)=zeroB Z.data.toList:=by
 rw[List.take_of_length_le (by rw[size_data];exact h)]
theorem spW_nil_form {t:List UInt8} (h:spW t=[]):formB t=false:=by unfold formB wholeOk;rw[h];rfl
theorem lead_form {t:List UInt8} (h1:1<(spW t).length) (h2:(spW t).headD 0=48):formB t=false:=by
 unfold formB wholeOk;rw[decide_eq_false (show ¬((spW t).length≤1) by omega),decide_eq_false (show ¬((spW t).headD 0≠48) by rw[h2];simp)];simp
theorem rest_form {t:List UInt8} (h:restOk (spR t)=false):formB t=false:=by unfold formB;rw[h,Bool.and_false]
theorem ok_form {t:List UInt8} (h0:spW t≠[]) (h1:(spW t).length≤1∨(spW t).headD 0≠48) (h:restOk (spR t)=true):formB t=true:=by
 unfold formB wholeOk;rw[h,decide_eq_true h0,Bool.and_true,Bool.true_and,Bool.or_eq_true,decide_eq_true_eq,decide_eq_true_eq];exact h1
theorem rest_dot {c:UInt8} {p:List UInt8} (h:c≠46):restOk (c::p)=false:=by simp[restOk,h]
theorem rest_nil {c:UInt8} {p:List UInt8} (h:p=[]):restOk (c::p)=false:=by simp[restOk,h]
theorem rest_dig {c:UInt8} {p:List UInt8} (h:p.all digB=false):restOk (c::p)=false:=by simp[restOk,h]
theorem rest_yes {p:List UInt8} (h:p≠[]) (h2:p.all digB=true):restOk (46::p)=true:=by simp[restOk,h,h2]
theorem drop_at {s:ByteArray} {k:Nat} (h:k<s.size):s.data.toList.drop k=s[k]::s.data.toList.drop (k+1):=by
 rw[List.drop_eq_getElem_cons (by rw[size_data];exact h)];rfl
theorem results_tmp4 {fn:Func} {t u v x:Tmp} (h:fn.results=#[.tmp t,.tmp u,.tmp v,.tmp x]) (tmps:Array Value) (P:Program) (w:World) :
  (results fn tmps).run P w=.ok (.tuple #[tmps.getD t undef,tmps.getD u undef,tmps.getD v undef,tmps.getD x undef]) w:=by
 simp[results,h]
def FormRes (s W F:ByteArray) (w:World) (e:Ending) (w':World):Prop :=
 (formB (bodyL s.data.toList)=false∧RetForm w false ⟨#[]⟩ ⟨#[]⟩ false e w')∨(formB (bodyL s.data.toList)=true∧RetForm w (negB s.data.toList) W F (!(negB s.data.toList&&zeroB (W++F).data.toList)) e w')
theorem FormRes.bad {s W F:ByteArray} {w:World} {n:Nat} (h:formB (bodyL s.data.toList)=false):FormRes s W F w (.returned (.tuple #[.bool false,.string ⟨#[]⟩,.string ⟨#[]⟩,.bool false])) (w.drewN n):=.inl ⟨h,rfl,n,rfl⟩
theorem FormRes.good {s W F:ByteArray} {w:World} {n:Nat} {ng ok:Bool} (h:formB (bodyL s.data.toList)=true) (h2:negB s.data.toList=ng) (h3:(!(ng&&zeroB (W++F).data.toList))=ok):FormRes s W F w (.returned (.tuple #[.bool ng,.string W,.string F,.bool ok])) (w.drewN n):=.inr ⟨h,by rw[h2,h3];exact ⟨rfl,n,rfl⟩⟩
set_option maxRecDepth 100000 in
set_option maxHeartbeats 4000000 in
theorem form_any (s W F:ByteArray) (hW:W.data.toList=spW (bodyL s.data.toList)) (hF:F.data.toList=(spR (bodyL s.data.toList)).tail) (w:World) (hs:s.size≤140737488351232) :
  Calls Tryz.prog 169 #[.string s] w (FormRes s W F w):=by
 obtain ⟨B,hB⟩:∃ B:ByteArray,B.data.toList=bodyL s.data.toList:=⟨⟨(bodyL s.data.toList).toArray⟩,by simp⟩
 have hBl:B.size≤s.size:=by rw[←size_data,←size_data,hB];exact body_len _
 rw[←hB]at hW hF
 have HB:=Lib.hid hB
 have HW:=Lib.hid hW
 have HFF:=Lib.hid hF
 have DG:=Lib.hid (fun (c:UInt8) X=>digit_any c X)
 have hvar:(s.size=0∧s=B∧negB s.data.toList=false)∨((0<s.size∧∀ h:0<s.size,(s[0].toNat:Int)≠45)∧s=B∧negB s.data.toList=false)∨((0<s.size∧∀ h:0<s.size,(s[0].toNat:Int)=45)∧s.extract 1 s.size=B∧negB s.data.toList=true):=by
  rcases Nat.eq_zero_or_pos s.size with h0|h0
  ·have e:s.data.toList=[]:=List.eq_nil_of_length_eq_zero (by rw[size_data];exact h0)
   refine .inl ⟨h0,strEq (by rw[hB,e];rfl),by rw[e];rfl⟩
  ·by_cases h:s[0]=45
   ·have hn:negB s.data.toList=true:=by unfold negB;rw[head_data s h0,decide_eq_true h]
    exact .inr (.inr ⟨⟨h0,fun _=>by rw[h];rfl⟩,strEq (by rw[hB];unfold bodyL;rw[hn,if_pos rfl,Lib.extract_from];simp),hn⟩)
   ·have hn:negB s.data.toList=false:=by unfold negB;rw[head_data s h0,decide_eq_false h]
    exact .inr (.inl ⟨⟨h0,fun _ e=>h (UInt8.toNat_inj.1 (by have:(45:UInt8).toNat=45:=rfl;omega))⟩,strEq (by rw[hB];unfold bodyL;rw[hn];rfl),hn⟩)
 clear hB hW hF
 rcases hvar with ⟨v0,e,hn⟩|⟨⟨v0,v1⟩,e,hn⟩|⟨⟨v0,v1⟩,e,hn⟩
 ·subst e
  have HNG:=Lib.hid hn
  have HX:=Lib.hid (spW_nil_form (show spW s.data.toList=[] by rw[List.eq_nil_of_length_eq_zero (show s.data.toList.length=0 by rw[size_data];exact v0)];rfl))
  clear hn
  go_enter Tryz.func169,Tryz.ntmps169
  go_wp2
  go_loop [6] (fun i=>i=.int .i64 0) (fun _=>0)
  case atStart=>exact rfl
  case round =>
   obtain rfl:=hrel
   go_wp2
   try simp only[Exit.inBlock,Exit.then]
   refine bodyPost_ret (results_tmp4 rfl _ _ _) rfl ?_
   exact FormRes.bad (n:=0) (by rw[←HB.out];exact HX.out)
 ·subst e
  have HNG:=Lib.hid hn
  have v2:((s[0].toNat:Int)==45)=false:=by rw[beq_eq_false_iff_ne];exact v1 v0
  clear hn v1
  go_enter Tryz.func169,Tryz.ntmps169
  go_wp2
  go_loop [6] (fun i=>∃ k:Nat,k≤s.size∧i=.int .i64 k∧Hid (DigTo s k)) (fun i=>s.size - (intOf i).toNat)
  case atStart=>exact ⟨0,by omega,rfl,Lib.hid (DigTo.zero s)⟩
  case round =>
   obtain ⟨k,hk,rfl,hok⟩:=hrel
   by_cases hlt:k<s.size
   ·cases DF:digB s[k] with
    | true =>
     have HO:=Lib.hid (hok.out.next hlt DF)
     have DC:=Lib.hid (DG.out s[k])
     rw[DF]at DC
     clear DF hok
     go_wp2_with fail
     refine (DC.out _).mono ?_
     rintro _ _ ⟨rfl,rfl⟩
     go_wp2
     go_round
     case rel=>exact ⟨k+1,by omega,by go_num,HO⟩
     case measure=>simp[intOf];omega
    | false =>
     have ho:=DF
     -- a byte that is no digit
     have SP:=Lib.hid (sp_at hok.out (by omega) (fun _=>ho))
     clear hok ho
     have hWk:s.extract 0 k=W:=strEq (by rw[HW.out,SP.out.1,Lib.extract_upto])
     have HWS:=Lib.hid (show W.size=k by rw[←size_data,HW.out,SP.out.1,List.length_take,size_data];omega)
     have hRd:=Lib.hid (show spR s.data.toList=s[k]::s.data.toList.drop (k+1) by rw[SP.out.2,drop_at hlt])
     have hFk:s.extract (k+1) s.size=F:=strEq (by rw[HFF.out,hRd.out,Lib.extract_from];rfl)
     have HFD:=Lib.hid (show F.data.toList=s.data.toList.drop (k+1) by rw[HFF.out,hRd.out];rfl)
     have hFle:F.size≤s.size:=by rw[←size_data,HFD.out,List.length_drop,size_data];omega
     have DC:=Lib.hid (DG.out s[k])
     rw[DF]at DC
     by_cases h0:k=0
     ·have HX:=Lib.hid (spW_nil_form (show spW s.data.toList=[] by rw[SP.out.1,h0];rfl))
      have hk0:((W.size:Int)==0)=true:=by rw[beq_iff_eq];have:=HWS.out;omega
      clear h0
      go_wp2_with fail
      refine (DC.out _).mono ?_
      rintro _ _ ⟨rfl,rfl⟩
      go_wp2
      (try simp only[Exit.inBlock,Exit.then]);refine bodyPost_ret (results_tmp4 rfl _ _ _) rfl ?_
      exact FormRes.bad (n:=0) (by rw[←HB.out];exact HX.out)
     have hk0:((W.size:Int)==0)=false:=by rw[beq_eq_false_iff_ne];have:=HWS.out;omega
     have hW0:0<W.size:=by have:=HWS.out;omega
     clear h0
     by_cases hld:1<W.size∧(W[0].toNat:Int)=48
     ·obtain ⟨l1,l2⟩:=hld
      have l3:((W[0].toNat:Int)==48)=true:=by simpa using l2
      have HX:=Lib.hid (lead_form (t:=s.data.toList) (by rw[←HW.out,size_data];exact l1) (by rw[←HW.out,head_data W hW0];exact UInt8.toNat_inj.1 (by have:(48:UInt8).toNat=48:=rfl;omega)))
      go_wp2_with fail
      refine (DC.out _).mono ?_
      rintro _ _ ⟨rfl,rfl⟩
      go_wp2
      (try simp only[Exit.inBlock,Exit.then]);refine bodyPost_ret (results_tmp4 rfl _ _ _) rfl ?_
      exact FormRes.bad (n:=0) (by rw[←HB.out];exact HX.out)
     have HH:=Lib.hid (show (spW s.data.toList).length≤1∨(spW s.data.toList).headD 0≠48 by
      rw[←HW.out,size_data,head_data W hW0]
      by_cases h1:1<W.size
      ·exact .inr (fun e=>hld ⟨h1,by rw[e];rfl⟩)
      ·exact .inl (by omega))
     have HNE:=Lib.hid (show spW s.data.toList≠[] by rw[←HW.out];intro e;have:=size_data W;rw[e]at this;simp at this;omega)
     have hld2:¬(1<W.size)∨(1<W.size∧((W[0].toNat:Int)==48)=false):=by
      by_cases h1:1<W.size
      ·exact .inr ⟨h1,by rw[beq_eq_false_iff_ne];exact fun h=>hld ⟨h1,h⟩⟩
      ·exact .inl h1
     clear hld
     have hWFs:(W++F).size=W.size+F.size:=ByteArray.size_append
     have hsum1:¬(9223372036854775807<W.size+F.size):=by have:=HWS.out;omega
     have hsum2:¬((9223372036854775807:Int)<(W.size:Int)+(F.size:Int)):=by omega
     by_cases hd46:s[k]=46
     case neg =>
      have hq:((s[k].toNat:Int) != 46)=true:=by simp;intro e;exact hd46 (UInt8.toNat_inj.1 (by have:(46:UInt8).toNat=46:=rfl;omega))
      have HX:=Lib.hid (rest_form (t:=s.data.toList) (by rw[hRd.out];exact rest_dot hd46))
      rcases hld2 with l1|⟨l1,l3⟩
      all_goals
       go_wp2_with fail
       refine (DC.out _).mono ?_
       rintro _ _ ⟨rfl,rfl⟩
       go_wp2
       (try simp only[Exit.inBlock,Exit.then]);refine bodyPost_ret (results_tmp4 rfl _ _ _) rfl ?_
       exact FormRes.bad (n:=0) (by rw[←HB.out];exact HX.out)
     have HDOT:=Lib.hid hd46
     have hq:((s[k].toNat:Int) != 46)=false:=by rw[hd46];rfl
     clear hd46
     by_cases hF0:F.size=0
     case pos =>
      have hf0:((F.size:Int)==0)=true:=by rw[beq_iff_eq];omega
      have HX:=Lib.hid (rest_form (t:=s.data.toList) (by rw[hRd.out];exact rest_nil (by rw[←HFD.out];exact List.eq_nil_of_length_eq_zero (by rw[size_data];exact hF0))))
      rcases hld2 with l1|⟨l1,l3⟩
      all_goals
       go_wp2_with fail
       refine (DC.out _).mono ?_
       rintro _ _ ⟨rfl,rfl⟩
       go_wp2
       (try simp only[Exit.inBlock,Exit.then]);refine bodyPost_ret (results_tmp4 rfl _ _ _) rfl ?_
       exact FormRes.bad (n:=0) (by rw[←HB.out];exact HX.out)
     have hf0:((F.size:Int)==0)=false:=by rw[beq_eq_false_iff_ne];omega
     rcases hld2 with l1|⟨l1,l3⟩
     all_goals
      go_wp2_with fail
      refine (DC.out _).mono ?_
      rintro _ _ ⟨rfl,rfl⟩
      go_wp2
      go_loop [2,3,4,5,7] (fun a b c d i=>a=.bool false∧b=.string W∧c=.string F∧d=.bool false∧∃ j:Nat,j≤F.size∧i=.int .i64 j∧Hid (DigTo F j)) (fun _ _ _ _ i=>F.size - (intOf i).toNat)
      case atStart=>exact ⟨rfl,rfl,rfl,rfl,0,by omega,rfl,Lib.hid (DigTo.zero F)⟩
      case round =>
       obtain ⟨rfl,rfl,rfl,rfl,j,hj,rfl,hfo⟩:=hrel
       by_cases hlj:j<F.size
       ·rcases digB_cases F[j] with ⟨hf,_,_⟩ | hf
        ·have HO:=Lib.hid (hfo.out.next hlj hf)
         have DC:=Lib.hid (DG.out F[j])
         rw[hf]at DC
         clear hf hfo
         go_wp2_with fail
         refine (DC.out _).mono ?_
         rintro _ _ ⟨rfl,rfl⟩
         go_wp2
         go_round
         case rel=>exact ⟨rfl,rfl,rfl,rfl,j+1,by omega,by go_num,HO⟩
         case measure=>simp[intOf];omega
        ·have hf2:digB F[j]=false:=hf.elim And.left And.left
         have HX:=Lib.hid (rest_form (t:=s.data.toList) (by rw[hRd.out];exact rest_dig (by rw[←HFD.out];exact dig_not hlj hf2)))
         have DC:=Lib.hid (DG.out F[j])
         rw[hf2]at DC
         clear hf hf2 hfo
         go_wp2_with fail
         refine (DC.out _).mono ?_
         rintro _ _ ⟨rfl,rfl⟩
         go_wp2
         (try simp only[Exit.inBlock,Exit.then]);refine bodyPost_ret (results_tmp4 rfl _ _ _) rfl ?_
         exact FormRes.bad (n:=0) (by rw[←HB.out];exact HX.out)
       ·have hFd:=Lib.hid (hfo.out.all (by omega))
        have HFO:=Lib.hid (ok_form HNE.out HH.out (by rw[hRd.out,HDOT.out];exact rest_yes (by rw[←HFD.out];intro e;have:=size_data F;rw[e]at this;simp at this;omega) (by rw[←HFD.out];exact hFd.out)))
        clear hfo
        have HOK:=Lib.hid (show formB (bodyL s.data.toList)=true by rw[←HB.out];exact HFO.out)
        go_wp2
        go_loop [8,9] (fun p i=>∃ (j:Nat) (b:Bool),j≤(W++F).size∧i=.int .i64 j∧p=.bool b∧Hid (b=zeroB ((W++F).data.toList.take j))) (fun _ i=>(W++F).size - (intOf i).toNat)
        case atStart=>exact ⟨0,true,by omega,rfl,rfl,Lib.hid rfl⟩
        case round =>
         obtain ⟨j,b,hj,rfl,rfl,hz⟩:=hrel
         by_cases hlj:j<(W++F).size
         ·have hlj2:j<W.size+F.size:=by rw[←hWFs];exact hlj
          have hzn:=Lib.hid (zero_next hlj)
          cases b with
          | false =>
           have HZ:=Lib.hid (show false=zeroB ((W++F).data.toList.take (j+1)) by rw[hzn.out,←hz.out];rfl)
           clear hz hzn
           go_wp2
           go_round
           case rel=>exact ⟨j+1,false,by omega,by go_num,rfl,HZ⟩
           case measure=>simp[intOf,hWFs];omega
          | true =>
           by_cases hc:((W++F)[j].toNat:Int)=48
           ·have HZ:=Lib.hid (show true=zeroB ((W++F).data.toList.take (j+1)) by rw[hzn.out,←hz.out,decide_eq_true (by omega)];rfl)
            have hc2:(((W++F)[j].toNat:Int)==48)=true:=by simpa using hc
            clear hz hzn hc
            go_wp2
            go_round
            case rel=>exact ⟨j+1,true,by omega,by go_num,rfl,HZ⟩
            case measure=>simp[intOf,hWFs];omega
           ·have HZ:=Lib.hid (show false=zeroB ((W++F).data.toList.take (j+1)) by rw[hzn.out,decide_eq_false (by omega),Bool.and_false])
            have hc2:(((W++F)[j].toNat:Int)==48)=false:=by rw[beq_eq_false_iff_ne];exact hc
            clear hz hzn hc
            go_wp2
            go_round
            case rel=>exact ⟨j+1,false,by omega,by go_num,rfl,HZ⟩
            case measure=>simp[intOf,hWFs];omega
         ·have HZ:=Lib.hid (show b=zeroB (W++F).data.toList by rw[hz.out];exact zero_all (by omega))
          clear hz
          cases b
          all_goals
           go_wp2
           (try simp only[Exit.inBlock,Exit.then]);refine bodyPost_ret (results_tmp4 rfl _ _ _) rfl ?_
           exact FormRes.good (n:=0) HOK.out HNG.out (by rw[←HZ.out];rfl)
   ·skip
    -- all digits
    have SP:=Lib.hid (sp_at hok.out (by omega) (fun h=>absurd h hlt))
    clear hok
    have hWk:s.extract 0 k=W:=strEq (by rw[HW.out,SP.out.1,Lib.extract_upto])
    have HWS:=Lib.hid (show W.size=k by rw[←size_data,HW.out,SP.out.1,List.length_take,size_data];omega)
    have HFn:F=⟨#[]⟩:=strEq (by rw[HFF.out,SP.out.2,List.drop_eq_nil_of_le (by rw[size_data];omega)];rfl)
    have hRn:=Lib.hid (show restOk (spR s.data.toList)=true by rw[SP.out.2,List.drop_eq_nil_of_le (by rw[size_data];omega)];rfl)
    subst HFn
    by_cases h0:k=0
    ·have HX:=Lib.hid (spW_nil_form (show spW s.data.toList=[] by rw[SP.out.1,h0];rfl))
     have hk0:((W.size:Int)==0)=true:=by rw[beq_iff_eq];have:=HWS.out;omega
     clear h0
     go_wp2
     (try simp only[Exit.inBlock,Exit.then]);refine bodyPost_ret (results_tmp4 rfl _ _ _) rfl ?_
     exact FormRes.bad (n:=0) (by rw[←HB.out];exact HX.out)
    have hk0:((W.size:Int)==0)=false:=by rw[beq_eq_false_iff_ne];have:=HWS.out;omega
    have hW0:0<W.size:=by have:=HWS.out;omega
    clear h0
    by_cases hld:1<W.size∧(W[0].toNat:Int)=48
    ·obtain ⟨l1,l2⟩:=hld
     have l3:((W[0].toNat:Int)==48)=true:=by simpa using l2
     have HX:=Lib.hid (lead_form (t:=s.data.toList) (by rw[←HW.out,size_data];exact l1) (by rw[←HW.out,head_data W hW0];exact UInt8.toNat_inj.1 (by have:(48:UInt8).toNat=48:=rfl;omega)))
     go_wp2
     (try simp only[Exit.inBlock,Exit.then]);refine bodyPost_ret (results_tmp4 rfl _ _ _) rfl ?_
     exact FormRes.bad (n:=0) (by rw[←HB.out];exact HX.out)
    have HH:=Lib.hid (show (spW s.data.toList).length≤1∨(spW s.data.toList).headD 0≠48 by
     rw[←HW.out,size_data,head_data W hW0]
     by_cases h1:1<W.size
     ·exact .inr (fun e=>hld ⟨h1,by rw[e];rfl⟩)
     ·exact .inl (by omega))
    have HNE:=Lib.hid (show spW s.data.toList≠[] by rw[←HW.out];intro e;have:=size_data W;rw[e]at this;simp at this;omega)
    have hld2:¬(1<W.size)∨(1<W.size∧((W[0].toNat:Int)==48)=false):=by
     by_cases h1:1<W.size
     ·exact .inr ⟨h1,by rw[beq_eq_false_iff_ne];exact fun h=>hld ⟨h1,h⟩⟩
     ·exact .inl h1
    clear hld
    have HFO:=Lib.hid (ok_form HNE.out HH.out hRn.out)
    have HWE:=Lib.hid (show W++(⟨#[]⟩:ByteArray)=W from strEq (by rw[ByteArray.data_append,Array.toList_append];simp))
    have hsum1:¬(9223372036854775807<W.size):=by have:=HWS.out;omega
    have hsum2:¬((9223372036854775807:Int)<(W.size:Int)):=by omega
    rcases hld2 with l1|⟨l1,l3⟩
    all_goals
     go_wp2
     have HOK:=Lib.hid (show formB (bodyL s.data.toList)=true by rw[←HB.out];exact HFO.out)
     go_loop [8,9] (fun p i=>∃ (j:Nat) (b:Bool),j≤W.size∧i=.int .i64 j∧p=.bool b∧Hid (b=zeroB (W.data.toList.take j))) (fun _ i=>W.size - (intOf i).toNat)
     case atStart=>exact ⟨0,true,by omega,rfl,rfl,Lib.hid rfl⟩
     case round =>
      obtain ⟨j,b,hj,rfl,rfl,hz⟩:=hrel
      by_cases hlj:j<W.size
      ·have hlj2:j<W.size:=hlj
       have hzn:=Lib.hid (zero_next hlj)
       cases b with
       | false =>
        have HZ:=Lib.hid (show false=zeroB (W.data.toList.take (j+1)) by rw[hzn.out,←hz.out];rfl)
        clear hz hzn
        go_wp2
        go_round
        case rel=>exact ⟨j+1,false,by omega,by go_num,rfl,HZ⟩
        case measure=>simp[intOf];omega
       | true =>
        by_cases hc:(W[j].toNat:Int)=48
        ·have HZ:=Lib.hid (show true=zeroB (W.data.toList.take (j+1)) by rw[hzn.out,←hz.out,decide_eq_true (by omega)];rfl)
         have hc2:((W[j].toNat:Int)==48)=true:=by simpa using hc
         clear hz hzn hc
         go_wp2
         go_round
         case rel=>exact ⟨j+1,true,by omega,by go_num,rfl,HZ⟩
         case measure=>simp[intOf];omega
        ·have HZ:=Lib.hid (show false=zeroB (W.data.toList.take (j+1)) by rw[hzn.out,decide_eq_false (by omega),Bool.and_false])
         have hc2:((W[j].toNat:Int)==48)=false:=by rw[beq_eq_false_iff_ne];exact hc
         clear hz hzn hc
         go_wp2
         go_round
         case rel=>exact ⟨j+1,false,by omega,by go_num,rfl,HZ⟩
         case measure=>simp[intOf];omega
      ·have HZ:=Lib.hid (show b=zeroB W.data.toList by rw[hz.out];exact zero_all (by omega))
       clear hz
       cases b
       all_goals
        go_wp2
        (try simp only[Exit.inBlock,Exit.then]);refine bodyPost_ret (results_tmp4 rfl _ _ _) rfl ?_
        exact FormRes.good (n:=0) HOK.out HNG.out (by rw[HWE.out,←HZ.out];rfl)
 ·have HNG:=Lib.hid hn
  have v2:((s[0].toNat:Int)==45)=true:=by simpa using v1 v0
  clear hn v1
  go_enter Tryz.func169,Tryz.ntmps169
  go_wp2
  go_quiet (fail)
  simp only[Exit.then]
  go_at_K
  go_wp2
  go_loop [6] (fun i=>∃ k:Nat,k≤B.size∧i=.int .i64 k∧Hid (DigTo B k)) (fun i=>B.size - (intOf i).toNat)
  case atStart=>exact ⟨0,by omega,rfl,Lib.hid (DigTo.zero B)⟩
  case round =>
   obtain ⟨k,hk,rfl,hok⟩:=hrel
   by_cases hlt:k<B.size
   ·cases DF:digB B[k] with
    | true =>
     have HO:=Lib.hid (hok.out.next hlt DF)
     have DC:=Lib.hid (DG.out B[k])
     rw[DF]at DC
     clear DF hok
     go_wp2_with fail
     refine (DC.out _).mono ?_
     rintro _ _ ⟨rfl,rfl⟩
     go_wp2
     go_round
     case rel=>exact ⟨k+1,by omega,by go_num,HO⟩
     case measure=>simp[intOf];omega
    | false =>
     have ho:=DF
     -- a byte that is no digit
     have SP:=Lib.hid (sp_at hok.out (by omega) (fun _=>ho))
     clear hok ho
     have hWk:B.extract 0 k=W:=strEq (by rw[HW.out,SP.out.1,Lib.extract_upto])
     have HWS:=Lib.hid (show W.size=k by rw[←size_data,HW.out,SP.out.1,List.length_take,size_data];omega)
     have hRd:=Lib.hid (show spR B.data.toList=B[k]::B.data.toList.drop (k+1) by rw[SP.out.2,drop_at hlt])
     have hFk:B.extract (k+1) B.size=F:=strEq (by rw[HFF.out,hRd.out,Lib.extract_from];rfl)
     have HFD:=Lib.hid (show F.data.toList=B.data.toList.drop (k+1) by rw[HFF.out,hRd.out];rfl)
     have hFle:F.size≤B.size:=by rw[←size_data,HFD.out,List.length_drop,size_data];omega
     have DC:=Lib.hid (DG.out B[k])
     rw[DF]at DC
     by_cases h0:k=0
     ·have HX:=Lib.hid (spW_nil_form (show spW B.data.toList=[] by rw[SP.out.1,h0];rfl))
      have hk0:((W.size:Int)==0)=true:=by rw[beq_iff_eq];have:=HWS.out;omega
      clear h0
      go_wp2_with fail
      refine (DC.out _).mono ?_
      rintro _ _ ⟨rfl,rfl⟩
      go_wp2
      (try simp only[Exit.inBlock,Exit.then]);refine bodyPost_ret (results_tmp4 rfl _ _ _) rfl ?_
      exact FormRes.bad (by rw[←HB.out];exact HX.out)
     have hk0:((W.size:Int)==0)=false:=by rw[beq_eq_false_iff_ne];have:=HWS.out;omega
     have hW0:0<W.size:=by have:=HWS.out;omega
     clear h0
     by_cases hld:1<W.size∧(W[0].toNat:Int)=48
     ·obtain ⟨l1,l2⟩:=hld
      have l3:((W[0].toNat:Int)==48)=true:=by simpa using l2
      have HX:=Lib.hid (lead_form (t:=B.data.toList) (by rw[←HW.out,size_data];exact l1) (by rw[←HW.out,head_data W hW0];exact UInt8.toNat_inj.1 (by have:(48:UInt8).toNat=48:=rfl;omega)))
      go_wp2_with fail
      refine (DC.out _).mono ?_
      rintro _ _ ⟨rfl,rfl⟩
      go_wp2
      (try simp only[Exit.inBlock,Exit.then]);refine bodyPost_ret (results_tmp4 rfl _ _ _) rfl ?_
      exact FormRes.bad (by rw[←HB.out];exact HX.out)
     have HH:=Lib.hid (show (spW B.data.toList).length≤1∨(spW B.data.toList).headD 0≠48 by
      rw[←HW.out,size_data,head_data W hW0]
      by_cases h1:1<W.size
      ·exact .inr (fun e=>hld ⟨h1,by rw[e];rfl⟩)
      ·exact .inl (by omega))
     have HNE:=Lib.hid (show spW B.data.toList≠[] by rw[←HW.out];intro e;have:=size_data W;rw[e]at this;simp at this;omega)
     have hld2:¬(1<W.size)∨(1<W.size∧((W[0].toNat:Int)==48)=false):=by
      by_cases h1:1<W.size
      ·exact .inr ⟨h1,by rw[beq_eq_false_iff_ne];exact fun h=>hld ⟨h1,h⟩⟩
      ·exact .inl h1
     clear hld
     have hWFs:(W++F).size=W.size+F.size:=ByteArray.size_append
     have hsum1:¬(9223372036854775807<W.size+F.size):=by have:=HWS.out;omega
     have hsum2:¬((9223372036854775807:Int)<(W.size:Int)+(F.size:Int)):=by omega
     by_cases hd46:B[k]=46
     case neg =>
      have hq:((B[k].toNat:Int) != 46)=true:=by simp;intro e;exact hd46 (UInt8.toNat_inj.1 (by have:(46:UInt8).toNat=46:=rfl;omega))
      have HX:=Lib.hid (rest_form (t:=B.data.toList) (by rw[hRd.out];exact rest_dot hd46))
      rcases hld2 with l1|⟨l1,l3⟩
      all_goals
       go_wp2_with fail
       refine (DC.out _).mono ?_
       rintro _ _ ⟨rfl,rfl⟩
       go_wp2
       (try simp only[Exit.inBlock,Exit.then]);refine bodyPost_ret (results_tmp4 rfl _ _ _) rfl ?_
       exact FormRes.bad (by rw[←HB.out];exact HX.out)
     have HDOT:=Lib.hid hd46
     have hq:((B[k].toNat:Int) != 46)=false:=by rw[hd46];rfl
     clear hd46
     by_cases hF0:F.size=0
     case pos =>
      have hf0:((F.size:Int)==0)=true:=by rw[beq_iff_eq];omega
      have HX:=Lib.hid (rest_form (t:=B.data.toList) (by rw[hRd.out];exact rest_nil (by rw[←HFD.out];exact List.eq_nil_of_length_eq_zero (by rw[size_data];exact hF0))))
      rcases hld2 with l1|⟨l1,l3⟩
      all_goals
       go_wp2_with fail
       refine (DC.out _).mono ?_
       rintro _ _ ⟨rfl,rfl⟩
       go_wp2
       (try simp only[Exit.inBlock,Exit.then]);refine bodyPost_ret (results_tmp4 rfl _ _ _) rfl ?_
       exact FormRes.bad (by rw[←HB.out];exact HX.out)
     have hf0:((F.size:Int)==0)=false:=by rw[beq_eq_false_iff_ne];omega
     rcases hld2 with l1|⟨l1,l3⟩
     all_goals
      go_wp2_with fail
      refine (DC.out _).mono ?_
      rintro _ _ ⟨rfl,rfl⟩
      go_wp2
      go_loop [2,3,4,5,7] (fun a b c d i=>a=.bool true∧b=.string W∧c=.string F∧d=.bool false∧∃ j:Nat,j≤F.size∧i=.int .i64 j∧Hid (DigTo F j)) (fun _ _ _ _ i=>F.size - (intOf i).toNat)
      case atStart=>exact ⟨rfl,rfl,rfl,rfl,0,by omega,rfl,Lib.hid (DigTo.zero F)⟩
      case round =>
       obtain ⟨rfl,rfl,rfl,rfl,j,hj,rfl,hfo⟩:=hrel
       by_cases hlj:j<F.size
       ·rcases digB_cases F[j] with ⟨hf,_,_⟩ | hf
        ·have HO:=Lib.hid (hfo.out.next hlj hf)
         have DC:=Lib.hid (DG.out F[j])
         rw[hf]at DC
         clear hf hfo
         go_wp2_with fail
         refine (DC.out _).mono ?_
         rintro _ _ ⟨rfl,rfl⟩
         go_wp2
         go_round
         case rel=>exact ⟨rfl,rfl,rfl,rfl,j+1,by omega,by go_num,HO⟩
         case measure=>simp[intOf];omega
        ·have hf2:digB F[j]=false:=hf.elim And.left And.left
         have HX:=Lib.hid (rest_form (t:=B.data.toList) (by rw[hRd.out];exact rest_dig (by rw[←HFD.out];exact dig_not hlj hf2)))
         have DC:=Lib.hid (DG.out F[j])
         rw[hf2]at DC
         clear hf hf2 hfo
         go_wp2_with fail
         refine (DC.out _).mono ?_
         rintro _ _ ⟨rfl,rfl⟩
         go_wp2
         (try simp only[Exit.inBlock,Exit.then]);refine bodyPost_ret (results_tmp4 rfl _ _ _) rfl ?_
         exact FormRes.bad (by rw[←HB.out];exact HX.out)
       ·have hFd:=Lib.hid (hfo.out.all (by omega))
        have HFO:=Lib.hid (ok_form HNE.out HH.out (by rw[hRd.out,HDOT.out];exact rest_yes (by rw[←HFD.out];intro e;have:=size_data F;rw[e]at this;simp at this;omega) (by rw[←HFD.out];exact hFd.out)))
        clear hfo
        have HOK:=Lib.hid (show formB (bodyL s.data.toList)=true by rw[←HB.out];exact HFO.out)
        go_wp2
        go_loop [8,9] (fun p i=>∃ (j:Nat) (b:Bool),j≤(W++F).size∧i=.int .i64 j∧p=.bool b∧Hid (b=zeroB ((W++F).data.toList.take j))) (fun _ i=>(W++F).size - (intOf i).toNat)
        case atStart=>exact ⟨0,true,by omega,rfl,rfl,Lib.hid rfl⟩
        case round =>
         obtain ⟨j,b,hj,rfl,rfl,hz⟩:=hrel
         by_cases hlj:j<(W++F).size
         ·have hlj2:j<W.size+F.size:=by rw[←hWFs];exact hlj
          have hzn:=Lib.hid (zero_next hlj)
          cases b with
          | false =>
           have HZ:=Lib.hid (show false=zeroB ((W++F).data.toList.take (j+1)) by rw[hzn.out,←hz.out];rfl)
           clear hz hzn
           go_wp2
           go_round
           case rel=>exact ⟨j+1,false,by omega,by go_num,rfl,HZ⟩
           case measure=>simp[intOf,hWFs];omega
          | true =>
           by_cases hc:((W++F)[j].toNat:Int)=48
           ·have HZ:=Lib.hid (show true=zeroB ((W++F).data.toList.take (j+1)) by rw[hzn.out,←hz.out,decide_eq_true (by omega)];rfl)
            have hc2:(((W++F)[j].toNat:Int)==48)=true:=by simpa using hc
            clear hz hzn hc
            go_wp2
            go_round
            case rel=>exact ⟨j+1,true,by omega,by go_num,rfl,HZ⟩
            case measure=>simp[intOf,hWFs];omega
           ·have HZ:=Lib.hid (show false=zeroB ((W++F).data.toList.take (j+1)) by rw[hzn.out,decide_eq_false (by omega),Bool.and_false])
            have hc2:(((W++F)[j].toNat:Int)==48)=false:=by rw[beq_eq_false_iff_ne];exact hc
            clear hz hzn hc
            go_wp2
            go_round
            case rel=>exact ⟨j+1,false,by omega,by go_num,rfl,HZ⟩
            case measure=>simp[intOf,hWFs];omega
         ·have HZ:=Lib.hid (show b=zeroB (W++F).data.toList by rw[hz.out];exact zero_all (by omega))
          clear hz
          cases b
          all_goals
           go_wp2
           (try simp only[Exit.inBlock,Exit.then]);refine bodyPost_ret (results_tmp4 rfl _ _ _) rfl ?_
           exact FormRes.good HOK.out HNG.out (by rw[←HZ.out];rfl)
   ·skip
    -- all digits
    have SP:=Lib.hid (sp_at hok.out (by omega) (fun h=>absurd h hlt))
    clear hok
    have hWk:B.extract 0 k=W:=strEq (by rw[HW.out,SP.out.1,Lib.extract_upto])
    have HWS:=Lib.hid (show W.size=k by rw[←size_data,HW.out,SP.out.1,List.length_take,size_data];omega)
    have HFn:F=⟨#[]⟩:=strEq (by rw[HFF.out,SP.out.2,List.drop_eq_nil_of_le (by rw[size_data];omega)];rfl)
    have hRn:=Lib.hid (show restOk (spR B.data.toList)=true by rw[SP.out.2,List.drop_eq_nil_of_le (by rw[size_data];omega)];rfl)
    subst HFn
    by_cases h0:k=0
    ·have HX:=Lib.hid (spW_nil_form (show spW B.data.toList=[] by rw[SP.out.1,h0];rfl))
     have hk0:((W.size:Int)==0)=true:=by rw[beq_iff_eq];have:=HWS.out;omega
     clear h0
     go_wp2
     (try simp only[Exit.inBlock,Exit.then]);refine bodyPost_ret (results_tmp4 rfl _ _ _) rfl ?_
     exact FormRes.bad (by rw[←HB.out];exact HX.out)
    have hk0:((W.size:Int)==0)=false:=by rw[beq_eq_false_iff_ne];have:=HWS.out;omega
    have hW0:0<W.size:=by have:=HWS.out;omega
    clear h0
    by_cases hld:1<W.size∧(W[0].toNat:Int)=48
    ·obtain ⟨l1,l2⟩:=hld
     have l3:((W[0].toNat:Int)==48)=true:=by simpa using l2
     have HX:=Lib.hid (lead_form (t:=B.data.toList) (by rw[←HW.out,size_data];exact l1) (by rw[←HW.out,head_data W hW0];exact UInt8.toNat_inj.1 (by have:(48:UInt8).toNat=48:=rfl;omega)))
     go_wp2
     (try simp only[Exit.inBlock,Exit.then]);refine bodyPost_ret (results_tmp4 rfl _ _ _) rfl ?_
     exact FormRes.bad (by rw[←HB.out];exact HX.out)
    have HH:=Lib.hid (show (spW B.data.toList).length≤1∨(spW B.data.toList).headD 0≠48 by
     rw[←HW.out,size_data,head_data W hW0]
     by_cases h1:1<W.size
     ·exact .inr (fun e=>hld ⟨h1,by rw[e];rfl⟩)
     ·exact .inl (by omega))
    have HNE:=Lib.hid (show spW B.data.toList≠[] by rw[←HW.out];intro e;have:=size_data W;rw[e]at this;simp at this;omega)
    have hld2:¬(1<W.size)∨(1<W.size∧((W[0].toNat:Int)==48)=false):=by
     by_cases h1:1<W.size
     ·exact .inr ⟨h1,by rw[beq_eq_false_iff_ne];exact fun h=>hld ⟨h1,h⟩⟩
     ·exact .inl h1
    clear hld
    have HFO:=Lib.hid (ok_form HNE.out HH.out hRn.out)
    have HWE:=Lib.hid (show W++(⟨#[]⟩:ByteArray)=W from strEq (by rw[ByteArray.data_append,Array.toList_append];simp))
    have hsum1:¬(9223372036854775807<W.size):=by have:=HWS.out;omega
    have hsum2:¬((9223372036854775807:Int)<(W.size:Int)):=by omega
    rcases hld2 with l1|⟨l1,l3⟩
    all_goals
     go_wp2
     have HOK:=Lib.hid (show formB (bodyL s.data.toList)=true by rw[←HB.out];exact HFO.out)
     go_loop [8,9] (fun p i=>∃ (j:Nat) (b:Bool),j≤W.size∧i=.int .i64 j∧p=.bool b∧Hid (b=zeroB (W.data.toList.take j))) (fun _ i=>W.size - (intOf i).toNat)
     case atStart=>exact ⟨0,true,by omega,rfl,rfl,Lib.hid rfl⟩
     case round =>
      obtain ⟨j,b,hj,rfl,rfl,hz⟩:=hrel
      by_cases hlj:j<W.size
      ·have hlj2:j<W.size:=hlj
       have hzn:=Lib.hid (zero_next hlj)
       cases b with
       | false =>
        have HZ:=Lib.hid (show false=zeroB (W.data.toList.take (j+1)) by rw[hzn.out,←hz.out];rfl)
        clear hz hzn
        go_wp2
        go_round
        case rel=>exact ⟨j+1,false,by omega,by go_num,rfl,HZ⟩
        case measure=>simp[intOf];omega
       | true =>
        by_cases hc:(W[j].toNat:Int)=48
        ·have HZ:=Lib.hid (show true=zeroB (W.data.toList.take (j+1)) by rw[hzn.out,←hz.out,decide_eq_true (by omega)];rfl)
         have hc2:((W[j].toNat:Int)==48)=true:=by simpa using hc
         clear hz hzn hc
         go_wp2
         go_round
         case rel=>exact ⟨j+1,true,by omega,by go_num,rfl,HZ⟩
         case measure=>simp[intOf];omega
        ·have HZ:=Lib.hid (show false=zeroB (W.data.toList.take (j+1)) by rw[hzn.out,decide_eq_false (by omega),Bool.and_false])
         have hc2:((W[j].toNat:Int)==48)=false:=by rw[beq_eq_false_iff_ne];exact hc
         clear hz hzn hc
         go_wp2
         go_round
         case rel=>exact ⟨j+1,false,by omega,by go_num,rfl,HZ⟩
         case measure=>simp[intOf];omega
      ·have HZ:=Lib.hid (show b=zeroB W.data.toList by rw[hz.out];exact zero_all (by omega))
       clear hz
       cases b
       all_goals
        go_wp2
        (try simp only[Exit.inBlock,Exit.then]);refine bodyPost_ret (results_tmp4 rfl _ _ _) rfl ?_
        exact FormRes.good HOK.out HNG.out (by rw[HWE.out,←HZ.out];rfl)
end Go.Proofs.YtjnamjkdjcndiaaGreatDoor
