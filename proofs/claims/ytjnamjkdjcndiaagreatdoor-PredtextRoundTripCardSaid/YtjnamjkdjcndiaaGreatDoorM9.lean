/-
  Words, plain laws and contracts on which the walks lean, in one text.
-/
import Derived.Test.YtjnamjkdjcndiaaGreatDoorM8
import Derived.Test.YtjnamjkdjcndiaaGreatDoorM7
import Derived.Shelf.Strconv.ErrVarParseInt
import Derived.Deep.DeepCutAuto
import Derived.Deep.CutBlock
namespace Go.Proofs.YtjnamjkdjcndiaaGreatDoor
open Go.RowKit Go.Sort
set_option linter.unusedVariables false
def RetRb (w:World) (r:Int×Int) (e:Ending) (w':World):Prop:=e=.returned (.tuple #[.int .i64 r.1,.int .i64 r.2])∧Below w.heap.size w w'
theorem RetRb.mk_ {w w':World} {r:Int×Int} {a b:Int} (h:r=(a,b)) (hb:Below w.heap.size w w'):RetRb w r (.returned (.tuple #[.int .i64 a,.int .i64 b])) w':=by subst h;exact ⟨rfl,hb⟩
theorem cut_len (t:List UInt8):(cutW t).length+(cutR t).tail.length≤t.length:=by
 have h:=congrArg List.length (cut_whole t);rw[List.length_append]at h;have:(cutR t).tail.length≤(cutR t).length:=by rw[List.length_tail];omega
 omega
theorem body_len (l:List UInt8):(bodyL l).length≤l.length:=by
 unfold bodyL;split
 ·rw[List.length_tail];omega
 ·exact Nat.le_refl _
theorem rep_48 (c:Nat):Lib.repeatL [48] c=List.replicate c 48:=by
 induction c with
 | zero=>rfl
 | succ c ih=>rw[Lib.repeatL,ih];rfl
theorem pint_ok (Z:ByteArray) (hd:Z.data.toList.all digB=true) (hne:Z.data.toList≠[]) (hv:valN Z.data.toList≤999999999999999999) (w:World) (hs:Z.size≤281474976710656) :
  Calls Tryz.prog 127 #[.string Z,.int .i64 10,.int .i64 64] w fun e w'=>e=.returned (.tuple #[.int .i64 (valN Z.data.toList:Int),.nilIface])∧Below w.heap.size w w' :=
 (Tryz.strconv_ParseInt_10_at64_ok Z (by omega) _ (pint_small hd hne hv) w).mono fun _ _ ⟨h1,h2⟩=>⟨h1,below_bw h2⟩
def RetPBig (w:World) (e:Ending) (w':World):Prop :=
 (∃ (x:Int) (N:Nat),e=.returned (.tuple #[.int .i64 x,.iface 199 (.pointer (some ⟨N,0,none⟩))])∧Below w.heap.size w w') ∨
 (∃ x:Int,withB x=false∧e=.returned (.tuple #[.int .i64 x,.nilIface])∧Below w.heap.size w w')
theorem pint_big (Z:ByteArray) (hd:Z.data.toList.all digB=true) (hne:Z.data.toList≠[]) (hv:999999999999999999<valN Z.data.toList) (w:World) (hs:Z.size≤281474976710656) (hE:Env w) :
  Calls Tryz.prog 127 #[.string Z,.int .i64 10,.int .i64 64] w (RetPBig w):=by
 obtain ⟨_,⟨tp,p,h1⟩,⟨tq,q,h2⟩⟩:=hE;rcases hh:Lib.parseIntB 64 Z.data.toList with x|_|_
 ·have hx:=pint_sound hd hne hh;exact (Tryz.strconv_ParseInt_10_at64_ok Z (by omega) _ hh w).mono fun _ _ ⟨h1,h2⟩=>.inr ⟨x,by unfold withB;simp;omega,h1,below_bw h2⟩
 ·exact (Any.strconv_ParseInt_10_at64_syntax_var Tryz.laysC174 Z (by omega) hh tp p w h1).mono fun _ _ ⟨N,a,_,_,b⟩=>.inl ⟨0,N,a,b⟩
 ·exact (Tryz.strconv_ParseInt_10_at64_range_var Z (by omega) hh tq q w h2).mono fun _ _ ⟨N,a,_,_,b⟩=>.inl ⟨_,N,a,b⟩
theorem below_dn (w:World) (n:Nat):Below w.heap.size w (w.drewN n):=below_drewN (Below.refl _ _) n
set_option maxRecDepth 100000 in
set_option maxHeartbeats 4000000 in
theorem decpar_any (s:ByteArray) (k:Int) (w:World) (hE:Env w) (hs:s.size≤140737488351232) :
  Calls Tryz.prog 111 #[.string s,.int .i64 k] w (RetRb w (decP s.data.toList k)):=by
 have C1:=Lib.hid (fun X=>scales_any k X);cases hk:scaB k with
 | false =>
  have HF:=Lib.hid (decP_range (l:=s.data.toList) hk);rw[hk]at C1;clear hk;go_enter Tryz.func111,Tryz.ntmps111
  go_wp2_with fail
  refine (C1.out _).mono ?_;rintro _ _ ⟨rfl,rfl⟩;go_wp2;go_ret2
  exact RetRb.mk_ HF.out (Below.refl _ _)
 | true =>
 rw[hk]at C1;have HE:=Lib.hid hE;have HK:=Lib.hid hk;have hk2:=scaB_bd hk;obtain ⟨j,rfl⟩:=Int.eq_ofNat_of_zero_le hk2.1;have hj:j≤18:=by omega
 clear hE hk hk2;obtain ⟨B,hB⟩:∃ B:ByteArray,B.data.toList=bodyL s.data.toList:=⟨⟨(bodyL s.data.toList).toArray⟩,by simp⟩
 obtain ⟨W,hW⟩:∃ W:ByteArray,W.data.toList=cutW B.data.toList:=⟨⟨(cutW B.data.toList).toArray⟩,by simp⟩
 obtain ⟨F,hF⟩:∃ F:ByteArray,F.data.toList=(cutR B.data.toList).tail:=⟨⟨(cutR B.data.toList).tail.toArray⟩,by simp⟩
 obtain ⟨pt,hp⟩:∃ pt:Bool,pt=decide (cutR B.data.toList≠[]):=⟨_,rfl⟩
 obtain ⟨ng,hn⟩:∃ ng:Bool,negB s.data.toList=ng:=⟨_,rfl⟩
 have hBl:B.size≤s.size:=by rw[←size_data,←size_data,hB];exact body_len _
 have hWF:W.size+F.size≤B.size:=by rw[←size_data,←size_data F,←size_data B,hW,hF];exact cut_len _
 have CP:=Lib.hid (fun X=>cutpre_any s B hB X (by omega));rw[hn]at CP;have CC:=Lib.hid (fun X=>cut_any B W F pt hW hF hp X (by omega));have D1:=Lib.hid (fun X=>ddig_any W X (by omega));have D2:=Lib.hid (fun X=>ddig_any F X (by omega));have HB:=Lib.hid hB;have HW:=Lib.hid hW;have HFF:=Lib.hid hF;have HP:=Lib.hid hp;have HN:=Lib.hid hn;clear hB hW hF hp hn;cases hd1:digsB W.data.toList with
 | false =>
  rw[hd1]at D1;have HO:=Lib.hid (decP_form HK.out (by rw[←HB.out];exact form_bad1 (by rw[←HW.out];exact hd1)):decP s.data.toList (j:Int)=(0,2));clear hd1;go_enter Tryz.func111,Tryz.ntmps111
  go_wp2_with fail
  refine (C1.out _).mono ?_;rintro _ _ ⟨rfl,rfl⟩;go_wp2_with fail
  refine (CP.out _).mono ?_;rintro _ _ ⟨rfl,rfl⟩;go_wp2_with fail
  refine (CC.out _).mono ?_;rintro _ _ ⟨rfl,n,rfl⟩;go_wp2_with fail
  refine (D1.out _).mono ?_;rintro _ _ ⟨rfl,rfl⟩;go_wp2;go_ret2
  exact RetRb.mk_ HO.out (below_dn w n)
 | true =>
 rw[hd1]at D1;have HD1:=Lib.hid hd1;have hW0:0<W.size:=by
  rcases Nat.eq_zero_or_pos W.size with h|h
  ·rw[digs_nil h]at hd1;cases hd1
  ·exact h
 clear hd1;by_cases hld:1<W.size∧(W[0].toNat:Int)=48
 case pos =>
  obtain ⟨l1,l2⟩:=hld;have HO:=Lib.hid (show decP s.data.toList (j:Int)=(0,2) from decP_form HK.out (by
   rw[←HB.out];refine form_bad2 ?_
   rw[←HW.out];unfold leadB
   rw[size_data,head_data W hW0,decide_eq_true l1,decide_eq_true (UInt8.toNat_inj.1 (show W[0].toNat=(48:UInt8).toNat by have:(48:UInt8).toNat=48:=rfl;omega))];rfl))
  go_enter Tryz.func111,Tryz.ntmps111
  go_wp2_with fail
  refine (C1.out _).mono ?_;rintro _ _ ⟨rfl,rfl⟩;go_wp2_with fail
  refine (CP.out _).mono ?_;rintro _ _ ⟨rfl,rfl⟩;go_wp2_with fail
  refine (CC.out _).mono ?_;rintro _ _ ⟨rfl,n,rfl⟩;go_wp2_with fail
  refine (D1.out _).mono ?_;rintro _ _ ⟨rfl,rfl⟩;go_wp2;go_ret2
  exact RetRb.mk_ HO.out (below_dn w n)
 have HLD:=Lib.hid (show leadB (cutW B.data.toList)=false by
  rw[←HW.out];unfold leadB
  rw[size_data,head_data W hW0];by_cases h1:1<W.size
  ·have h2:W[0]≠48:=fun e=>hld ⟨h1,by rw[e];rfl⟩
   rw[decide_eq_false h2,Bool.and_false]
  ·rw[decide_eq_false h1,Bool.false_and])
 have hld2:¬(1<W.size)∨(1<W.size∧(W[0].toNat:Int)≠48):=by
  by_cases h1:1<W.size
  ·exact .inr ⟨h1,fun h=>hld ⟨h1,h⟩⟩
  ·exact .inl h1
 clear hld;by_cases hdp:pt=true∧digsB F.data.toList=false
 case pos =>
  obtain ⟨rfl,hd2⟩:=hdp;have HO:=Lib.hid (show decP s.data.toList (j:Int)=(0,2) from decP_form HK.out (by
   rw[←HB.out];exact form_bad3 (by have:=HP.out;intro e;rw[e]at this;simp at this) (by rw[←HFF.out];exact hd2)))
  rw[hd2]at D2;clear hd2;rcases hld2 with l1|⟨l1,l2⟩
  ·skip
   go_enter Tryz.func111,Tryz.ntmps111
   go_wp2_with fail
   refine (C1.out _).mono ?_;rintro _ _ ⟨rfl,rfl⟩;go_wp2_with fail
   refine (CP.out _).mono ?_;rintro _ _ ⟨rfl,rfl⟩;go_wp2_with fail
   refine (CC.out _).mono ?_;rintro _ _ ⟨rfl,n,rfl⟩;go_wp2_with fail
   refine (D1.out _).mono ?_;rintro _ _ ⟨rfl,rfl⟩;go_wp2_with fail
   refine (D2.out _).mono ?_;rintro _ _ ⟨rfl,rfl⟩;go_wp2;go_ret2
   exact RetRb.mk_ HO.out (below_dn w n)
  ·have l3:((W[0].toNat:Int)==48)=false:=by rw[beq_eq_false_iff_ne];exact l2
   go_enter Tryz.func111,Tryz.ntmps111
   go_wp2_with fail
   refine (C1.out _).mono ?_;rintro _ _ ⟨rfl,rfl⟩;go_wp2_with fail
   refine (CP.out _).mono ?_;rintro _ _ ⟨rfl,rfl⟩;go_wp2_with fail
   refine (CC.out _).mono ?_;rintro _ _ ⟨rfl,n,rfl⟩;go_wp2_with fail
   refine (D1.out _).mono ?_;rintro _ _ ⟨rfl,rfl⟩;go_wp2_with fail
   refine (D2.out _).mono ?_;rintro _ _ ⟨rfl,rfl⟩;go_wp2;go_ret2
   exact RetRb.mk_ HO.out (below_dn w n)
 have HFO:=Lib.hid (show FormOk (bodyL s.data.toList) by
  rw[←HB.out];refine ⟨by rw[←HW.out];exact HD1.out,HLD.out,?_⟩
  by_cases h:cutR B.data.toList=[]
  ·exact .inl h
  ·refine .inr ?_
   rw[←HFF.out];have hpt:pt=true:=by rw[HP.out];simpa using h
   cases hd:digsB F.data.toList with
   | true=>rfl
   | false=>exact absurd ⟨hpt,hd⟩ hdp)
 have hdp2:pt=false∨(pt=true∧digsB F.data.toList=true):=by
  cases hpt:pt with
  | false=>exact .inl rfl
  | true =>
   refine .inr ⟨rfl,?_⟩
   cases hd:digsB F.data.toList with
   | true=>rfl
   | false=>exact absurd ⟨hpt,hd⟩ hdp
 clear hdp;have HWd:=Lib.hid (show W.data.toList.all digB=true by have:=HD1.out;unfold digsB at this;rw[Bool.and_eq_true]at this;exact this.1);have HFd:=Lib.hid (show F.data.toList.all digB=true by rw[HFF.out,HB.out];exact HFO.out.fdig)
 -- what stands behind the test of the form
 have HZ0:=Lib.hid (show ∀ (h1:ng=true) (h2:zeroB (W++F).data.toList=true),decP s.data.toList (j:Int)=(0,2) from fun h1 h2=>by
  refine decP_zero HK.out HFO.out (HN.out.trans h1) ?_
  rw[←HB.out,←HW.out,←HFF.out,←Array.toList_append,←ByteArray.data_append];exact h2)
 have HZ1:=Lib.hid (show ∀ (h:(ng&&zeroB (W++F).data.toList)=false),decP s.data.toList (j:Int)=if (j:Int)<(F.size:Int) then (0,8) else outP ng (valP W.data.toList F.data.toList (j - F.size)) from fun h=>by
  have:=decP_out (k:=(j:Int)) HK.out HFO.out (by rw[HN.out,←HB.out,←HW.out,←HFF.out,←Array.toList_append,←ByteArray.data_append];exact h)
  rw[this,HN.out,←HB.out,←HW.out,←HFF.out,size_data,Int.toNat_natCast])
 have CT:=Lib.hid (fun X=>Tryz.strings_Trim_one (W++F) 48 (by decide) X (by rw[ByteArray.size_append];omega));have hWFs:(W++F).size=W.size+F.size:=ByteArray.size_append;rcases hld2 with l1|⟨l1,l2⟩
 all_goals
  try have l3:((W[0].toNat:Int)==48)=false:=by rw[beq_eq_false_iff_ne];exact l2
  rcases hdp2 with rfl|⟨rfl,hd2⟩
  all_goals
   try rw[hd2]at D2
   try clear hd2
   go_enter Tryz.func111,Tryz.ntmps111
   go_wp2_with fail
   refine (C1.out _).mono ?_;rintro _ _ ⟨rfl,rfl⟩;go_wp2_with fail
   refine (CP.out _).mono ?_;rintro _ _ ⟨rfl,rfl⟩;go_wp2_with fail
   refine (CC.out _).mono ?_;rintro _ _ ⟨rfl,n,rfl⟩;go_wp2_with fail
   refine (D1.out _).mono ?_;rintro _ _ ⟨rfl,rfl⟩;try (go_wp2_with fail;refine (D2.out _).mono ?_;rintro _ _ ⟨rfl,rfl⟩)
   go_upto_region 7 with (fail)
   obtain ⟨W1,hW1⟩:∃ W1,W1=w.drewN n:=⟨_,rfl⟩
   have HB1:=Lib.hid (show Below w.heap.size w W1 by rw[hW1];exact below_dn w n);rw[←hW1];clear hW1;cases ng with
   | true =>
    cases hz:zeroB (W++F).data.toList with
    | true =>
     have HO:=Lib.hid (HZ0.out rfl hz);have e0:(⟨(Lib.trimB (W++F).data.toList 48).toArray⟩:ByteArray)={ data:=#[] }:=by rw[trim_yes hz]
     rw[e0]at CT;clear hz e0;go_wp2_with fail
     refine (CT.out _).mono ?_;rintro _ w2 ⟨rfl,hw2⟩;have HB2:=Lib.hid (show Below w.heap.size w w2 by rcases hw2 with rfl | rfl;exact HB1.out;exact HB1.out.drew);clear hw2;go_wp2;go_ret2
     exact RetRb.mk_ HO.out HB2.out
    | false =>
     have HO:=Lib.hid (HZ1.out (by rw[hz];rfl));obtain ⟨Z0,hZ0⟩:∃ Z0:ByteArray,Z0=⟨(Lib.trimB (W++F).data.toList 48).toArray⟩:=⟨_,rfl⟩
     have e0:Z0.toList.isEmpty=false:=by
      rw[Go.ByteArray.toList_eq,hZ0,List.isEmpty_eq_false_iff];exact trim_no hz
     rw[←hZ0]at CT;clear hz hZ0;go_wp2_with fail
     refine (CT.out _).mono ?_;rintro _ w2 ⟨rfl,hw2⟩;have HB2:=Lib.hid (show Below w.heap.size w w2 by rcases hw2 with rfl | rfl;exact HB1.out;exact HB1.out.drew);clear hw2 HB1;by_cases hlong:(j:Int)<(F.size:Int)
     ·have HO2:=Lib.hid (HO.out.trans (if_pos hlong));go_wp2;go_ret2
      exact RetRb.mk_ HO2.out HB2.out
     ·have HO2:=Lib.hid (HO.out.trans (if_neg hlong));have hFj:F.size≤j:=by omega
      obtain ⟨Z,hZ⟩:∃ Z:ByteArray,W++F ++ ⟨(Lib.repeatL [48] (j - F.size)).toArray⟩=Z:=⟨_,rfl⟩
      have hZl:Z.data.toList=W.data.toList++F.data.toList++List.replicate (j - F.size) 48:=by
       rw[←hZ,ByteArray.data_append,Array.toList_append,ByteArray.data_append,Array.toList_append,rep_48]
      have hZs:Z.size=W.size+F.size+(j - F.size):=by rw[←size_data,hZl];simp only[List.length_append,List.length_replicate,size_data]
      have hRs:(⟨(Lib.repeatL [48] (j - F.size)).toArray⟩:ByteArray).size=j - F.size:=by rw[←size_data,rep_48];simp
      obtain ⟨Rp,hRp⟩:∃ Rp:ByteArray,(⟨(Lib.repeatL [48] (j - F.size)).toArray⟩:ByteArray)=Rp:=⟨_,rfl⟩
      rw[hRp]at hZ hRs;have CR:=Lib.hid (Tryz.strings_Repeat { data:=#[48] } (j - F.size) w2 (by omega) (by show 1 * (j - F.size)≤_;omega));rw[show ({ data:=#[48] }:ByteArray).data.toList=[48] from rfl,hRp,show ((j - F.size:Nat):Int)=(j:Int) - (F.size:Int) by omega]at CR;have hZd:Z.data.toList.all digB=true:=by rw[hZl,List.all_append,List.all_append,HWd.out,HFd.out,rep_dig];rfl
      have hZne:Z.data.toList≠[]:=by intro e;have:=size_data Z;rw[e]at this;simp at this;omega
      have hZv:valN Z.data.toList=valP W.data.toList F.data.toList (j - F.size):=by rw[hZl];rfl
      have HZ:=Lib.hid hZ;have HRp:=Lib.hid hRp;clear hRp hZ;rw[←hZv]at HO2;by_cases hbig:999999999999999999<valN Z.data.toList
      ·have HO3:=Lib.hid (HO2.out.trans (show outP true (valN Z.data.toList)=(0,8) from if_pos hbig));have PB:=Lib.hid (fun X h=>pint_big Z hZd hZne hbig X (by omega) h);clear hZd hZne hZv hZl hbig;go_wp2_with fail
       refine CR.out.mono ?_;rintro _ w3 ⟨rfl,hw3⟩;have HB3:=Lib.hid (bst HB2.out hw3);clear hw3;go_wp2_with fail
       rw[HZ.out];refine (PB.out _ (HE.out.below HB3.out)).mono ?_;rintro _ w4 hw4;rcases hw4 with ⟨x,N,rfl,hb4⟩|⟨x,hx,rfl,hb4⟩
       ·have HB4:=Lib.hid (bst HB3.out hb4);clear hb4;go_wp2;go_ret2
        exact RetRb.mk_ HO3.out HB4.out
       ·have HB4:=Lib.hid (bst HB3.out hb4);have CW:=Lib.hid (fun X=>within_any x X);rw[hx]at CW;clear hb4 hx;go_wp2_with fail
        refine (CW.out _).mono ?_;rintro _ _ ⟨rfl,rfl⟩;go_wp2;go_ret2
        exact RetRb.mk_ HO3.out HB4.out
      ·have HO3:=Lib.hid (HO2.out.trans (show outP true (valN Z.data.toList)=(-(valN Z.data.toList:Int),0) from if_neg hbig));have PS:=Lib.hid (fun X=>pint_ok Z hZd hZne (by omega) X (by omega));have CW:=Lib.hid (fun X=>within_any (valN Z.data.toList:Int) X);rw[show withB (valN Z.data.toList:Int)=true by unfold withB;simp;omega]at CW;obtain ⟨x,hx⟩:∃ x,valN Z.data.toList=x:=⟨_,rfl⟩
       rw[hx]at CW PS HO3 hbig;clear hZd hZne hZv hZl hx;go_wp2_with fail
       refine CR.out.mono ?_;rintro _ w3 ⟨rfl,hw3⟩;have HB3:=Lib.hid (bst HB2.out hw3);clear hw3;go_wp2_with fail
       rw[HZ.out];refine (PS.out _).mono ?_;rintro _ w4 ⟨rfl,hb4⟩;have HB4:=Lib.hid (bst HB3.out hb4);clear hb4;go_wp2_with fail
       refine (CW.out _).mono ?_;rintro _ _ ⟨rfl,rfl⟩;go_wp2;go_ret2
       exact RetRb.mk_ HO3.out HB4.out
   | false =>
    have HO:=Lib.hid (HZ1.out rfl);have HB2:=HB1;obtain ⟨w2,hw2⟩:∃ w2,w2=W1:=⟨_,rfl⟩
    rw[←hw2]at HB2 ⊢;clear hw2 HB1;by_cases hlong:(j:Int)<(F.size:Int)
    ·have HO2:=Lib.hid (HO.out.trans (if_pos hlong));go_wp2;go_ret2
     exact RetRb.mk_ HO2.out HB2.out
    ·have HO2:=Lib.hid (HO.out.trans (if_neg hlong));have hFj:F.size≤j:=by omega
     obtain ⟨Z,hZ⟩:∃ Z:ByteArray,W++F ++ ⟨(Lib.repeatL [48] (j - F.size)).toArray⟩=Z:=⟨_,rfl⟩
     have hZl:Z.data.toList=W.data.toList++F.data.toList++List.replicate (j - F.size) 48:=by
      rw[←hZ,ByteArray.data_append,Array.toList_append,ByteArray.data_append,Array.toList_append,rep_48]
     have hZs:Z.size=W.size+F.size+(j - F.size):=by rw[←size_data,hZl];simp only[List.length_append,List.length_replicate,size_data]
     have hRs:(⟨(Lib.repeatL [48] (j - F.size)).toArray⟩:ByteArray).size=j - F.size:=by rw[←size_data,rep_48];simp
     obtain ⟨Rp,hRp⟩:∃ Rp:ByteArray,(⟨(Lib.repeatL [48] (j - F.size)).toArray⟩:ByteArray)=Rp:=⟨_,rfl⟩
     rw[hRp]at hZ hRs;have CR:=Lib.hid (Tryz.strings_Repeat { data:=#[48] } (j - F.size) w2 (by omega) (by show 1 * (j - F.size)≤_;omega));rw[show ({ data:=#[48] }:ByteArray).data.toList=[48] from rfl,hRp,show ((j - F.size:Nat):Int)=(j:Int) - (F.size:Int) by omega]at CR;have hZd:Z.data.toList.all digB=true:=by rw[hZl,List.all_append,List.all_append,HWd.out,HFd.out,rep_dig];rfl
     have hZne:Z.data.toList≠[]:=by intro e;have:=size_data Z;rw[e]at this;simp at this;omega
     have hZv:valN Z.data.toList=valP W.data.toList F.data.toList (j - F.size):=by rw[hZl];rfl
     have HZ:=Lib.hid hZ;have HRp:=Lib.hid hRp;clear hRp hZ;rw[←hZv]at HO2;by_cases hbig:999999999999999999<valN Z.data.toList
     ·have HO3:=Lib.hid (HO2.out.trans (show outP false (valN Z.data.toList)=(0,8) from if_pos hbig));have PB:=Lib.hid (fun X h=>pint_big Z hZd hZne hbig X (by omega) h);clear hZd hZne hZv hZl hbig;go_wp2_with fail
      refine CR.out.mono ?_;rintro _ w3 ⟨rfl,hw3⟩;have HB3:=Lib.hid (bst HB2.out hw3);clear hw3;go_wp2_with fail
      rw[HZ.out];refine (PB.out _ (HE.out.below HB3.out)).mono ?_;rintro _ w4 hw4;rcases hw4 with ⟨x,N,rfl,hb4⟩|⟨x,hx,rfl,hb4⟩
      ·have HB4:=Lib.hid (bst HB3.out hb4);clear hb4;go_wp2;go_ret2
       exact RetRb.mk_ HO3.out HB4.out
      ·have HB4:=Lib.hid (bst HB3.out hb4);have CW:=Lib.hid (fun X=>within_any x X);rw[hx]at CW;clear hb4 hx;go_wp2_with fail
       refine (CW.out _).mono ?_;rintro _ _ ⟨rfl,rfl⟩;go_wp2;go_ret2
       exact RetRb.mk_ HO3.out HB4.out
     ·have HO3:=Lib.hid (HO2.out.trans (show outP false (valN Z.data.toList)=((valN Z.data.toList:Int),0) from if_neg hbig));have PS:=Lib.hid (fun X=>pint_ok Z hZd hZne (by omega) X (by omega));have CW:=Lib.hid (fun X=>within_any (valN Z.data.toList:Int) X);rw[show withB (valN Z.data.toList:Int)=true by unfold withB;simp;omega]at CW;obtain ⟨x,hx⟩:∃ x,valN Z.data.toList=x:=⟨_,rfl⟩
      rw[hx]at CW PS HO3 hbig;clear hZd hZne hZv hZl hx;go_wp2_with fail
      refine CR.out.mono ?_;rintro _ w3 ⟨rfl,hw3⟩;have HB3:=Lib.hid (bst HB2.out hw3);clear hw3;go_wp2_with fail
      rw[HZ.out];refine (PS.out _).mono ?_;rintro _ w4 ⟨rfl,hb4⟩;have HB4:=Lib.hid (bst HB3.out hb4);clear hb4;go_wp2_with fail
      refine (CW.out _).mono ?_;rintro _ _ ⟨rfl,rfl⟩;go_wp2;go_ret2
      exact RetRb.mk_ HO3.out HB4.out
def daysV (y m d:Int):Int×Int:=if y<1∨9999<y∨m<1∨12<m∨d<1∨monL y m<d then (0,4) else (jan y+cum y (m.toNat - 1)+d - 1,0)
def pieY (l:List UInt8):List UInt8:=l.take 4
def pieM (l:List UInt8):List UInt8:=(l.drop 5).take 2
def pieD (l:List UInt8):List UInt8:=l.drop 8
def dparV (l:List UInt8):Int×Int :=
 if l.length≠10∨l.getD 4 0≠45∨l.getD 7 0≠45 then (0,2)
 else if ((pieY l).all digB&&(pieM l).all digB&&(pieD l).all digB)=false then (0,2)
 else daysV (valN (pieY l)) (valN (pieM l)) (valN (pieD l))
theorem daysV_civ {n y m d:Int} (h:IsCiv n y m d):daysV y m d=(n,0):=by
 obtain ⟨h1,h2,k,rfl,hk,hn,h3,h4⟩:=h;unfold daysV
 rw[if_neg (by omega),show ((k:Int)+1).toNat - 1=k by omega,←hn]
theorem date_back {n y m d:Int} {Y M D:Nat} (h:IsCiv n y m d) (hy:y=Y) (hm:m=M) (hd:d=D) (hY:Y<10000) (hM:M<100) (hD:D<100):dparV (dateL Y M D)=(n,0):=by
 have v4:=digL_val Y 4;have v2:=digL_val M 2;have v3:=digL_val D 2;have a4:=digL_all Y 4;have a2:=digL_all M 2;have a3:=digL_all D 2;have e:dateL Y M D=digL Y 4 ++ [45]++digL M 2 ++ [45]++digL D 2:=rfl;rw[e];rw[digL_4 Y hY]at v4 a4 ⊢;rw[digL_2 M hM]at v2 a2 ⊢;rw[digL_2 D hD]at v3 a3 ⊢;generalize UInt8.ofNat (48+Y / 1000 % 10)=y0 at v4 a4 ⊢
 generalize UInt8.ofNat (48+Y / 100 % 10)=y1 at v4 a4 ⊢
 generalize UInt8.ofNat (48+Y / 10 % 10)=y2 at v4 a4 ⊢
 generalize UInt8.ofNat (48+Y % 10)=y3 at v4 a4 ⊢
 generalize UInt8.ofNat (48+M / 10 % 10)=m0 at v2 a2 ⊢
 generalize UInt8.ofNat (48+M % 10)=m1 at v2 a2 ⊢
 generalize UInt8.ofNat (48+D / 10 % 10)=d0 at v3 a3 ⊢
 generalize UInt8.ofNat (48+D % 10)=d1 at v3 a3 ⊢
 have pY:pieY ([y0,y1,y2,y3] ++ [45] ++ [m0,m1] ++ [45] ++ [d0,d1])=[y0,y1,y2,y3]:=rfl;have pM:pieM ([y0,y1,y2,y3] ++ [45] ++ [m0,m1] ++ [45] ++ [d0,d1])=[m0,m1]:=rfl;have pD:pieD ([y0,y1,y2,y3] ++ [45] ++ [m0,m1] ++ [45] ++ [d0,d1])=[d0,d1]:=rfl;unfold dparV
 rw[if_neg (by rintro (h1 | h1 | h1) <;> exact h1 rfl),pY,pM,pD,a4,a2,a3,if_neg (by decide),v4,v2,v3,←hy,←hm,←hd];exact daysV_civ h
set_option linter.unusedVariables false
theorem daysV_bad {y m d:Int} (h:y<1∨9999<y∨m<1∨12<m∨d<1∨monL y m<d):daysV y m d=(0,4):=if_pos h
theorem daysV_good {y d:Int} {k:Nat} (hy:1≤y∧y≤9999) (hk:k≤11) (h1:1≤d) (h2:d≤monL y ((k:Int)+1)):daysV y ((k:Int)+1) d=(jan y+cum y k+d - 1,0):=by
 unfold daysV;rw[if_neg (by omega),show ((k:Int)+1).toNat - 1=k by omega]
theorem cum_bd (y:Int):∀ k:Nat,0≤cum y k∧cum y k≤31 * k
 | 0=>by simp[cum]
 | k+1=>by have:=cum_bd y k;have:=monL_bd y ((k:Int)+1);simp only[cum];omega
theorem jan_bd {y:Int} (h:1≤y∧y≤9999):-719162≤jan y∧jan y≤2932896:=by unfold jan;omega
set_option maxRecDepth 100000 in
set_option maxHeartbeats 2000000 in
theorem days_any (y m d:Int) (w:World) (hy:0≤y∧y≤9999) (hm:0≤m∧m≤99) (hd:0≤d∧d≤99):Calls Tryz.prog 132 #[.int .i64 y,.int .i64 m,.int .i64 d] w (RetRs w (daysV y m d)):=by
 by_cases h1:y<1
 ·have HO:=Lib.hid (daysV_bad (y:=y) (m:=m) (d:=d) (.inl h1));go_enter Tryz.func132,Tryz.ntmps132
  go_wp2;go_ret2
  exact RetRs.mk_ HO.out
 by_cases h2:m<1
 ·have HO:=Lib.hid (daysV_bad (y:=y) (m:=m) (d:=d) (.inr (.inr (.inl h2))));go_enter Tryz.func132,Tryz.ntmps132
  go_wp2;go_ret2
  exact RetRs.mk_ HO.out
 by_cases h3:12<m
 ·have HO:=Lib.hid (daysV_bad (y:=y) (m:=m) (d:=d) (.inr (.inr (.inr (.inl h3)))));go_enter Tryz.func132,Tryz.ntmps132
  go_wp2;go_ret2
  exact RetRs.mk_ HO.out
 by_cases h4:d<1
 ·have HO:=Lib.hid (daysV_bad (y:=y) (m:=m) (d:=d) (.inr (.inr (.inr (.inr (.inl h4))))));go_enter Tryz.func132,Tryz.ntmps132
  go_wp2;go_ret2
  exact RetRs.mk_ HO.out
 obtain ⟨k,rfl⟩:∃ k:Nat,m=(k:Int)+1:=⟨(m - 1).toNat,by omega⟩
 have hk:k≤11:=by omega
 have ML:=Lib.hid (fun X=>ret0_int rfl (mlen_any y ((k:Int)+1) X (by omega) (by omega)));have hmb:=monL_bd y ((k:Int)+1);have HG:=Lib.hid (fun h=>daysV_good (y:=y) (d:=d) (k:=k) (by omega) hk (by omega) h);have HB:=Lib.hid (fun h=>daysV_bad (y:=y) (m:=(k:Int)+1) (d:=d) (.inr (.inr (.inr (.inr (.inr h))))));obtain ⟨M,hM⟩:∃ M,monL y ((k:Int)+1)=M:=⟨_,rfl⟩
 rw[hM]at ML hmb HG HB;clear hM;by_cases h5:M<d
 ·have HO:=Lib.hid (HB.out h5);have q5:decide (M<d)=true:=decide_eq_true h5;go_enter Tryz.func132,Tryz.ntmps132
  go_wp2_with fail
  refine (ML.out _).mono ?_;rintro _ _ ⟨rfl,rfl⟩;go_wp2;go_ret2
  exact RetRs.mk_ HO.out
 have HO:=Lib.hid (HG.out (by omega));have q5:decide (M<d)=false:=decide_eq_false h5;have hcb:=cum_bd y;have HCB:=Lib.hid hcb;have hjb:=jan_bd (y:=y) (by omega);have HJ:=Lib.hid (show jan y=365 * (y - 1)+(y - 1) / 4 - (y - 1) / 100+(y - 1) / 400 - 719162 from rfl);clear hcb h5 hmb HG HB;go_enter Tryz.func132,Tryz.ntmps132
 go_wp2_with fail
 refine (ML.out _).mono ?_;rintro _ _ ⟨rfl,rfl⟩;go_wp2;go_loop [9,10] (fun n i=>∃ j:Nat,j≤k∧i=.int .i64 ((j:Int)+1)∧n=.int .i64 (jan y+719162+d - 1+cum y j)) (fun _ i=>(k+1:Int).toNat - (intOf i).toNat)
 case atStart=>exact ⟨0,by omega,rfl,by rw[HJ.out];simp only[cum];congr 1;omega⟩
 case round =>
  obtain ⟨j,hj,rfl,rfl⟩:=hrel;by_cases hlt:j<k
  ·have C:=Lib.hid (fun X=>ret0_int rfl (mlen_any y ((j:Int)+1) X (by omega) (by omega)));have hmb:=monL_bd y ((j:Int)+1);have hc:=HCB.out j;have HS:=Lib.hid (show cum y (j+1)=cum y j+monL y ((j:Int)+1) from rfl);obtain ⟨M',hM'⟩:∃ M,monL y ((j:Int)+1)=M:=⟨_,rfl⟩
   rw[hM']at C hmb HS;obtain ⟨Cj,hCj⟩:∃ C,cum y j=C:=⟨_,rfl⟩
   rw[hCj]at hc HS ⊢;obtain ⟨J,hJ⟩:∃ J,jan y=J:=⟨_,rfl⟩
   rw[hJ]at hjb;rw[hJ];clear hM' hCj hJ;have hlt2:(j:Int)+1<(k:Int)+1:=by omega
   go_wp2_with (first
    | (with_reducible refine (C.out _).mono ?_;rintro _ _ ⟨rfl,rfl⟩))
   go_round
   case rel=>exact ⟨j+1,by omega,by go_num,by rw[HS.out];first | go_num | (congr 1;omega)⟩
   case measure=>simp[intOf];omega
  ·obtain rfl:j=k:=by omega
   have hc:=HCB.out j;obtain ⟨Cj,hCj⟩:∃ C,cum y j=C:=⟨_,rfl⟩
   rw[hCj]at hc HO ⊢;obtain ⟨J,hJ⟩:∃ J,jan y=J:=⟨_,rfl⟩
   rw[hJ]at hjb HO ⊢;clear hCj hJ;go_wp2;go_ret2
   exact RetRs.mk_ (HO.out.trans (by congr 1;omega))
def RetDg (w:World) (l:List UInt8) (e:Ending) (w':World):Prop:=(l.all digB=true∧e=.returned (.tuple #[.int .i64 (valN l:Int),.bool true])∧w=w')∨(l.all digB=false∧e=.returned (.tuple #[.int .i64 0,.bool false])∧w=w')
theorem digs_bd {l:List UInt8} (h:l.all digB=true):valN l<10 ^ l.length:=by
 induction l with
 | nil=>decide
 | cons c r ih =>
  simp only[List.all_cons,Bool.and_eq_true]at h;have hc:=h.1;unfold digB at hc
  rw[decide_eq_true_eq]at hc;have h1:=ih h.2;have h2:=valN_app [c] r;have h3:valN [c]=c.toNat - 48:=by unfold valN stepN;simp
  rw[List.singleton_append,h3]at h2;rw[h2,List.length_cons,Nat.pow_succ];have h4:(c.toNat - 48) * 10 ^ r.length≤9 * 10 ^ r.length:=Nat.mul_le_mul_right _ (by omega);omega
theorem pre_bd {s:ByteArray} {k:Nat} (h:DigTo s k) (hk:k≤s.size) (hs:s.size≤4):valN (s.data.toList.take k)<10000:=by
 have ha:(s.data.toList.take k).all digB=true:=by
  rw[List.all_eq_true];intro c hc
  obtain ⟨j,hj⟩:=List.mem_iff_getElem?.1 hc;have hjk:j<k:=by
   have:=(List.getElem?_eq_some_iff.1 hj).1
   rw[List.length_take]at this;omega
  rw[List.getElem?_take_of_lt hjk,get_data s j (by omega)]at hj;injection hj with hj
  rw[←hj];exact h j (by omega) hjk
 have h1:=digs_bd ha;have h2:(s.data.toList.take k).length≤4:=by rw[List.length_take,size_data];omega
 have h3:10 ^ (s.data.toList.take k).length≤10 ^ 4:=Nat.pow_le_pow_right (by decide) h2;omega
theorem val_next {s:ByteArray} {q:Nat} (h:q<s.size):valN (s.data.toList.take (q+1))=valN (s.data.toList.take q) * 10+(s[q].toNat - 48):=by
 rw[List.take_add_one,get_data s q h,Option.toList_some,valN_snoc]
set_option maxRecDepth 100000 in
set_option maxHeartbeats 2000000 in
theorem ddigits_any (s:ByteArray) (w:World) (hs:s.size≤4):Calls Tryz.prog 131 #[.string s] w (RetDg w s.data.toList):=by
 go_enter Tryz.func131,Tryz.ntmps131
 go_wp2;go_loop [4,8] (fun n i=>∃ k:Nat,k≤s.size∧i=.int .i64 k∧n=.int .i64 (valN (s.data.toList.take k):Int)∧Hid (DigTo s k)) (fun _ i=>s.size - (intOf i).toNat)
 case atStart=>exact ⟨0,by omega,rfl,rfl,Lib.hid (DigTo.zero s)⟩
 case round =>
  obtain ⟨k,hk,rfl,rfl,hok⟩:=hrel;have hvb:=pre_bd hok.out hk hs;by_cases hlt:k<s.size
  ·have HV:=Lib.hid (val_next hlt);obtain ⟨v,hv⟩:∃ v,valN (s.data.toList.take k)=v:=⟨_,rfl⟩
   rw[hv]at hvb HV ⊢;clear hv;have hvb2:(v:Int)<10000:=by omega
   rcases digB_cases s[k] with ⟨ho,h1,h2⟩|⟨ho,h1⟩|⟨ho,h1⟩
   ·have HO:=Lib.hid (hok.out.next hlt ho);clear ho hok;go_wp2;go_round
    case rel=>exact ⟨k+1,by omega,by go_num,by rw[HV.out];first | go_num | (congr 1;omega),HO⟩
    case measure=>simp[intOf];omega
   ·have HN:=Lib.hid (dig_not hlt ho);clear ho hok;go_wp2;go_ret2
    exact .inr ⟨HN.out,rfl,rfl⟩
   ·have HN:=Lib.hid (dig_not hlt ho);clear ho hok;go_wp2;go_ret2
    exact .inr ⟨HN.out,rfl,rfl⟩
  ·have HA:=Lib.hid (hok.out.all (by omega));have HT:=Lib.hid (show s.data.toList.take k=s.data.toList from List.take_of_length_le (by rw[size_data];omega));rw[HT.out];clear hok;go_wp2;go_ret2
   exact .inl ⟨HA.out,rfl,rfl⟩
theorem dpar_len {l:List UInt8} (h:l.length≠10∨l.getD 4 0≠45∨l.getD 7 0≠45):dparV l=(0,2):=by unfold dparV;rw[if_pos h]
theorem dpar_dig {l:List UInt8} (h:(pieY l).all digB=false∨(pieM l).all digB=false∨(pieD l).all digB=false):dparV l=(0,2):=by
 unfold dparV
 split
 ·rfl
 ·rw[if_pos];rcases h with h|h|h <;> rw[h] <;> simp
theorem dpar_ok {l:List UInt8} (h:¬(l.length≠10∨l.getD 4 0≠45∨l.getD 7 0≠45)) (h1:(pieY l).all digB=true) (h2:(pieM l).all digB=true) (h3:(pieD l).all digB=true):dparV l=daysV (valN (pieY l)) (valN (pieM l)) (valN (pieD l)):=by
 unfold dparV;rw[if_neg h,h1,h2,h3,if_neg (by decide)]
theorem getD_by {s:ByteArray} {k:Nat} (h:k<s.size):s.data.toList.getD k 0=s[k]:=by
 rw[List.getD_eq_getElem?_getD,get_data s k h];rfl
theorem ret_rs {P:Program} {f:FuncId} {args:Array Value} {w:World} {r:Int×Int} (h:Calls P f args w (RetRs w r)):∃ a b:Int,r=(a,b)∧Calls P f args w fun e w'=>e=.returned (.tuple #[.int .i64 a,.int .i64 b])∧w=w':=⟨r.1,r.2,rfl,h⟩
set_option maxRecDepth 100000 in
set_option maxHeartbeats 2000000 in
theorem datepar_any (s:ByteArray) (w:World) (hs:s.size≤9223372036854775807):Calls Tryz.prog 113 #[.string s] w (RetRs w (dparV s.data.toList)):=by
 by_cases h10:s.size=10
 case neg =>
  have HO:=Lib.hid (dpar_len (l:=s.data.toList) (.inl (by rw[size_data];exact h10)));have q:((s.size:Int) != 10)=true:=by simp;omega
  clear h10;go_enter Tryz.func113,Tryz.ntmps113
  go_wp2;go_ret2
  exact RetRs.mk_ HO.out
 have q:((s.size:Int) != 10)=false:=by simp;omega
 have p4:4<s.size:=by omega
 have p7:7<s.size:=by omega
 by_cases h4:(s[4].toNat:Int)=45
 case neg =>
  have HO:=Lib.hid (dpar_len (l:=s.data.toList) (.inr (.inl (by rw[getD_by p4];intro e;exact h4 (by rw[e];rfl)))));have q4:((s[4].toNat:Int) != 45)=true:=by rw[bne_iff_ne];exact h4
  clear h10 h4;go_enter Tryz.func113,Tryz.ntmps113
  go_wp2;go_ret2
  exact RetRs.mk_ HO.out
 have q4:((s[4].toNat:Int) != 45)=false:=by simpa using h4
 by_cases h7:(s[7].toNat:Int)=45
 case neg =>
  have HO:=Lib.hid (dpar_len (l:=s.data.toList) (.inr (.inr (by rw[getD_by p7];intro e;exact h7 (by rw[e];rfl)))));have q7:((s[7].toNat:Int) != 45)=true:=by rw[bne_iff_ne];exact h7
  clear h10 h4 h7;go_enter Tryz.func113,Tryz.ntmps113
  go_wp2;go_ret2
  exact RetRs.mk_ HO.out
 have q7:((s[7].toNat:Int) != 45)=false:=by simpa using h7
 have HL:=Lib.hid (show ¬(s.data.toList.length≠10∨s.data.toList.getD 4 0≠45∨s.data.toList.getD 7 0≠45) by
  rw[size_data,getD_by p4,getD_by p7];rintro (h|h|h)
  ·exact h h10
  ·exact h (UInt8.toNat_inj.1 (by have:(45:UInt8).toNat=45:=rfl;omega))
  ·exact h (UInt8.toNat_inj.1 (by have:(45:UInt8).toNat=45:=rfl;omega)))
 have yl:(s.extract 0 4).data.toList=pieY s.data.toList:=by rw[Lib.extract_upto];rfl
 have ml:(s.extract 5 7).data.toList=pieM s.data.toList:=by rw[Lib.extract_data];rfl
 have dl:(s.extract 8 s.size).data.toList=pieD s.data.toList:=by rw[Lib.extract_from];rfl
 obtain ⟨Y,hY⟩:∃ Y,s.extract 0 4=Y:=⟨_,rfl⟩
 obtain ⟨M,hM⟩:∃ M,s.extract 5 7=M:=⟨_,rfl⟩
 obtain ⟨D,hD⟩:∃ D,s.extract 8 s.size=D:=⟨_,rfl⟩
 rw[hY]at yl;rw[hM]at ml;rw[hD]at dl;have hYs:Y.size=4:=by rw[←size_data,yl];unfold pieY;rw[List.length_take,size_data];omega
 have hMs:M.size=2:=by rw[←size_data,ml];unfold pieM;rw[List.length_take,List.length_drop,size_data];omega
 have hDs:D.size=2:=by rw[←size_data,dl];unfold pieD;rw[List.length_drop,size_data];omega
 have CY:=Lib.hid (fun X=>ddigits_any Y X (by omega));have CM:=Lib.hid (fun X=>ddigits_any M X (by omega));have CD:=Lib.hid (fun X=>ddigits_any D X (by omega));have HYL:=Lib.hid yl;have HML:=Lib.hid ml;have HDL:=Lib.hid dl;have HYS:=Lib.hid hYs;have HMS:=Lib.hid hMs;have HDS:=Lib.hid hDs;have H10:=Lib.hid h10;clear yl ml dl hYs hMs hDs h4 h7 h10;have g5:5≤s.size:=by have:=H10.out;omega
 have g7:7≤s.size:=by have:=H10.out;omega
 have g8:8≤s.size:=by have:=H10.out;omega
 have g4:4≤s.size:=by have:=H10.out;omega
 go_enter Tryz.func113,Tryz.ntmps113
 go_wp2_with fail
 refine (CY.out _).mono ?_;rintro _ w1 (⟨hy,rfl,rfl⟩|⟨hy,rfl,rfl⟩)
 all_goals
  have HY1:=Lib.hid hy;clear hy;go_wp2_with fail
  refine (CM.out _).mono ?_;rintro _ w2 (⟨hm,rfl,rfl⟩|⟨hm,rfl,rfl⟩)
 all_goals
  have HM1:=Lib.hid hm;clear hm;go_wp2_with fail
  refine (CD.out _).mono ?_;rintro _ w3 (⟨hd,rfl,rfl⟩|⟨hd,rfl,rfl⟩)
 case inl =>
  have HO:=Lib.hid (dpar_ok HL.out (by rw[←HYL.out];exact HY1.out) (by rw[←HML.out];exact HM1.out) (by rw[←HDL.out];exact hd));have b1:=digs_bd HY1.out;have b2:=digs_bd HM1.out;have b3:=digs_bd hd;rw[size_data,HYS.out]at b1;rw[size_data,HMS.out]at b2;rw[size_data,HDS.out]at b3;rw[←HYL.out,←HML.out,←HDL.out]at HO;obtain ⟨y,hyv⟩:∃ y,valN Y.data.toList=y:=⟨_,rfl⟩
  obtain ⟨m,hmv⟩:∃ m,valN M.data.toList=m:=⟨_,rfl⟩
  obtain ⟨d,hdv⟩:∃ d,valN D.data.toList=d:=⟨_,rfl⟩
  rw[hyv]at HO b1 ⊢;rw[hmv]at HO b2 ⊢;rw[hdv]at HO b3 ⊢;clear hyv hmv hdv hd;have e4:(10:Nat) ^ 4=10000:=by decide
  have e2:(10:Nat) ^ 2=100:=by decide
  obtain ⟨a,b,hab,CDY⟩:=ret_rs (days_any (y:Int) (m:Int) (d:Int) w (by omega) (by omega) (by omega));have CC:=Lib.hid CDY;have HAB:=Lib.hid hab;clear CDY hab b1 b2 b3 e4 e2;go_wp2_with fail
  refine CC.out.mono ?_;rintro _ _ ⟨rfl,rfl⟩;go_wp2;go_ret2
  exact RetRs.mk_ (HO.out.trans HAB.out)
 all_goals
  have HD1:=Lib.hid hd;clear hd;have HO:=Lib.hid (dpar_dig (l:=s.data.toList) (by
   rw[←HYL.out,←HML.out,←HDL.out];first
    | exact .inl HY1.out
    | exact .inr (.inl HM1.out)
    | exact .inr (.inr HD1.out)))
  go_wp2;go_ret2
  exact RetRs.mk_ HO.out
end Go.Proofs.YtjnamjkdjcndiaaGreatDoor
