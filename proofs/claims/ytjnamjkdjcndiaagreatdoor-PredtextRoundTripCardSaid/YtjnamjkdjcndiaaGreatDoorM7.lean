/-
  Words, plain laws and contracts on which the walks lean, in one text.
-/
import Derived.Test.YtjnamjkdjcndiaaGreatDoorM4
import Derived.Test.YtjnamjkdjcndiaaGreatDoorShelf
import Derived.Test.YtjnamjkdjcndiaaGreatDoorM1
import Derived.Lib.Strings
import Derived.Lib.ItoaLen
import Derived.Lib.Repeat
import Derived.Lib.SmallJoins
import Derived.Lib.QuietBelow
import Derived.Deep.QuietTactic
import Derived.BigQuiet
import Derived.Test.YtjnamjkdjcndiaaGreatDoorNumLaw
import Derived.Lib.AtoiErrMem
namespace Go.Proofs.YtjnamjkdjcndiaaGreatDoor
open Go.RowKit Go.Sort
abbrev Tab (w:World):Prop:=Lib.TabIs Tryz.prog w "internal/strconv.uint64pow10" .u64 Lib.pow10Tab
theorem tab_glob:Tryz.prog.globalNamed "internal/strconv.uint64pow10"=some 1:=by kernel_rfl
theorem Tab.below {w w':World} (h:Tab w) (hb:Below w.heap.size w w'):Tab w':=Joins.tab_stays tab_glob h hb (Nat.le_refl _)
theorem sizeD (s:ByteArray):s.data.toList.length=s.size:=by rw[Array.length_toList];rfl
theorem strEq {s t:ByteArray} (h:s.data.toList=t.data.toList):s=t:=by
 cases s;cases t;simp only[ByteArray.mk.injEq];exact Array.toList_inj.1 h
def padL (m k:Nat):List UInt8:=List.replicate (k+1 - (Lib.itoa m).length) 48++Lib.itoa m
theorem itoa_pos (m:Nat):1≤(Lib.itoa (m:Int)).length:=by
 rw[Lib.itoa_nonneg,Lib.decDigits_length];exact Lib.nDigits_pos m
theorem itoa_le (m:Nat) (h:m≤999999999999999999):(Lib.itoa (m:Int)).length≤21:=Lib.itoa_length_le m (by omega) (by omega)
theorem repeatL_48 (c:Nat):Lib.repeatL [48] c=List.replicate c 48:=by
 induction c with
 | zero=>rfl
 | succ c ih=>rw[Lib.repeatL,ih];rfl
theorem padL_len (m k:Nat):k<(padL m k).length:=by unfold padL;rw[List.length_append,List.length_replicate];have:=itoa_pos m;omega
theorem padL_le (m k:Nat) (h:m≤999999999999999999) (hk:k≤18):(padL m k).length≤60:=by unfold padL;rw[List.length_append,List.length_replicate];have:=itoa_le m h;omega
def decStr (neg:Bool) (m k:Nat):List UInt8 :=
 (if neg then [45] else [])++(if k=0 then padL m k else (padL m k).take ((padL m k).length - k) ++ [46]++(padL m k).drop ((padL m k).length - k))
def decV (n k:Int):List UInt8×Int:=if withB n&&scaB k then (decStr (decide (n<0)) n.natAbs k.toNat,0) else ([],4)
theorem fin_eq (sg P:ByteArray) (j:Nat) (_h:j<P.size):(sg++P.extract 0 (P.size - j) ++ { data:=#[46] } ++ P.extract (P.size - j) P.size).data.toList=sg.data.toList++(P.data.toList.take (P.data.toList.length - j) ++ [46]++P.data.toList.drop (P.data.toList.length - j)):=by
 have e1:(P.extract 0 (P.size - j)).data.toList=P.data.toList.take (P.data.toList.length - j):=by rw[Lib.extract_data,List.drop_zero,sizeD,Nat.sub_zero]
 have e2:(P.extract (P.size - j) P.size).data.toList=P.data.toList.drop (P.data.toList.length - j):=by
  rw[Lib.extract_data,sizeD];exact List.take_of_length_le (by rw[List.length_drop,sizeD];omega)
 rw[ByteArray.data_append,ByteArray.data_append,ByteArray.data_append,Array.toList_append,Array.toList_append,Array.toList_append,e1,e2];simp
def RetDec (w:World) (r:List UInt8×Int) (e:Ending) (w':World):Prop:=e=.returned (.tuple #[.string ⟨r.1.toArray⟩,.int .i64 r.2])∧Below w.heap.size w w'
theorem RetDec.mk_ {w w':World} {r:List UInt8×Int} {s:ByteArray} {x:Int} (h1:s.data.toList=r.1) (h2:x=r.2) (hb:Below w.heap.size w w'):RetDec w r (.returned (.tuple #[.string s,.int .i64 x])) w':=by
 subst h2;unfold RetDec;rw[←h1];exact ⟨rfl,hb⟩
theorem below_gd (w:World) (k:Nat) (os:Array Obj):Below w.heap.size w (grow (w.drewN k) os):=by
 have:=below_regrown w (w.drawn+k) os
 exact this
set_option maxRecDepth 100000 in
set_option maxHeartbeats 4000000 in
theorem decfmt_any (n k:Int) (w:World) (htab:Tab w) :
  Calls Tryz.prog 98 #[.int .i64 n,.int .i64 k] w (RetDec w (decV n k)):=by
 have C1:=Lib.hid (fun X=>within_any n X);have C2:=Lib.hid (fun X=>scales_any k X);have HT:=Lib.hid htab;clear htab;by_cases hok:(withB n&&scaB k)=true
 case neg =>
  have HF:=Lib.hid (show decV n k=([],4) by unfold decV;rw[if_neg hok]);cases e1:withB n
  all_goals cases e2:scaB k
  all_goals try (exfalso;apply hok;rw[e1,e2];rfl)
  all_goals
   clear hok;rw[e1]at C1;rw[e2]at C2;clear e1 e2;go_enter Tryz.func98,Tryz.ntmps98
   go_wp2_with (first
    | (with_reducible refine (C1.out _).mono ?_;rintro _ _ ⟨rfl,rfl⟩)
    | (with_reducible refine (C2.out _).mono ?_;rintro _ _ ⟨rfl,rfl⟩))
   go_ret2
   exact RetDec.mk_ (by rw[HF.out]) (by rw[HF.out]) (Below.refl _ _)
 case pos =>
 have HF:=Lib.hid (show decV n k=(decStr (decide (n<0)) n.natAbs k.toNat,0) by unfold decV;rw[if_pos hok]);simp only[Bool.and_eq_true]at hok;have k1:=withB_bd hok.1;have k2:=scaB_bd hok.2;rw[hok.1]at C1;rw[hok.2]at C2;clear hok;obtain ⟨j,rfl⟩:=Int.eq_ofNat_of_zero_le k2.1;rw[Int.toNat_natCast]at HF;have hj:j≤18:=by omega
 obtain ⟨m,hm⟩:∃ m,n.natAbs=m:=⟨_,rfl⟩
 have hm1:m≤999999999999999999:=by omega
 rw[hm]at HF;have l1:=itoa_pos m;have l2:=itoa_le m hm1;have p1:=padL_len m j;have p2:=padL_le m j hm1 hj;have CF:=Lib.hid (fun X (h:Tab X)=>Tryz.strconv_FormatInt_10 (m:Int) (by omega) (by omega) X h);have CR:=Lib.hid (fun X (c:Nat) (h:c≤100)=>Tryz.strings_Repeat { data:=#[48] } c X (by omega) (by show 1 * c≤_;omega));obtain ⟨D,hD⟩:∃ D:ByteArray,D=⟨(Lib.itoa (m:Int)).toArray⟩:=⟨_,rfl⟩
 rw[←hD]at CF;have hDl:D.data.toList=Lib.itoa (m:Int):=by rw[hD]
 have hDs:D.size=(Lib.itoa (m:Int)).length:=by rw[←sizeD,hDl]
 clear hD;obtain ⟨P,hP⟩:∃ P:ByteArray,P=⟨(padL m j).toArray⟩:=⟨_,rfl⟩
 have hPl:P.data.toList=padL m j:=by rw[hP]
 have hPs:P.size=(padL m j).length:=by rw[←sizeD,hPl]
 clear hP;rw[←hDs]at l1 l2;rw[←hPs]at p1 p2;have HPl:=Lib.hid hPl;have HPs:=Lib.hid hPs;by_cases hneg:n<0
 ·obtain rfl:n=-(m:Int):=by omega
  have hm0:1≤m:=by omega
  by_cases hj0:j=0
  ·have t0:((j:Int)==0)=true:=by simp;omega
   have hlen:¬D.size≤j:=by omega
   have HJ:=Lib.hid hj0;have hPD:P=D:=strEq (by rw[hPl,hDl];unfold padL;rw[←hDs,show j+1 - D.size=0 by omega];rfl);subst hPD;clear hj0;have HDs:=Lib.hid hDs;have HDl:=Lib.hid hDl;clear hPl hPs hDs hDl hm;go_enter Tryz.func98,Tryz.ntmps98
   go_wp2_with (first
    | (with_reducible refine (C1.out _).mono ?_;rintro _ _ ⟨rfl,rfl⟩)
    | (with_reducible refine (C2.out _).mono ?_;rintro _ _ ⟨rfl,rfl⟩))
   refine (CF.out _ HT.out).mono ?_;rintro _ w1 ⟨rfl,dk,os,rfl⟩;have HB1:=Lib.hid (below_gd w dk os);obtain ⟨W1,hW1⟩:∃ W1,W1=grow (w.drewN dk) os:=⟨_,rfl⟩
   rw[←hW1]at HB1 ⊢;clear hW1;go_wp2;go_ret2
   exact RetDec.mk_ (by rw[HF.out];simp only[decStr];rw[if_pos HJ.out,if_pos (by simpa using hneg),←HPl.out];simp) (by rw[HF.out]) HB1.out
  ·have t0:((j:Int)==0)=false:=by simp;omega
   by_cases hlen:D.size≤j
   ·have HPD:=Lib.hid (show (⟨(Lib.repeatL [48] (j+1 - D.size)).toArray⟩:ByteArray)++D=P from strEq (by rw[hPl,ByteArray.data_append,Array.toList_append,hDl];unfold padL;rw[←hDs,repeatL_48]));have hRs:(⟨(Lib.repeatL [48] (j+1 - D.size)).toArray⟩:ByteArray).size=j+1 - D.size:=by rw[←sizeD,repeatL_48];simp
    obtain ⟨Rp,hRp⟩:∃ Rp:ByteArray,(⟨(Lib.repeatL [48] (j+1 - D.size)).toArray⟩:ByteArray)=Rp:=⟨_,rfl⟩
    rw[hRp]at HPD hRs;have CR':=Lib.hid (fun X=>CR.out X (j+1 - D.size) (by omega));rw[show ({ data:=#[48] }:ByteArray).data.toList=[48] from rfl,hRp,show ((j+1 - D.size:Nat):Int)=(j:Int)+1 - (D.size:Int) by omega]at CR';clear hRp CR;have HDs:=Lib.hid hDs;have HDl:=Lib.hid hDl;clear hPl hPs hDs hDl hm;go_enter Tryz.func98,Tryz.ntmps98
    go_wp2_with (first
     | (with_reducible refine (C1.out _).mono ?_;rintro _ _ ⟨rfl,rfl⟩)
     | (with_reducible refine (C2.out _).mono ?_;rintro _ _ ⟨rfl,rfl⟩))
    refine (CF.out _ HT.out).mono ?_;rintro _ w1 ⟨rfl,dk,os,rfl⟩;have HB1:=Lib.hid (below_gd w dk os);obtain ⟨W1,hW1⟩:∃ W1,W1=grow (w.drewN dk) os:=⟨_,rfl⟩
    rw[←hW1]at HB1 ⊢;clear hW1;go_wp2_with fail
    refine (CR'.out _).mono ?_;rintro _ w2 ⟨rfl,hb2⟩;have HB2:=Lib.hid (bst HB1.out hb2);clear hb2;go_wp2;rw[HPD.out];have hw1:IntKind.i64.wrap ((P.size:Int) - (j:Int))=(P.size:Int) - j:=IntWalk.i64_in _ (by omega);have hw2:0≤(P.size:Int) - j:=by omega
    have hw3:((P.size:Int) - (j:Int)).toNat=P.size - j:=by omega
    go_quiet (fail)
    clear hw1 hw2 hw3;go_wp2;go_ret2
    exact RetDec.mk_ (by rw[HF.out];simp only[decStr];rw[if_neg hj0,if_pos (by simpa using hneg),←HPl.out];exact fin_eq { data:=#[45] } P j p1) (by rw[HF.out]) (below_drewN HB2.out _)
   ·have hPD:P=D:=strEq (by rw[hPl,hDl];unfold padL;rw[←hDs,show j+1 - D.size=0 by omega];rfl);subst hPD;have HDs:=Lib.hid hDs;have HDl:=Lib.hid hDl;clear hPl hPs hDs hDl hm;go_enter Tryz.func98,Tryz.ntmps98
    go_wp2_with (first
     | (with_reducible refine (C1.out _).mono ?_;rintro _ _ ⟨rfl,rfl⟩)
     | (with_reducible refine (C2.out _).mono ?_;rintro _ _ ⟨rfl,rfl⟩))
    refine (CF.out _ HT.out).mono ?_;rintro _ w1 ⟨rfl,dk,os,rfl⟩;have HB1:=Lib.hid (below_gd w dk os);obtain ⟨W1,hW1⟩:∃ W1,W1=grow (w.drewN dk) os:=⟨_,rfl⟩
    rw[←hW1]at HB1 ⊢;clear hW1;go_wp2;have hw1:IntKind.i64.wrap ((P.size:Int) - (j:Int))=(P.size:Int) - j:=IntWalk.i64_in _ (by omega);have hw2:0≤(P.size:Int) - j:=by omega
    have hw3:((P.size:Int) - (j:Int)).toNat=P.size - j:=by omega
    go_quiet (fail)
    clear hw1 hw2 hw3;go_wp2;go_ret2
    exact RetDec.mk_ (by rw[HF.out];simp only[decStr];rw[if_neg hj0,if_pos (by simpa using hneg),←HPl.out];exact fin_eq { data:=#[45] } P j p1) (by rw[HF.out]) (below_drewN HB1.out _)
 ·obtain rfl:n=(m:Int):=by omega
  by_cases hj0:j=0
  ·have t0:((j:Int)==0)=true:=by simp;omega
   have hlen:¬D.size≤j:=by omega
   have HJ:=Lib.hid hj0;have hPD:P=D:=strEq (by rw[hPl,hDl];unfold padL;rw[←hDs,show j+1 - D.size=0 by omega];rfl);subst hPD;clear hj0;have HDs:=Lib.hid hDs;have HDl:=Lib.hid hDl;clear hPl hPs hDs hDl hm;go_enter Tryz.func98,Tryz.ntmps98
   go_wp2_with (first
    | (with_reducible refine (C1.out _).mono ?_;rintro _ _ ⟨rfl,rfl⟩)
    | (with_reducible refine (C2.out _).mono ?_;rintro _ _ ⟨rfl,rfl⟩))
   refine (CF.out _ HT.out).mono ?_;rintro _ w1 ⟨rfl,dk,os,rfl⟩;have HB1:=Lib.hid (below_gd w dk os);obtain ⟨W1,hW1⟩:∃ W1,W1=grow (w.drewN dk) os:=⟨_,rfl⟩
   rw[←hW1]at HB1 ⊢;clear hW1;go_wp2;go_ret2
   exact RetDec.mk_ (by rw[HF.out];simp only[decStr];rw[if_pos HJ.out,if_neg (by simp),←HPl.out];simp) (by rw[HF.out]) HB1.out
  ·have t0:((j:Int)==0)=false:=by simp;omega
   by_cases hlen:D.size≤j
   ·have HPD:=Lib.hid (show (⟨(Lib.repeatL [48] (j+1 - D.size)).toArray⟩:ByteArray)++D=P from strEq (by rw[hPl,ByteArray.data_append,Array.toList_append,hDl];unfold padL;rw[←hDs,repeatL_48]));have hRs:(⟨(Lib.repeatL [48] (j+1 - D.size)).toArray⟩:ByteArray).size=j+1 - D.size:=by rw[←sizeD,repeatL_48];simp
    obtain ⟨Rp,hRp⟩:∃ Rp:ByteArray,(⟨(Lib.repeatL [48] (j+1 - D.size)).toArray⟩:ByteArray)=Rp:=⟨_,rfl⟩
    rw[hRp]at HPD hRs;have CR':=Lib.hid (fun X=>CR.out X (j+1 - D.size) (by omega));rw[show ({ data:=#[48] }:ByteArray).data.toList=[48] from rfl,hRp,show ((j+1 - D.size:Nat):Int)=(j:Int)+1 - (D.size:Int) by omega]at CR';clear hRp CR;have HDs:=Lib.hid hDs;have HDl:=Lib.hid hDl;clear hPl hPs hDs hDl hm;go_enter Tryz.func98,Tryz.ntmps98
    go_wp2_with (first
     | (with_reducible refine (C1.out _).mono ?_;rintro _ _ ⟨rfl,rfl⟩)
     | (with_reducible refine (C2.out _).mono ?_;rintro _ _ ⟨rfl,rfl⟩))
    refine (CF.out _ HT.out).mono ?_;rintro _ w1 ⟨rfl,dk,os,rfl⟩;have HB1:=Lib.hid (below_gd w dk os);obtain ⟨W1,hW1⟩:∃ W1,W1=grow (w.drewN dk) os:=⟨_,rfl⟩
    rw[←hW1]at HB1 ⊢;clear hW1;go_wp2_with fail
    refine (CR'.out _).mono ?_;rintro _ w2 ⟨rfl,hb2⟩;have HB2:=Lib.hid (bst HB1.out hb2);clear hb2;go_wp2;rw[HPD.out];have hw1:IntKind.i64.wrap ((P.size:Int) - (j:Int))=(P.size:Int) - j:=IntWalk.i64_in _ (by omega);have hw2:0≤(P.size:Int) - j:=by omega
    have hw3:((P.size:Int) - (j:Int)).toNat=P.size - j:=by omega
    go_quiet (fail)
    clear hw1 hw2 hw3;go_wp2;go_ret2
    exact RetDec.mk_ (by rw[HF.out];simp only[decStr];rw[if_neg hj0,if_neg (by simp),←HPl.out];exact fin_eq { data:=#[] } P j p1) (by rw[HF.out]) (below_drewN HB2.out _)
   ·have hPD:P=D:=strEq (by rw[hPl,hDl];unfold padL;rw[←hDs,show j+1 - D.size=0 by omega];rfl);subst hPD;have HDs:=Lib.hid hDs;have HDl:=Lib.hid hDl;clear hPl hPs hDs hDl hm;go_enter Tryz.func98,Tryz.ntmps98
    go_wp2_with (first
     | (with_reducible refine (C1.out _).mono ?_;rintro _ _ ⟨rfl,rfl⟩)
     | (with_reducible refine (C2.out _).mono ?_;rintro _ _ ⟨rfl,rfl⟩))
    refine (CF.out _ HT.out).mono ?_;rintro _ w1 ⟨rfl,dk,os,rfl⟩;have HB1:=Lib.hid (below_gd w dk os);obtain ⟨W1,hW1⟩:∃ W1,W1=grow (w.drewN dk) os:=⟨_,rfl⟩
    rw[←hW1]at HB1 ⊢;clear hW1;go_wp2;have hw1:IntKind.i64.wrap ((P.size:Int) - (j:Int))=(P.size:Int) - j:=IntWalk.i64_in _ (by omega);have hw2:0≤(P.size:Int) - j:=by omega
    have hw3:((P.size:Int) - (j:Int)).toNat=P.size - j:=by omega
    go_quiet (fail)
    clear hw1 hw2 hw3;go_wp2;go_ret2
    exact RetDec.mk_ (by rw[HF.out];simp only[decStr];rw[if_neg hj0,if_neg (by simp),←HPl.out];exact fin_eq { data:=#[] } P j p1) (by rw[HF.out]) (below_drewN HB1.out _)
def digL (n k:Nat):List UInt8:=List.replicate (k - (if n=0 then [] else Lib.decDigits n).length) 48++(if n=0 then [] else Lib.decDigits n)
theorem dd_small {c:Nat} (h:c<10):Lib.decDigits c=[UInt8.ofNat (48+c)]:=by rw[Lib.decDigits.eq_def,dif_pos h]
theorem dd_snoc {a c:Nat} (ha:1≤a) (hc:c<10):Lib.decDigits (a * 10+c)=Lib.decDigits a ++ [UInt8.ofNat (48+c)]:=by
 rw[Lib.decDigits.eq_def (a * 10+c),dif_neg (by omega),show (a * 10+c) / 10=a by omega,show (a * 10+c) % 10=c by omega]
theorem digL_snoc (a c j:Nat) (hc:c<10):digL (a * 10+c) (j+1)=digL a j ++ [UInt8.ofNat (48+c)]:=by
 unfold digL
 by_cases ha:a=0
 ·subst ha;by_cases h0:c=0
  ·subst h0;simp[List.replicate_succ']
  ·rw[if_neg (by omega),if_pos rfl,show 0 * 10+c=c by omega,dd_small hc];simp
 ·rw[if_neg (by omega),if_neg ha,dd_snoc (by omega) hc,List.length_append,List.length_singleton,←List.append_assoc];congr 2;congr 1;omega
theorem padL_snoc (m j:Nat):padL m (j+1)=padL (m / 10) j ++ [UInt8.ofNat (48+m % 10)]:=by
 unfold padL
 rw[Lib.itoa_nonneg,Lib.itoa_nonneg];by_cases h:m<10
 ·rw[show m / 10=0 by omega,show m % 10=m by omega,dd_small h,dd_small (show 0<10 by omega)];simp only[List.length_singleton];rw[show j+1+1 - 1=j+1 by omega,show j+1 - 1=j by omega,List.replicate_succ'];rfl
 ·have e:=dd_snoc (a:=m / 10) (c:=m % 10) (by omega) (by omega);rw[show m / 10 * 10+m % 10=m by omega]at e;rw[e,List.length_append,List.length_singleton,←List.append_assoc];congr 2;congr 1;omega
theorem padL_split:∀ (j m:Nat),padL m j=digL (m / 10 ^ j) 1++digL (m % 10 ^ j) j∧(digL (m % 10 ^ j) j).length=j
 | 0,m=>by
  simp only[Nat.pow_zero,Nat.div_one,Nat.mod_one];refine ⟨?_,rfl⟩
  have e0:digL 0 0=[]:=rfl;rw[e0,List.append_nil];unfold padL digL
  rw[Lib.itoa_nonneg];by_cases h:m=0
  ·subst h;rw[if_pos rfl,dd_small (by omega)];rfl
  ·rw[if_neg h,Lib.decDigits_length]
 | j+1,m=>by
  obtain ⟨e,l⟩:=padL_split j (m / 10);have h1:m / 10 / 10 ^ j=m / 10 ^ (j+1):=by rw[Nat.div_div_eq_div_mul,Nat.pow_succ,Nat.mul_comm]
  have h2:m % 10 ^ (j+1)=m / 10 % 10 ^ j * 10+m % 10:=by
   rw[Nat.pow_succ,Nat.mul_comm (10 ^ j) 10,Nat.mod_mul];omega
  rw[padL_snoc,e,h1,h2,digL_snoc _ _ _ (by omega),List.append_assoc];exact ⟨rfl,by rw[List.length_append,l];rfl⟩
def leapB (y:Int):Bool:=(y % 4==0&&y % 100 != 0) || y % 400==0
def lp (y:Int):Int:=if leapB y=true then 1 else 0
def monL (y m:Int):Int:=if m=2 then 28+lp y else if m=4∨m=6∨m=9∨m=11 then 30 else 31
def jan (y:Int):Int:=365 * (y - 1)+(y - 1) / 4 - (y - 1) / 100+(y - 1) / 400 - 719162
def cum (y:Int):Nat→Int
 | 0=>0
 | k+1=>cum y k+monL y ((k:Int)+1)
theorem lp_01 (y:Int):(lp y=0∧leapB y=false)∨(lp y=1∧leapB y=true):=by
 unfold lp;cases leapB y <;> simp
theorem leap_iff (y:Int):leapB y=true ↔ ((y % 4=0∧y % 100≠0)∨y % 400=0):=by
 simp[leapB]
theorem lp_iff (y:Int):(lp y=1∧((y % 4=0∧y % 100≠0)∨y % 400=0))∨(lp y=0∧¬((y % 4=0∧y % 100≠0)∨y % 400=0)):=by
 rcases lp_01 y with ⟨a,b⟩|⟨a,b⟩
 ·exact .inr ⟨a,fun h=>by rw[(leap_iff y).2 h]at b;cases b⟩
 ·exact .inl ⟨a,(leap_iff y).1 b⟩
theorem jan_succ (y:Int):jan (y+1)=jan y+365+lp y:=by
 unfold jan
 rcases lp_iff y with ⟨a,b⟩|⟨a,b⟩ <;> omega
theorem jan_mono (a b:Int) (h:a≤b):jan a≤jan b:=by unfold jan;omega
theorem monL_bd (y m:Int):28≤monL y m∧monL y m≤31:=by
 unfold monL
 have:=lp_01 y
 split
 ·omega
 ·split <;> omega
theorem cum_12 (y:Int):cum y 12=365+lp y:=by
 simp[cum,monL];omega
theorem cum_nonneg (y:Int):∀ k,0≤cum y k
 | 0=>by simp[cum]
 | k+1=>by have:=cum_nonneg y k;have:=monL_bd y ((k:Int)+1);simp only[cum];omega
theorem cum_mono (y:Int) {a b:Nat} (h:a≤b):cum y a≤cum y b:=by
 induction h with
 | refl=>omega
 | step _ ih=>have:=monL_bd y;simp only[cum];rename_i m _;have:=this ((m:Int)+1);omega
def IsCiv (n y m d:Int):Prop:=1≤y∧y≤9999∧∃ k:Nat,m=(k:Int)+1∧k≤11∧n=jan y+cum y k+d - 1∧1≤d∧d≤monL y ((k:Int)+1)
theorem civ_year {n y m d:Int} (h:IsCiv n y m d):jan y≤n∧n<jan (y+1):=by
 obtain ⟨_,_,k,rfl,hk,rfl,h1,h2⟩:=h;have h3:=cum_nonneg y k;have h4:cum y k+monL y ((k:Int)+1)≤cum y 12:=cum_mono y (show k+1≤12 by omega);have h5:=cum_12 y;have h6:=jan_succ y;omega
theorem civ_unique {n y m d y' m' d':Int} (h:IsCiv n y m d) (h':IsCiv n y' m' d'):(y,m,d)=(y',m',d'):=by
 have a:=civ_year h;have b:=civ_year h';have e:y=y':=by
  by_cases hlt:y<y'
  ·have:=jan_mono (y+1) y' (by omega);omega
  ·by_cases hgt:y' < y
   ·have:=jan_mono (y' + 1) y (by omega);omega
   ·omega
 subst e;obtain ⟨_,_,k,rfl,hk,rfl,h1,h2⟩:=h;obtain ⟨_,_,j,rfl,hj,hn,h1',h2'⟩:=h';have e:k=j:=by
  by_cases hlt:k<j
  ·have:cum y k+monL y ((k:Int)+1)≤cum y j:=cum_mono y (show k+1≤j by omega)
   omega
  ·by_cases hgt:j<k
   ·have:cum y j+monL y ((j:Int)+1)≤cum y k:=cum_mono y (show j+1≤k by omega)
    omega
   ·omega
 subst e;have:d=d':=by omega
 subst this;rfl
noncomputable def civ (n:Int):Int×Int×Int:=open Classical in if h:∃ t:Int×Int×Int,IsCiv n t.1 t.2.1 t.2.2 then h.choose else (0,0,0)
theorem civ_eq {n y m d:Int} (h:IsCiv n y m d):civ n=(y,m,d):=by
 unfold civ
 have hx:∃ t:Int×Int×Int,IsCiv n t.1 t.2.1 t.2.2:=⟨(y,m,d),h⟩
 rw[dif_pos hx];exact civ_unique hx.choose_spec h
def dateL (y m d:Nat):List UInt8:=digL y 4 ++ [45]++digL m 2 ++ [45]++digL d 2
noncomputable def dateV (n:Int):List UInt8×Int:=if -719162≤n∧n≤2932896 then (dateL (civ n).1.toNat (civ n).2.1.toNat (civ n).2.2.toNat,0) else ([],4)
theorem dateV_in {n y m d:Int} (h0:-719162≤n) (h1:n≤2932896) (h:IsCiv n y m d):dateV n=(dateL y.toNat m.toNat d.toNat,0):=by
 unfold dateV;rw[if_pos ⟨h0,h1⟩,civ_eq h]
theorem dateV_out {n:Int} (h:¬(-719162≤n∧n≤2932896)):dateV n=([],4):=by unfold dateV;rw[if_neg h]
theorem civ_mk {n y r:Int} {k:Nat} (hy:1≤y∧y≤9999) (hk:k≤11) (hr:r=n - jan y - cum y k) (h0:0≤r) (h1:r<monL y ((k:Int)+1)):IsCiv n y ((k:Int)+1) (r+1) :=
 ⟨hy.1,hy.2,k,rfl,hk,by omega,by omega,by omega⟩
theorem civ_cycle (n:Int) (h0:0≤n) (a r:Int) (ha:a=n / 146097) (hr:r=n % 146097) (c s:Int) (hc:c=min (r / 36524) 3) (hs:s=r - c * 36524) (b t:Int) (hb:b=s / 1461) (ht:t=s % 1461) (k:Int) (hk:k=min (t / 365) 3) :
  jan (1+400 * a+100 * c+4 * b+k)=n - 719162 - (t - k * 365)∧0≤t - k * 365∧t - k * 365<365+lp (1+400 * a+100 * c+4 * b+k)∧0≤c∧c≤3∧0≤b∧b≤24∧0≤k∧k≤3∧0≤a:=by
 have c1:0≤c∧c≤3:=by omega
 have b1:0≤b∧b≤24:=by omega
 have k1:0≤k∧k≤3:=by omega
 have a1:0≤a:=by omega
 have q4:(400 * a+100 * c+4 * b+k) / 4=100 * a+25 * c+b:=by omega
 have q100:(400 * a+100 * c+4 * b+k) / 100=4 * a+c:=by omega
 have q400:(400 * a+100 * c+4 * b+k) / 400=a:=by omega
 refine ⟨?_,by omega,?_,by omega,by omega,by omega,by omega,by omega,by omega,a1⟩
 ·unfold jan
  rw[show 1+400 * a+100 * c+4 * b+k - 1=400 * a+100 * c+4 * b+k by omega,q4,q100,q400];omega
 ·rcases lp_iff (1+400 * a+100 * c+4 * b+k) with ⟨e,h⟩ | ⟨e,h⟩
  ·omega
  ·rw[e];by_cases hk3:k=3
   ·by_cases ht4:t=1460
    ·exfalso;apply h
     have hb24:b=24→c=3:=by omega
     by_cases hb:b=24
     ·right;have:=hb24 hb;omega
     ·left;omega
    ·omega
   ·omega
/-! the digits of a text of fixed width -/
theorem digL_2 (n:Nat) (h:n<100):digL n 2=[UInt8.ofNat (48+n / 10 % 10),UInt8.ofNat (48+n % 10)]:=by
 have h1:=digL_snoc (n / 10) (n % 10) 1 (by omega);have h2:=digL_snoc (n / 10 / 10) (n / 10 % 10) 0 (by omega);rw[show n / 10 * 10+n % 10=n by omega]at h1;rw[show n / 10 / 10 * 10+n / 10 % 10=n / 10 by omega,show n / 10 / 10=0 by omega]at h2;rw[h1,h2];rfl
theorem digL_4 (n:Nat) (h:n<10000):digL n 4=[UInt8.ofNat (48+n / 1000 % 10),UInt8.ofNat (48+n / 100 % 10),UInt8.ofNat (48+n / 10 % 10),UInt8.ofNat (48+n % 10)]:=by
 have h1:=digL_snoc (n / 10) (n % 10) 3 (by omega);have h2:=digL_snoc (n / 10 / 10) (n / 10 % 10) 2 (by omega);rw[show n / 10 * 10+n % 10=n by omega]at h1;rw[show n / 10 / 10 * 10+n / 10 % 10=n / 10 by omega]at h2;rw[h1,h2,show n / 10 / 10=n / 100 by omega,digL_2 (n / 100) (by omega),show n / 100 / 10=n / 1000 by omega];rfl
open Go.RowKit
def RetN' (w:World) (x:Int) (e:Ending) (w':World):Prop:=e=.returned (.int .i64 x)∧w=w'
theorem RetN'.mk_ {w:World} {x y:Int} (h:x=y):RetN' w x (.returned (.int .i64 y)) w:=by subst h;exact ⟨rfl,rfl⟩
theorem ret0_int {P:Program} {f:FuncId} {args:Array Value} {w:World} {x y:Int} (h:x=y) (hc:Calls P f args w (RetN' w x)):Calls P f args w fun e w'=>e=.returned (.int .i64 y)∧w=w':=by subst h;exact hc
theorem lp_true {y:Int} (h:leapB y=true):lp y=1:=by unfold lp;rw[if_pos h]
theorem lp_false {y:Int} (h:leapB y=false):lp y=0:=by unfold lp;rw[h];rfl
theorem mon_2 {y:Int} {x:Int} (h:lp y=x):monL y 2=28+x:=by unfold monL;rw[if_pos rfl,h]
theorem mon_30 (y:Int) {m:Int} (h:m=4∨m=6∨m=9∨m=11):monL y m=30:=by unfold monL;rw[if_neg (by omega),if_pos h]
theorem mon_31 (y:Int) {m:Int} (h2:m≠2) (h:¬(m=4∨m=6∨m=9∨m=11)):monL y m=31:=by unfold monL;rw[if_neg h2,if_neg h]
set_option maxHeartbeats 1000000 in
theorem leap_any (y:Int) (w:World) (h0:0≤y) (h1:y≤100000):Calls Tryz.prog 159 #[.int .i64 y] w (Ret0 w (leapB y)):=by
 have HL:=Lib.hid (show leapB y=((y % 4==0&&y % 100 != 0) || y % 400==0) from rfl);obtain ⟨a,ha⟩:∃ a,y % 4=a:=⟨_,rfl⟩
 obtain ⟨b,hb⟩:∃ b,y % 100=b:=⟨_,rfl⟩
 obtain ⟨c,hc⟩:∃ c,y % 400=c:=⟨_,rfl⟩
 rw[ha,hb,hc]at HL;by_cases a0:a=0
 ·subst a0;by_cases b0:b=0
  ·subst b0;by_cases c0:c=0
   ·subst c0;go_enter Tryz.func159,Tryz.ntmps159
    go_wp2;go_ret;exact Ret0.mk_ (by rw[HL.out];rfl)
   ·have t:(c==0)=false:=by simpa using c0
    go_enter Tryz.func159,Tryz.ntmps159
    go_wp2;go_ret;exact Ret0.mk_ (by rw[HL.out,t];rfl)
  ·have t:(b==0)=false:=by simpa using b0
   have t':(b != 0)=true:=by simpa using b0
   go_enter Tryz.func159,Tryz.ntmps159
   go_wp2;go_ret;exact Ret0.mk_ (by rw[HL.out,t'];rfl)
 ·have t0:(a==0)=false:=by simpa using a0
  by_cases c0:c=0
  ·subst c0;go_enter Tryz.func159,Tryz.ntmps159
   go_wp2;go_ret;exact Ret0.mk_ (by rw[HL.out,t0];rfl)
  ·have t:(c==0)=false:=by simpa using c0
   go_enter Tryz.func159,Tryz.ntmps159
   go_wp2;go_ret;exact Ret0.mk_ (by rw[HL.out,t0,t];rfl)
set_option maxHeartbeats 1000000 in
theorem mlen_any (y m:Int) (w:World) (h0:0≤y) (h1:y≤100000):Calls Tryz.prog 133 #[.int .i64 y,.int .i64 m] w (RetN' w (monL y m)):=by
 by_cases m2:m=2
 ·subst m2;have C:=Lib.hid (leap_any y w h0 h1);cases hb:leapB y with
  | true =>
   rw[hb]at C;have HE:=Lib.hid (mon_2 (lp_true hb));clear hb;go_enter Tryz.func133,Tryz.ntmps133
   go_wp2_with fail
   refine C.out.mono ?_;rintro _ _ ⟨rfl,rfl⟩;go_wp2;go_ret;exact RetN'.mk_ HE.out
  | false =>
   rw[hb]at C;have HE:=Lib.hid (mon_2 (lp_false hb));clear hb;go_enter Tryz.func133,Tryz.ntmps133
   go_wp2_with fail
   refine C.out.mono ?_;rintro _ _ ⟨rfl,rfl⟩;go_wp2;go_ret;exact RetN'.mk_ HE.out
 ·by_cases m30:m=4∨m=6∨m=9∨m=11
  ·have HE:=Lib.hid (mon_30 y m30);clear m2;rcases m30 with rfl|rfl|rfl|rfl
   all_goals
    go_enter Tryz.func133,Tryz.ntmps133
    go_wp2;go_ret;exact RetN'.mk_ HE.out
  ·have HE:=Lib.hid (mon_31 y m2 m30);have q1:(m==2)=false:=by simpa using m2
   have q2:(m==4)=false:=by simp;omega
   have q3:(m==6)=false:=by simp;omega
   have q4:(m==9)=false:=by simp;omega
   have q5:(m==11)=false:=by simp;omega
   clear m2 m30;go_enter Tryz.func133,Tryz.ntmps133
   go_wp2;go_ret;exact RetN'.mk_ HE.out
def RetCiv (w:World) (n:Int) (e:Ending) (w':World):Prop:=∃ y m d:Int,IsCiv n y m d∧e=.returned (.tuple #[.int .i64 y,.int .i64 m,.int .i64 d,.int .i64 0])∧w=w'
theorem jan_10000:jan 10000=2932897:=by decide
theorem year_in {n Y:Int} (hn:n≤2932896) (h:jan Y≤n):Y≤9999:=by
 by_cases hb:Y≤9999
 ·exact hb
 ·have:=jan_mono 10000 Y (by omega);rw[jan_10000]at this;omega
theorem mon_step {Y q0 q:Int} {j:Nat} (hj:j≤11) (hq:q=q0 - cum Y j) (h0:q0<365+lp Y) (hm:monL Y ((j:Int)+1)≤q):j+1≤11∧q - monL Y ((j:Int)+1)=q0 - cum Y (j+1):=by
 have h5:=cum_12 Y;refine ⟨?_,by simp only[cum];omega⟩
 by_cases h:j=11
 ·subst h;have:cum Y 12=cum Y 11+monL Y (((11:Nat):Int)+1):=rfl
  omega
 ·omega
set_option maxRecDepth 100000 in
set_option maxHeartbeats 2000000 in
theorem civil_in (n:Int) (w:World) (h0:-719162≤n) (h1:n≤2932896):Calls Tryz.prog 115 #[.int .i64 n] w (RetCiv w n):=by
 obtain ⟨N,hN⟩:∃ N,n+719162=N:=⟨_,rfl⟩
 have hN0:0≤N:=by omega
 have hN1:N≤3652058:=by omega
 obtain ⟨a,ha⟩:∃ a,N / 146097=a:=⟨_,rfl⟩
 obtain ⟨r,hr⟩:∃ r,N % 146097=r:=⟨_,rfl⟩
 obtain ⟨c,hc⟩:∃ c,min (r / 36524) 3=c:=⟨_,rfl⟩
 obtain ⟨s,hs⟩:∃ s,r - c * 36524=s:=⟨_,rfl⟩
 obtain ⟨b,hb⟩:∃ b,s / 1461=b:=⟨_,rfl⟩
 obtain ⟨t,ht⟩:∃ t,s % 1461=t:=⟨_,rfl⟩
 obtain ⟨k,hk⟩:∃ k,min (t / 365) 3=k:=⟨_,rfl⟩
 obtain ⟨q0,hq0⟩:∃ q,t - k * 365=q:=⟨_,rfl⟩
 obtain ⟨Y,hY⟩:∃ Y,1+400 * a+100 * c+4 * b+k=Y:=⟨_,rfl⟩
 have hcy:=civ_cycle N hN0 a r ha.symm hr.symm c s hc.symm hs.symm b t hb.symm ht.symm k hk.symm;rw[hY,hq0]at hcy;obtain ⟨hj,hqa,hqb,c0,c1,b0,b1,k0,k1,a0⟩:=hcy;have ha1:a≤24:=by omega
 have hr1:0≤r∧r≤146096:=by omega
 have hs1:0≤s∧s≤146096:=by omega
 have ht1:0≤t∧t≤1460:=by omega
 have hY2:Y≤9999:=year_in h1 (by omega);have hY1:1≤Y:=by omega
 have HQ:=Lib.hid hqb;have HJ:=Lib.hid (fun (q:Int) {j:Nat} (hq:q=q0 - cum Y j)=>(show q=n - jan Y - cum Y j by omega));have hql:=lp_01 Y;have hqc:q0≤366:=by omega
 clear hj hqb hql;go_enter Tryz.func115,Tryz.ntmps115
 go_wp2_with fail
 go_loop [0,3] (fun x m=>∃ (j:Nat) (q:Int),j≤11∧m=.int .i64 ((j:Int)+1)∧x=.int .i64 q∧0≤q∧q≤366∧Hid (q=q0 - cum Y j)) (fun _ m=>(12 - intOf m).toNat)
 case atStart=>exact ⟨0,q0,by omega,rfl,rfl,hqa,hqc,Lib.hid (by simp[cum])⟩
 case round =>
  clear hN ha hr hc hs hb ht hk hq0 hY;obtain ⟨j,q,hj,rfl,rfl,hq0,hq3,hq⟩:=hrel;have hmb:=monL_bd Y ((j:Int)+1);have C:=Lib.hid (fun X=>ret0_int rfl (mlen_any Y ((j:Int)+1) X (by omega) (by omega)));have HS:=Lib.hid (fun h=>mon_step hj hq.out HQ.out h);have HF:=Lib.hid (fun (h:q<monL Y ((j:Int)+1))=>civ_mk (n:=n) ⟨hY1,hY2⟩ hj (HJ.out q hq.out) hq0 h);obtain ⟨M,hM⟩:∃ M,monL Y ((j:Int)+1)=M:=⟨_,rfl⟩
  rw[hM]at hmb C HS HF;clear hM;by_cases hge:M≤q
  ·obtain ⟨hs1,hs2⟩:=HS.out hge;have HS2:=Lib.hid hs2;have hge':decide (M≤q)=true:=decide_eq_true hge;clear hs2 HS HF;go_wp2_with (first
    | (with_reducible refine (C.out _).mono ?_;rintro _ _ ⟨rfl,rfl⟩))
   go_round
   case rel=>exact ⟨j+1,q - M,by omega,by go_num,by go_num,by omega,by omega,Lib.hid HS2.out⟩
   case measure=>simp[intOf];omega
  ·have hlt:q<M:=by omega
   have HF2:=Lib.hid (HF.out hlt);clear HS HF;go_wp2_with (first
    | (with_reducible refine (C.out _).mono ?_;rintro _ _ ⟨rfl,rfl⟩))
   exact bodyPost_ret (v:=.tuple #[.int .i64 Y,.int .i64 ((j:Int)+1),.int .i64 (q+1),.int .i64 0]) (by simp[results,Tryz.results115,go_sem]) rfl ⟨Y,_,_,HF2.out,rfl,rfl⟩
set_option maxHeartbeats 1000000 in
theorem civil_out (n:Int) (w:World) (h:¬(-719162≤n∧n≤2932896)):Calls Tryz.prog 115 #[.int .i64 n] w fun e w'=>e=.returned (.tuple #[.int .i64 0,.int .i64 0,.int .i64 0,.int .i64 4])∧w=w':=by
 by_cases h0:n < -719162
 ·clear h;go_enter Tryz.func115,Tryz.ntmps115
  go_wp2;exact bodyPost_ret (v:=.tuple #[.int .i64 0,.int .i64 0,.int .i64 0,.int .i64 4]) (by simp[results,Tryz.results115,go_sem]) rfl ⟨rfl,rfl⟩
 ·have h1:2932896<n:=by omega
  clear h;go_enter Tryz.func115,Tryz.ntmps115
  go_wp2;exact bodyPost_ret (v:=.tuple #[.int .i64 0,.int .i64 0,.int .i64 0,.int .i64 4]) (by simp[results,Tryz.results115,go_sem]) rfl ⟨rfl,rfl⟩
def RetP (w:World) (x:Nat) (e:Ending) (w':World):Prop:=e=.returned (.int .i64 (x:Int))∧w=w'
theorem RetP.mk_ {w:World} {x:Nat} {y:Int} (h:(x:Int)=y):RetP w x (.returned (.int .i64 y)) w:=by subst h;exact ⟨rfl,rfl⟩
def RetS (w:World) (l:List UInt8) (e:Ending) (w':World):Prop:=e=.returned (.string ⟨l.toArray⟩)∧w=w'
theorem RetS.mk_ {w:World} {l:List UInt8} {s:ByteArray} (h:s.data.toList=l):RetS w l (.returned (.string s)) w:=by
 subst h;refine ⟨?_,rfl⟩;cases s;simp
def VarIs (w:World) (n:String):Prop:=∃ (tp:TypeId) (p:Value),w.var? Tryz.prog n=some #[.iface tp p]
theorem glob_syn:Tryz.prog.globalNamed "strconv.ErrSyntax"=some 2:=by kernel_rfl
theorem glob_rng:Tryz.prog.globalNamed "strconv.ErrRange"=some 3:=by kernel_rfl
structure Env (w:World):Prop where
 tab:Tab w
 syn:VarIs w "strconv.ErrSyntax"
 rng:VarIs w "strconv.ErrRange"
theorem Env.below {w w':World} (h:Env w) (hb:Below w.heap.size w w'):Env w':=by
 obtain ⟨t,⟨a,b,h1⟩,⟨c,d,h2⟩⟩:=h;exact ⟨t.below hb,⟨a,b,Joins.var_stays glob_syn h1 hb (Nat.le_refl _)⟩,⟨c,d,Joins.var_stays glob_rng h2 hb (Nat.le_refl _)⟩⟩
theorem below_bw {w w':World} {e:TypeId} (h:w'=w∨∃ t,w'=Lib.bytesWorld w e t):Below w.heap.size w w':=by
 rcases h with rfl|⟨t,rfl⟩
 ·exact Below.refl _ _
 ·exact Lib.bytesWorld_below w e t
def RetSB (w:World) (l:List UInt8) (e:Ending) (w':World):Prop:=e=.returned (.string ⟨l.toArray⟩)∧Below w.heap.size w w'
theorem RetSB.mk_ {w w':World} {l:List UInt8} {s:ByteArray} (h:s.data.toList=l) (hb:Below w.heap.size w w'):RetSB w l (.returned (.string s)) w':=by
 subst h;exact ⟨rfl,hb⟩
def BlkF (w:World) (g:Nat) (t:TypeId) (cs:Array Value) (fr:Nat×Nat):Prop:=w.heap[g]?=some (.cells cs t fr)
section
variable {w w':World} {g:Nat} {t:TypeId} {cs:Array Value} {fr:Nat×Nat}
theorem BlkF.lt (h:BlkF w g t cs fr):g<w.heap.size:=by
 rcases Nat.lt_or_ge g w.heap.size with h'|h'
 ·exact h'
 ·unfold BlkF at h;simp[Array.getElem?_eq_none h']at h
theorem BlkF.cell (h:BlkF w g t cs fr) (i:Nat):w.cell? ⟨g,i,none⟩=cs[i]?:=cell_of_row w g i cs t fr h
theorem BlkF.frozen (h:BlkF w g t cs fr) (i:Nat) (hi:i<fr.1):w.frozen? ⟨g,i,none⟩=false:=by
 unfold BlkF at h;simp[World.frozen?,h];omega
theorem BlkF.set_ (h:BlkF w g t cs fr) (i:Nat) (u:Value):BlkF (w.setCell ⟨g,i,none⟩ u) g t (cs.setIfInBounds i u) fr:=by
 unfold BlkF at h ⊢
 simp[World.setCell,Array.getElem?_modify,h]
end
def putC (cs:Array Value) (off:Nat):Nat→Nat→Array Value
 | 0,_=>cs
 | k+1,n=>putC (cs.setIfInBounds (off+k) (.int .u8 (48+((n % 10:Nat):Int)))) off k (n / 10)
def RetPut (w:World) (g:Nat) (t:TypeId) (cs:Array Value) (fr:Nat×Nat) (e:Ending) (w':World):Prop:=e=.returned (.tuple #[])∧BlkF w' g t cs fr∧Only g w w'
set_option maxRecDepth 100000 in
set_option maxHeartbeats 2000000 in
theorem put_any (g off k c n:Nat) (cs:Array Value) (fr:Nat×Nat) (w:World) (hk:k≤10) (hn:n≤1000000) (hs:off+k≤cs.size) (hf:off+k≤fr.1) (hB:BlkF w g 5 cs fr) :
  Calls Tryz.prog 116 #[.slice (some ⟨g,off,none⟩) k c,.int .i64 n] w (RetPut w g 5 (putC cs off k n) fr):=by
 go_enter Tryz.func116,Tryz.ntmps116
 go_wp2;go_loopw [1,4] (fun x i wr=>∃ (j m:Nat) (z:Int) (cs':Array Value),j≤k∧z=(j:Int) - 1∧i=.int .i64 z∧x=.int .i64 m∧m≤1000000∧BlkF wr g 5 cs' fr∧cs'.size=cs.size∧Only g w wr∧Hid (putC cs' off j m=putC cs off k n)) (fun _ i _=>(intOf i+1).toNat)
 case atStart=>exact ⟨k,n,_,cs,by omega,rfl,rfl,rfl,hn,hB,rfl,Only.refl _ _,Lib.hid rfl⟩
 case round =>
  obtain ⟨j,m,z,cs',hj,hz,rfl,rfl,hm,hb,hsz,ho,hp⟩:=hrel;rcases j with _|i
  ·obtain rfl:z=-1:=by omega
   have HE:=Lib.hid (show cs'=putC cs off k n from hp.out);have HO:=Lib.hid ho;have HB:=Lib.hid hb;clear hz hp ho hb hsz;go_wp2;go_end0
   exact ⟨rfl,by rw[←HE.out];exact HB.out,HO.out⟩
  ·obtain rfl:z=(i:Int):=by omega
   obtain ⟨u,hu⟩:∃ u,cs'[off+i]?=some u:=⟨_,Array.getElem?_eq_getElem (by omega)⟩
   have hc:=(hb.cell (off+i)).trans hu;have hfz:=hb.frozen (off+i) (by omega);have HN:=Lib.hid (show putC (cs'.setIfInBounds (off+i) (.int .u8 (48+((m % 10:Nat):Int)))) off i (m / 10)=putC cs off k n from hp.out);have HS:=Lib.hid hsz;clear hz hp hu hsz;go_wp2;go_roundw
   case rel=>exact ⟨i,m / 10,_,_,by omega,rfl,by go_num,by go_num,by omega,hb.set_ _ _,by simpa using HS.out,ho.set_ _ _,HN⟩
   case measure=>simp[intOf]
def numsD (Y M D:Nat):List Int:=[48+((Y / 10 / 10 / 10 % 10:Nat):Int),48+((Y / 10 / 10 % 10:Nat):Int),48+((Y / 10 % 10:Nat):Int),48+((Y % 10:Nat):Int),45,48+((M / 10 % 10:Nat):Int),48+((M % 10:Nat):Int),45,48+((D / 10 % 10:Nat):Int),48+((D % 10:Nat):Int)]
def zeroD:Array Value:=#[.int .u8 48,.int .u8 48,.int .u8 48,.int .u8 48,.int .u8 45,.int .u8 48,.int .u8 48,.int .u8 45,.int .u8 48,.int .u8 48]
theorem putC_size (off:Nat):∀ (k n:Nat) (cs:Array Value),(putC cs off k n).size=cs.size
 | 0,_,_=>rfl
 | k+1,n,cs=>by rw[putC,putC_size off k];simp
theorem putC_D (Y M D:Nat):putC (putC (putC zeroD 0 4 Y) 5 2 M) 8 2 D=((numsD Y M D).map (Value.int .u8)).toArray:=by
 simp[putC,zeroD,numsD]
theorem ofN (c:Nat):UInt8.ofNat (48+((c % 10:Nat):Int)).toNat=UInt8.ofNat (48+c % 10):=by congr 1
theorem numsD_eq {Y M D:Nat} (hY:Y<10000) (hM:M<100) (hD:D<100):(strOfNums (numsD Y M D)).data.toList=dateL Y M D:=by
 rw[strOfNums_data];unfold dateL numsD
 rw[digL_4 Y hY,digL_2 M hM,digL_2 D hD];simp only[List.map_cons,List.map_nil,ofN,Nat.div_div_eq_div_mul];rfl
theorem numsD_len (Y M D:Nat):(numsD Y M D).length=10:=rfl
theorem civ_nat {n y m d:Int} (h:IsCiv n y m d):∃ Y M D:Nat,y=Y∧m=M∧d=D∧Y<10000∧M<100∧D<100:=by
 obtain ⟨h1,h2,k,rfl,hk,_,h3,h4⟩:=h;have:=monL_bd y ((k:Int)+1)
 exact ⟨y.toNat,k+1,d.toNat,by omega,by omega,by omega,by omega,by omega,by omega⟩
set_option maxRecDepth 100000 in
set_option maxHeartbeats 2000000 in
theorem datefmt_in (n:Int) (w:World) (h0:-719162≤n) (h1:n≤2932896):Calls Tryz.prog 97 #[.int .i64 n] w (RetDec w (dateV n)):=by
 have C1:=Lib.hid (civil_in n w h0 h1);have kc:=fun (w:World) (C:Array Value) (n c:Nat)=>Lib.run_convert_bytes_const (P:=Tryz.prog) w 41 5 C n c Tryz.underlying41 Tryz.underlying5
 go_enter Tryz.func97,Tryz.ntmps97
 go_wp2_with fail
 refine C1.out.mono ?_;rintro _ _ ⟨y,m,d,hciv,rfl,rfl⟩;have HV:=Lib.hid (dateV_in h0 h1 hciv);obtain ⟨Y,M,D,rfl,rfl,rfl,hY,hM,hD⟩:=civ_nat hciv;clear hciv;go_wp2_with fail
 have B0:BlkF (w.alloc (.cells zeroD 5 (10,11))) w.heap.size 5 zeroD (10,11):=heap_alloc_new w _;have hb0:Below w.heap.size w (w.alloc (.cells zeroD 5 (10,11))):=(Below.refl _ _).alloc (Nat.le_refl _) _;obtain ⟨W,hW⟩:∃ W,W=w.alloc (.cells zeroD 5 (10,11)):=⟨_,rfl⟩
 rw[←hW]at B0 hb0;rw[show w.alloc (.cells #[.int .u8 48,.int .u8 48,.int .u8 48,.int .u8 48,.int .u8 45,.int .u8 48,.int .u8 48,.int .u8 45,.int .u8 48,.int .u8 48] 5 (10,11))=W from hW.symm];have HB0:=Lib.hid hb0;have P1:=Lib.hid (put_any w.heap.size 0 4 10 Y zeroD (10,11) W (by omega) (by omega) (by decide) (by decide) B0);clear hW B0 hb0;refine P1.out.mono ?_;rintro _ w1 ⟨rfl,b1,o1⟩;have HO1:=Lib.hid (below_only HB0.out o1 (Nat.le_refl _) HB0.out.size);have P2:=Lib.hid (put_any w.heap.size 5 2 5 M (putC zeroD 0 4 Y) (10,11) w1 (by omega) (by omega) (by rw[putC_size];decide) (by decide) b1);clear b1 o1 P1;go_wp2_with fail
 refine P2.out.mono ?_;rintro _ w2 ⟨rfl,b2,o2⟩;have HO2:=Lib.hid (below_only HO1.out o2 (Nat.le_refl _) HO1.out.size);have P3:=Lib.hid (put_any w.heap.size 8 2 2 D (putC (putC zeroD 0 4 Y) 5 2 M) (10,11) w2 (by omega) (by omega) (by rw[putC_size,putC_size];decide) (by decide) b2);clear b2 o2 P2;go_wp2_with fail
 refine P3.out.mono ?_;rintro _ w3 ⟨rfl,b3,o3⟩;have HO3:=Lib.hid (below_only HO2.out o3 (Nat.le_refl _) HO2.out.size);rw[putC_D]at b3;have hcv:=run_convert_bytes_arg (P:=Tryz.prog) (w:=w3) 41 5 Tryz.underlying41 Tryz.underlying5 w.heap.size 0 10 10 (numsD Y M D) (numsD_len Y M D) (fun i hi=>by
  rw[Nat.zero_add,b3.cell i];have hl:i<(numsD Y M D).length:=by rw[numsD_len];exact hi
  simp[List.getD,List.getElem?_eq_getElem hl])
 have HN:=Lib.hid (numsD_eq hY hM hD);clear b3 o3 P3;go_wp2;go_ret2
 exact RetDec.mk_ (by rw[HV.out];exact HN.out) (by rw[HV.out]) HO3.out
theorem datefmt_any (n:Int) (w:World):Calls Tryz.prog 97 #[.int .i64 n] w (RetDec w (dateV n)):=by
 by_cases h:-719162≤n∧n≤2932896
 ·exact datefmt_in n w h.1 h.2
 ·have HV:=Lib.hid (dateV_out h);have C1:=Lib.hid (civil_out n w h);clear h;go_enter Tryz.func97,Tryz.ntmps97
  go_wp2_with fail
  refine C1.out.mono ?_;rintro _ _ ⟨rfl,rfl⟩;go_wp2;go_ret2
  exact RetDec.mk_ (by rw[HV.out]) (by rw[HV.out]) (Below.refl _ _)
end Go.Proofs.YtjnamjkdjcndiaaGreatDoor
