/-
 The contract of value.integer.
-/
import Derived.Test.YtjnamjkdjcndiaaGreatDoorIntPar
import Derived.Test.YtjnamjkdjcndiaaGreatDoorM9
import Derived.Shelf.Strings.SlTrimAscii
namespace Go.Proofs.YtjnamjkdjcndiaaGreatDoor
open Go.RowKit Go.Sort
set_option linter.unusedVariables false
theorem trimPre_body (l:List UInt8):Lib.trimPrefix l [45]=bodyL l:=by
 unfold Lib.trimPrefix bodyL
 rw[hasPre_neg];cases negB l with
 | true=>simp
 | false=>simp
def RetPErr (w:World) (e:Ending) (w':World):Prop:=∃ (x:Int) (N:Nat),e=.returned (.tuple #[.int .i64 x,.iface 199 (.pointer (some ⟨N,0,none⟩))])∧Below w.heap.size w w'
theorem pint_err (Z:ByteArray) (hno:∀ v,Lib.parseIntB 64 Z.data.toList≠.ok v) (w:World) (hs:Z.size≤281474976710656) (hE:Env w) :
  Calls Tryz.prog 127 #[.string Z,.int .i64 10,.int .i64 64] w (RetPErr w):=by
 obtain ⟨_,⟨tp,p,h1⟩,⟨tq,q,h2⟩⟩:=hE;rcases hh:Lib.parseIntB 64 Z.data.toList with x|_|_
 ·exact absurd hh (hno x)
 ·exact (Any.strconv_ParseInt_10_at64_syntax_var Tryz.laysC174 Z (by omega) hh tp p w h1).mono fun _ _ ⟨N,a,_,_,b⟩=>⟨0,N,a,b⟩
 ·exact (Tryz.strconv_ParseInt_10_at64_range_var Z (by omega) hh tq q w h2).mono fun _ _ ⟨N,a,_,_,b⟩=>⟨_,N,a,b⟩
theorem dig_lit:(({ data:=#[48,49,50,51,52,53,54,55,56,57] }:ByteArray).data.toList)=digS:=rfl
set_option maxRecDepth 100000 in
set_option maxHeartbeats 4000000 in
theorem integer_any (s:ByteArray) (w:World) (hE:Env w) (hs:s.size≤140737488351232) :
  Calls Tryz.prog 110 #[.string s] w (RetRb w (readV s.data.toList)):=by
 obtain ⟨B,hB⟩:∃ B:ByteArray,(⟨(Lib.trimPrefix s.data.toList [45]).toArray⟩:ByteArray)=B:=⟨_,rfl⟩
 have hBl:B.data.toList=bodyL s.data.toList:=by rw[←hB,trimPre_body]
 have hBs:B.size≤s.size:=by rw[←size_data,←size_data,hBl];exact body_len _
 have CP:=Lib.hid (fun X=>Tryz.strings_TrimPrefix s { data:=#[45] } X);rw[show ({ data:=#[45] }:ByteArray).data.toList=[45] from rfl,hB]at CP;have HB:=Lib.hid hBl;have HE:=Lib.hid hE;have CT:=Lib.hid (fun X=>Any.strings_Trim_laid Tryz.lays160 (by kernel_rfl) B { data:=#[48,49,50,51,52,53,54,55,56,57] } X (by omega) (by decide) (ascii_of_all (by decide)));rw[dig_lit]at CT;clear hB hBl hE;rcases Nat.eq_zero_or_pos B.size with h0|h0
 ·have HO:=Lib.hid (readV_nil (l:=s.data.toList) (by rw[←HB.out];exact List.eq_nil_of_length_eq_zero (by rw[size_data];exact h0)));have e0:B.toList.isEmpty=true:=by rw[toList_nil h0];rfl
  clear h0;go_enter Tryz.func110,Tryz.ntmps110
  go_wp2_with fail
  refine (CP.out _).mono ?_;rintro _ _ ⟨rfl,rfl⟩;go_wp2;go_ret2
  exact RetRb.mk_ HO.out (Below.refl _ _)
 have e0:B.toList.isEmpty=false:=toList_ne h0;have HNE:=Lib.hid (show bodyL s.data.toList≠[] by rw[←HB.out];intro e;have:=size_data B;rw[e]at this;simp at this;omega);obtain ⟨Z,hZ⟩:∃ Z:ByteArray,(⟨(Lib.trimS B.data.toList digS).toArray⟩:ByteArray)=Z:=⟨_,rfl⟩
 have hZl:Z.data.toList=Lib.trimS B.data.toList digS:=by rw[←hZ]
 rw[hZ]at CT;clear hZ;cases hd:B.data.toList.all digB with
 | false =>
  have HO:=Lib.hid (readV_dig (l:=s.data.toList) (by rw[←HB.out];exact hd));have z0:Z.toList.isEmpty=false:=by
   rw[Go.ByteArray.toList_eq,List.isEmpty_eq_false_iff,hZl];exact trimS_no hd
  clear hd hZl;go_enter Tryz.func110,Tryz.ntmps110
  go_wp2_with fail
  refine (CP.out _).mono ?_;rintro _ _ ⟨rfl,rfl⟩;go_wp2_with fail
  refine (CT.out _).mono ?_;rintro _ w2 ⟨rfl,hb2⟩;have HB2:=Lib.hid hb2;clear hb2;go_wp2;go_ret2
  exact RetRb.mk_ HO.out HB2.out
 | true =>
 have HD:=Lib.hid (show (bodyL s.data.toList).all digB=true by rw[←HB.out];exact hd);have z0:Z.toList.isEmpty=true:=by rw[Go.ByteArray.toList_eq,hZl,trimS_yes hd];rfl
 clear hd hZl;have hcase:((B[0].toNat:Int)=48∧s.toList≠[48])∨(((B[0].toNat:Int)=48∧s.toList=[48])∨(B[0].toNat:Int)≠48):=by
  by_cases h:(B[0].toNat:Int)=48
  ·by_cases h':s.toList=[48]
   ·exact .inr (.inl ⟨h,h'⟩)
   ·exact .inl ⟨h,h'⟩
  ·exact .inr (.inr h)
 have hhead:(bodyL s.data.toList).headD 0=B[0]:=by rw[←HB.out];exact head_data B h0
 have hH:=Lib.hid hhead;clear hhead;rcases hcase with ⟨h1,h2⟩|hgood
 ·have HO:=Lib.hid (readV_lead (l:=s.data.toList) ⟨by rw[hH.out];exact UInt8.toNat_inj.1 (by have:(48:UInt8).toNat=48:=rfl;omega),by
   cases hn:negB s.data.toList with
   | true=>exact .inr rfl
   | false =>
    refine .inl ?_
    have hb:bodyL s.data.toList=s.data.toList:=by unfold bodyL;rw[hn];rfl
    rw[←HB.out,size_data];by_cases h3:1<B.size
    ·exact h3
    ·exfalso
     apply h2
     rw[Go.ByteArray.toList_eq,←hb,←HB.out];have hl:B.data.toList.length=1:=by rw[size_data];omega
     have hg:=get_data B 0 h0;cases hBL:B.data.toList with
     | nil=>rw[hBL]at hl;simp at hl
     | cons c r =>
      rw[hBL]at hl hg;have hr:r=[]:=List.eq_nil_of_length_eq_zero (by simpa using hl);simp at hg
      rw[hr,hg];congr 1
      exact UInt8.toNat_inj.1 (by have:(48:UInt8).toNat=48:=rfl;omega)⟩)
  have q1:((B[0].toNat:Int)==48)=true:=by simpa using h1
  have q2:(s.toList == [48])=false:=by rw[beq_eq_false_iff_ne];exact h2
  clear h1 h2;go_enter Tryz.func110,Tryz.ntmps110
  go_wp2_with fail
  refine (CP.out _).mono ?_;rintro _ _ ⟨rfl,rfl⟩;go_wp2_with fail
  refine (CT.out _).mono ?_;rintro _ w2 ⟨rfl,hb2⟩;have HB2:=Lib.hid hb2;clear hb2;go_wp2;go_ret2
  exact RetRb.mk_ HO.out HB2.out
 have HI:=Lib.hid (show IntOk s.data.toList from ⟨HNE.out,HD.out,by
  rintro ⟨k1,k2⟩;rw[hH.out]at k1;rcases hgood with ⟨_,h2⟩|h
  ·rw[Go.ByteArray.toList_eq]at h2;rcases k2 with k2|k2
   ·have:=body_len s.data.toList
    rw[h2]at this k2;simp at this;omega
   ·rw[h2]at k2;exact absurd k2 (by decide)
  ·exact h (by rw[k1];rfl)⟩)
 have hq:(((B[0].toNat:Int)==48)=true∧(s.toList == [48])=true)∨((B[0].toNat:Int)==48)=false:=by
  rcases hgood with ⟨h,h2⟩|h
  ·exact .inl ⟨by simpa using h,by rw[h2];rfl⟩
  ·exact .inr (by rw[beq_eq_false_iff_ne];exact h)
 clear hgood;rcases pint_int HI.out with ⟨v,hv,hr⟩|⟨hv,hr⟩
 ·have HO:=Lib.hid hr;have PI:=Lib.hid (fun X=>Tryz.strconv_ParseInt_10_at64_ok s (by omega) v hv X);clear hv hr;rcases hq with ⟨q1,q2⟩|q1
  all_goals
   go_enter Tryz.func110,Tryz.ntmps110
   go_wp2_with fail
   refine (CP.out _).mono ?_;rintro _ _ ⟨rfl,rfl⟩;go_wp2_with fail
   refine (CT.out _).mono ?_;rintro _ w2 ⟨rfl,hb2⟩;have HB2:=Lib.hid hb2;clear hb2;go_wp2_with fail
   refine (PI.out _).mono ?_;rintro _ w3 ⟨rfl,hb3⟩;have HB3:=Lib.hid (bst HB2.out (below_bw hb3));clear hb3;go_wp2;go_ret2
   exact RetRb.mk_ HO.out HB3.out
 ·have HO:=Lib.hid hr;have PE:=Lib.hid (fun X h=>pint_err s hv X (by omega) h);clear hv hr;rcases hq with ⟨q1,q2⟩|q1
  all_goals
   go_enter Tryz.func110,Tryz.ntmps110
   go_wp2_with fail
   refine (CP.out _).mono ?_;rintro _ _ ⟨rfl,rfl⟩;go_wp2_with fail
   refine (CT.out _).mono ?_;rintro _ w2 ⟨rfl,hb2⟩;have HB2:=Lib.hid hb2;clear hb2;go_wp2_with fail
   refine (PE.out _ (HE.out.below HB2.out)).mono ?_;rintro _ w3 ⟨x,N,rfl,hb3⟩;have HB3:=Lib.hid (bst HB2.out hb3);clear hb3;go_wp2;go_ret2
   exact RetRb.mk_ HO.out HB3.out
end Go.Proofs.YtjnamjkdjcndiaaGreatDoor
