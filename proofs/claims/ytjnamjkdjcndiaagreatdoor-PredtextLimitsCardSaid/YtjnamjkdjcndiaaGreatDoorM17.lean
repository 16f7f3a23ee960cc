/-
  Words, plain laws and contracts on which the walks lean, in one text.
-/
import Derived.Test.YtjnamjkdjcndiaaGreatDoorM15
import Derived.Test.YtjnamjkdjcndiaaGreatDoorVPar
import Derived.Test.YtjnamjkdjcndiaaGreatDoorBytes
import Derived.Deep.LoopGhost
namespace Go.Proofs.YtjnamjkdjcndiaaGreatDoor
def sk (T:List UInt8) (i:Nat):Nat:=i+((T.drop i).takeWhile fun b=>b==32).length
def wdB (b:UInt8):Bool:=!(b==32 || b==40 || b==41)
def wd (T:List UInt8) (i:Nat):List UInt8:=(T.drop i).takeWhile wdB
def we (T:List UInt8) (i:Nat):Nat:=i+(wd T i).length
theorem sk_go {T:List UInt8} {i:Nat} (h:T[i]?=some 32):sk T i=sk T (i+1):=by
 have hl:=(List.getElem?_eq_some_iff.1 h).1
 have e:T.drop i=32::T.drop (i+1):=by rw[List.drop_eq_getElem_cons hl];congr 1;exact (List.getElem?_eq_some_iff.1 h).2
 unfold sk
 rw[e];simp;omega
theorem sk_stop {T:List UInt8} {i:Nat} (h:T[i]?≠some 32):sk T i=i:=by
 unfold sk
 by_cases hl:i<T.length
 ·rw[List.drop_eq_getElem_cons hl]
  have:(T[i]==32)=false:=by
   rw[List.getElem?_eq_getElem hl]at h
   simpa using h
  rw[List.takeWhile_cons_of_neg (by simp[this])];rfl
 ·rw[List.drop_eq_nil_of_le (by omega)];rfl
theorem sk_ge (T:List UInt8) (i:Nat):i≤sk T i:=by unfold sk;omega
theorem sk_le {T:List UInt8} {i:Nat} (h:i≤T.length):sk T i≤T.length:=by
 have h1:=(List.takeWhile_sublist (fun b:UInt8=>b==32) (l:=T.drop i)).length_le
 rw[List.length_drop]at h1
 unfold sk;omega
theorem sk_at {T:List UInt8}:∀ (n i:Nat),T.length - i=n→T[sk T i]?≠some 32:=by
 intro n
 induction n with
 | zero =>
  intro i h
  rw[sk_stop (by rw[List.getElem?_eq_none (by omega)];simp),List.getElem?_eq_none (by omega)];simp
 | succ n ih =>
  intro i h
  by_cases hs:T[i]?=some 32
  ·rw[sk_go hs];exact ih (i+1) (by omega)
  ·rw[sk_stop hs];exact hs
theorem sk_sk (T:List UInt8) (i:Nat):sk T (sk T i)=sk T i:=sk_stop (sk_at _ i rfl)
theorem wd_go {T:List UInt8} {i:Nat} {b:UInt8} (h:T[i]?=some b) (hb:wdB b=true):wd T i=b::wd T (i+1):=by
 have hl:=(List.getElem?_eq_some_iff.1 h).1
 have e:T.drop i=b::T.drop (i+1):=by rw[List.drop_eq_getElem_cons hl];congr 1;exact (List.getElem?_eq_some_iff.1 h).2
 unfold wd
 rw[e,List.takeWhile_cons_of_pos hb]
theorem wd_stop {T:List UInt8} {i:Nat} {b:UInt8} (h:T[i]?=some b) (hb:wdB b=false):wd T i=[]:=by
 have hl:=(List.getElem?_eq_some_iff.1 h).1
 have e:T.drop i=b::T.drop (i+1):=by rw[List.drop_eq_getElem_cons hl];congr 1;exact (List.getElem?_eq_some_iff.1 h).2
 unfold wd
 rw[e,List.takeWhile_cons_of_neg (by simp[hb])]
theorem wd_end {T:List UInt8} {i:Nat} (h:T.length≤i):wd T i=[]:=by unfold wd;rw[List.drop_eq_nil_of_le h];rfl
theorem we_go {T:List UInt8} {i:Nat} {b:UInt8} (h:T[i]?=some b) (hb:wdB b=true):we T i=we T (i+1):=by unfold we;rw[wd_go h hb,List.length_cons];omega
theorem we_stop {T:List UInt8} {i:Nat} (h:wd T i=[]):we T i=i:=by unfold we;rw[h];rfl
theorem we_ge (T:List UInt8) (i:Nat):i≤we T i:=by unfold we;omega
theorem we_le {T:List UInt8} {i:Nat} (h:i≤T.length):we T i≤T.length:=by
 have h1:=(List.takeWhile_sublist wdB (l:=T.drop i)).length_le
 rw[List.length_drop]at h1
 unfold we wd;omega
theorem wd_slice (T:List UInt8) (i:Nat):(T.drop i).take (we T i - i)=wd T i:=by
 unfold we wd
 rw[Nat.add_sub_cancel_left]
 exact (List.prefix_iff_eq_take.1 (List.takeWhile_prefix _)).symm
def expP (T:List UInt8) (b:UInt8) (i:Nat):Except (Nat×Int) Nat:=if T[sk T i]?=some b then .ok (sk T i+1) else .error (sk T i,2)
def opW (l:List UInt8):Nat:=(((List.range 11).find? fun (k:Nat)=>wordP ((k:Int)+1)==l).map fun k=>k+1).getD 0
def colP (cs:List Col) (T:List UInt8) (i:Nat):Except (Nat×Int) (Nat×Nat) :=
 if wd T (sk T i)=[] then .error (sk T i,2)
 else if findC cs ⟨(wd T (sk T i)).toArray⟩ < 0 then .error (sk T i,3) else .ok (we T (sk T i),(findC cs ⟨(wd T (sk T i)).toArray⟩).toNat)
def vlP (r:Bool×Int×List UInt8):Vl:=⟨r.1,r.2.1,⟨r.2.2.toArray⟩⟩
def valC (c:Col) (T:List UInt8) (i:Nat):Except (Nat×Int) (Nat×Vl) :=
 if wd T (sk T i)=[] then .error (sk T i,2)
 else if (vparV c.ty c.sc false (wd T (sk T i))).2≠0 then .error (sk T i,(vparV c.ty c.sc false (wd T (sk T i))).2)
 else .ok (we T (sk T i),vlP (vparV c.ty c.sc false (wd T (sk T i))).1)
def lstP (c:Col) (T:List UInt8):Nat→Nat→List Vl→Except (Nat×Int) (Nat×List Vl)
 | 0,_,_=>.error (0,0)
 | f+1,i,l =>
  if wd T (sk T i)=[] then (if l.length=0 then .error (sk T i,2) else .ok (sk T i,l))
  else if l.length=16 then .error (sk T i,7)
  else if (vparV c.ty c.sc true (wd T (sk T i))).2≠0 then .error (sk T i,(vparV c.ty c.sc true (wd T (sk T i))).2)
  else lstP c T f (we T (sk T i)) (l ++ [vlP (vparV c.ty c.sc true (wd T (sk T i))).1])
def leafR (cs:List Col) (T:List UInt8) (op:Nat) (i:Nat):Except (Nat×Int) (Nat×Nd) :=
 match colP cs T i with
 | .error e=>.error e
 | .ok (i2,K) =>
  if op=8 then .ok (i2,⟨8,K,v0,[],0,0⟩) else match cs[K]? with
   | none=>.error (0,0)
   | some c=>if op=7 then (match lstP c T 17 i2 [] with
     | .error e=>.error e
     | .ok (i3,l)=>.ok (i3,⟨7,K,v0,l,0,0⟩))
    else match valC c T i2 with
     | .error e=>.error e
     | .ok (i3,v)=>.ok (i3,⟨op,K,v,[],0,0⟩)
def argP (cs:List Col) (T:List UInt8) (rec:Nat→List Nd→Except (Nat×Int) (Nat×List Nd)) (op:Nat) (i:Nat) (acc:List Nd):Except (Nat×Int) (Nat×Nd×List Nd) :=
 if op=9∨op=10 then (match rec i acc with
  | .error e=>.error e
  | .ok (i2,a2)=>match rec i2 a2 with
   | .error e=>.error e
   | .ok (i3,a3)=>.ok (i3,⟨op,0,v0,[],(a2.length:Int) - 1,(a3.length:Int) - 1⟩,a3))
 else if op=11 then (match rec i acc with
  | .error e=>.error e
  | .ok (i2,a2)=>.ok (i2,⟨11,0,v0,[],(a2.length:Int) - 1,0⟩,a2))
 else match leafR cs T op i with
  | .error e=>.error e
  | .ok (i2,x)=>.ok (i2,x,acc)
def parN (cs:List Col) (T:List UInt8):Nat→Nat→List Nd→Except (Nat×Int) (Nat×List Nd)
 | 0,_,_=>.error (0,0)
 | f+1,i,acc=>match expP T 40 i with
  | .error e=>.error e
  | .ok i1=>if opW (wd T (sk T i1))=0 then .error (sk T i1,2)
   else match argP cs T (parN cs T f) (opW (wd T (sk T i1))) (we T (sk T i1)) acc with
    | .error e=>.error e
    | .ok (i2,x,a2)=>match expP T 41 i2 with
     | .error e=>.error e
     | .ok i3=>if a2.length=64 then .error (i3 - 1,7) else .ok (i3,a2 ++ [x])
noncomputable def parP (cs:List Col) (key:Int) (T:List UInt8):List Nd×Nat×Int :=
 if schkV cs key≠0 then ([],0,schkV cs key) else if 65536<T.length then ([],0,7) else if T.length=0 then ([],0,0)
 else match parN cs T (T.length+1) 0 [] with
  | .error (j,e)=>([],j,e)
  | .ok (i,l)=>if sk T i<T.length then ([],sk T i,2) else (l,0,0)
theorem expP_ok {T:List UInt8} {b:UInt8} {i j:Nat} (h:expP T b i=.ok j):j=sk T i+1∧T[sk T i]?=some b∧i<j∧j≤T.length:=by
 unfold expP at h
 by_cases hb:T[sk T i]?=some b
 ·rw[if_pos hb]at h
  injection h with h
  have:=sk_ge T i
  have:=(List.getElem?_eq_some_iff.1 hb).1
  exact ⟨h.symm,hb,by omega,by omega⟩
 ·rw[if_neg hb]at h;cases h
theorem vpar_rest_null {t k:Int} {cn:Bool} {l:List UInt8} (hl:l≠[110,117,108,108]):(vparV t k cn l).1.1=false∧vparV t k cn l=vparV t k false l:=by
 by_cases h:(t<1∨5<t)∨(t=5∧scaB k=false)
 ·rw[vpar_bad h,vpar_bad h];exact ⟨rfl,rfl⟩
 ·rw[vpar_rest h hl,vpar_rest h hl]
  refine ⟨?_,rfl⟩
  have hn:∀ r:Int×Int,(outN r).1.1=false:=fun r=>by unfold outN;split <;> rfl
  repeat' split
  ·exact hn _
  ·unfold boolV
   split
   ·rfl
   ·split <;> rfl
  ·unfold vbyt
   repeat' split
   all_goals rfl
  ·exact hn _
  ·exact hn _
theorem val_same (t k:Int) (cn:Bool) (l:List UInt8):(if (vparV t k cn l).2=0∧(vparV t k cn l).1.1=true then (12:Int) else (vparV t k cn l).2)=(vparV t k false l).2∧((vparV t k false l).2=0→(vparV t k cn l).1=(vparV t k false l).1):=by
 by_cases hl:l=[110,117,108,108]
 ·by_cases h:(t<1∨5<t)∨(t=5∧scaB k=false)
  ·rw[vpar_bad h,vpar_bad h];exact ⟨rfl,fun _=>rfl⟩
  ·rw[vpar_null h hl,vpar_null h hl]
   cases cn <;> exact ⟨rfl,fun h=>by cases h⟩
 ·obtain ⟨h1,h2⟩:=vpar_rest_null (t:=t) (k:=k) (cn:=cn) hl
  rw[if_neg (by rw[h1];simp),←h2]
  exact ⟨rfl,fun _=>rfl⟩
open Go.RowKit Go.Sort
set_option maxRecDepth 100000 in
set_option maxHeartbeats 4000000 in
theorem pskip_any (g i:Nat) (sv nv:Value) (key wh e0:Int) (S:ByteArray) (w:World) (hB:Blk w g 54 #[sv,.int .i64 key,.string S,.int .i64 i,nv,.int .i64 wh,.int .i64 e0]) (hi:i≤S.size) (hS:S.size≤65536) :
  Calls Tryz.prog 24 #[.pointer (some ⟨g,0,none⟩)] w fun e w'=>e=.returned (.tuple #[])∧Blk w' g 54 #[sv,.int .i64 key,.string S,.int .i64 (sk S.data.toList i),nv,.int .i64 wh,.int .i64 e0]∧Only g w w':=by
 have HB:=Lib.hid hB
 clear hB
 go_enter Tryz.func24,Tryz.ntmps24
 go_wp2_with fail
 go_loopg [] (S.size - i) (fun n wr=>∃ j:Nat,j≤S.size∧n=S.size - j∧Blk wr g 54 #[sv,.int .i64 key,.string S,.int .i64 j,nv,.int .i64 wh,.int .i64 e0]∧Hid (sk S.data.toList j=sk S.data.toList i)∧Only g w wr)
 case atStart=>exact ⟨i,hi,rfl,HB.out,Lib.hid rfl,Only.refl _ _⟩
 case round =>
  obtain ⟨j,hj,hn,hb,hsk,ho⟩:=hrel
  have HN:=Lib.hid hn
  have HBJ:=Lib.hid hb
  have HO:=Lib.hid ho
  clear hn ho
  have c2:=hb.cell 2
  have c3:=hb.cell 3
  have f3:=hb.frozen 3
  simp only[jA,jZ,jS]at c2 c3
  clear hb
  by_cases hlt:j<S.size
  ·by_cases h32:S[j]=32
   ·have q1:((S[j].toNat:Int)==32)=true:=by rw[h32];rfl
    have HSK:=Lib.hid (show sk S.data.toList (j+1)=sk S.data.toList i by rw[←hsk.out];exact (sk_go (by rw[get_data S j hlt,h32])).symm)
    have q2:IntKind.i64.wrap ((j:Int)+1)=(j:Int)+1:=IntWalk.i64_in _ (by omega)
    clear h32 hsk
    go_wp2_with fail
    go_quiet (fail)
    go_wp2
    have kb:=(HBJ.out.drewN nq).set_ 3 (.int .i64 ((j:Int)+1))
    simp only[jI,jY,jT]at kb
    have ko:=(HO.out.drewN nq).set_ 3 (.int .i64 ((j:Int)+1))
    go_roundg (S.size - (j+1))
    case rel=>exact ⟨j+1,by omega,rfl,by rw[show ((j+1:Nat):Int)=(j:Int)+1 by omega];exact kb,Lib.hid HSK.out,ko⟩
    case measure=>have:=HN.out;omega
   ·have q1:((S[j].toNat:Int)==32)=false:=by
     rw[beq_eq_false_iff_ne]
     intro h
     exact h32 (UInt8.toNat_inj.1 (by show S[j].toNat=32;omega))
    have HSK:=Lib.hid (show sk S.data.toList i=j by rw[←hsk.out];exact sk_stop (by rw[get_data S j hlt];simpa using h32))
    clear h32 hsk
    go_wp2_with fail
    go_quiet (fail)
    go_wp2
    rw[HSK.out]
    exact bodyPost_end (results_none Tryz.results24 _ _ _) rfl ⟨rfl,HBJ.out,HO.out.drewN nq⟩
  ·have HSK:=Lib.hid (show sk S.data.toList i=j by rw[←hsk.out];exact sk_stop (by rw[List.getElem?_eq_none (by rw[size_data];omega)];simp))
   clear hsk
   go_wp2_with fail
   go_quiet (fail)
   go_wp2
   rw[HSK.out]
   exact bodyPost_end (results_none Tryz.results24 _ _ _) rfl ⟨rfl,HBJ.out,HO.out.drewN nq⟩
set_option maxRecDepth 100000 in
theorem pfail_any (g i:Nat) (sv nv:Value) (key wh e0 a b:Int) (S:ByteArray) (w:World) (hB:Blk w g 54 #[sv,.int .i64 key,.string S,.int .i64 i,nv,.int .i64 wh,.int .i64 e0]) :
  Calls Tryz.prog 47 #[.pointer (some ⟨g,0,none⟩),.int .i64 a,.int .i64 b] w fun e w'=>e=.returned (.bool false)∧Blk w' g 54 #[sv,.int .i64 key,.string S,.int .i64 i,nv,.int .i64 a,.int .i64 b]∧Only g w w':=by
 have HB:=Lib.hid hB
 have c5:=hB.cell 5
 have c6:=hB.cell 6
 have f5:=hB.frozen 5
 have f6:=hB.frozen 6
 simp only[jA,jZ,jS]at c5 c6
 clear hB
 go_enter Tryz.func47,Tryz.ntmps47
 go_wp2
 go_ret
 have kb:=(HB.out.set_ 5 (.int .i64 a)).set_ 6 (.int .i64 b)
 simp only[jI,jY,jT]at kb
 exact ⟨rfl,kb,((Only.refl g w).set_ 5 _).set_ 6 _⟩
theorem exp_err {T:List UInt8} {b:UInt8} {i:Nat} (h:T[sk T i]?≠some b):expP T b i=.error (sk T i,2):=if_neg h
theorem exp_ok {T:List UInt8} {b:UInt8} {i:Nat} (h:T[sk T i]?=some b):expP T b i=.ok (sk T i+1):=if_pos h
def RetExp (w:World) (g:Nat) (sv nv:Value) (key wh e0:Int) (S:ByteArray) (r:Except (Nat×Int) Nat) (e:Ending) (w':World):Prop:=Only g w w'∧match r with
 | .ok j=>e=.returned (.bool true)∧Blk w' g 54 #[sv,.int .i64 key,.string S,.int .i64 j,nv,.int .i64 wh,.int .i64 e0]
 | .error (k,x)=>e=.returned (.bool false)∧∃ i:Nat,Blk w' g 54 #[sv,.int .i64 key,.string S,.int .i64 i,nv,.int .i64 k,.int .i64 x]
set_option maxRecDepth 100000 in
set_option maxHeartbeats 4000000 in
theorem pexp_any (g i:Nat) (sv nv:Value) (key wh e0:Int) (S:ByteArray) (b:UInt8) (w:World) (hB:Blk w g 54 #[sv,.int .i64 key,.string S,.int .i64 i,nv,.int .i64 wh,.int .i64 e0]) (hi:i≤S.size) (hS:S.size≤65536) :
  Calls Tryz.prog 43 #[.pointer (some ⟨g,0,none⟩),.int .u8 (b.toNat:Int)] w (RetExp w g sv nv key wh e0 S (expP S.data.toList b i)):=by
 have HSK:=Lib.hid (pskip_any g i sv nv key wh e0 S w hB hi hS)
 have hk:=sk_le (T:=S.data.toList) (by rw[size_data];exact hi)
 rw[size_data]at hk
 obtain ⟨k,hkk⟩:∃ k,sk S.data.toList i=k:=⟨_,rfl⟩
 have HK:=Lib.hid hkk
 rw[hkk]at HSK hk
 clear hB hkk
 go_enter Tryz.func43,Tryz.ntmps43
 go_wp2_with fail
 refine HSK.out.mono ?_
 rintro _ w1 ⟨rfl,hB,ho⟩
 have HB:=Lib.hid hB
 have HO:=Lib.hid ho
 have c2:=hB.cell 2
 have c3:=hB.cell 3
 have f3:=hB.frozen 3
 simp only[jA,jZ,jS]at c2 c3
 clear hB ho HSK
 by_cases hlt:k<S.size
 ·have hne:((k:Int)==(S.size:Int))=false:=by rw[beq_eq_false_iff_ne];omega
  by_cases hb:S[k]=b
  ·have q1:((S[k].toNat:Int) != (b.toNat:Int))=false:=by rw[hb];simp
   have HR:=Lib.hid (exp_ok (T:=S.data.toList) (b:=b) (i:=i) (by rw[HK.out,get_data S k hlt,hb]))
   have q2:IntKind.i64.wrap ((k:Int)+1)=(k:Int)+1:=IntWalk.i64_in _ (by omega)
   clear hb
   go_wp2_with fail
   go_quiet (fail)
   go_wp2
   go_ret
   rw[HR.out,HK.out]
   have kb:=(HB.out.drewN nq).set_ 3 (.int .i64 ((k:Int)+1))
   simp only[jI,jY,jT]at kb
   exact ⟨(HO.out.drewN nq).set_ 3 _,rfl,by rw[show ((k+1:Nat):Int)=(k:Int)+1 by omega];exact kb⟩
  ·have q1:((S[k].toNat:Int) != (b.toNat:Int))=true:=by
    rw[bne_iff_ne]
    intro h
    exact hb (UInt8.toNat_inj.1 (by omega))
   have HR:=Lib.hid (exp_err (T:=S.data.toList) (b:=b) (i:=i) (by rw[HK.out,get_data S k hlt];simpa using hb))
   clear hb
   go_wp2_with fail
   go_quiet (fail)
   have HB1:=Lib.hid (HB.out.drewN nq)
   have HO1:=Lib.hid (HO.out.drewN nq)
   go_wp2_with fail
   refine (pfail_any g k sv nv key wh e0 _ _ S _ HB1.out).mono ?_
   rintro _ w2 ⟨rfl,hB2,ho2⟩
   have HB2:=Lib.hid hB2
   have HO2:=Lib.hid ho2
   clear hB2 ho2
   go_wp2
   go_ret
   rw[HR.out,HK.out]
   exact ⟨HO1.out.trans HO2.out,rfl,k,HB2.out⟩
 ·have hne:((k:Int)==(S.size:Int))=true:=by rw[beq_iff_eq];omega
  have HR:=Lib.hid (exp_err (T:=S.data.toList) (b:=b) (i:=i) (by rw[HK.out,List.getElem?_eq_none (by rw[size_data];omega)];simp))
  go_wp2_with fail
  go_quiet (fail)
  have HB1:=Lib.hid (HB.out.drewN nq)
  have HO1:=Lib.hid (HO.out.drewN nq)
  go_wp2_with fail
  refine (pfail_any g k sv nv key wh e0 _ _ S _ HB1.out).mono ?_
  rintro _ w2 ⟨rfl,hB2,ho2⟩
  have HB2:=Lib.hid hB2
  have HO2:=Lib.hid ho2
  clear hB2 ho2
  go_wp2
  go_ret
  rw[HR.out,HK.out]
  exact ⟨HO1.out.trans HO2.out,rfl,k,HB2.out⟩

set_option maxRecDepth 100000 in
set_option maxHeartbeats 4000000 in
theorem rspace_any (g i:Nat) (sv nv:Value) (key wh e0:Int) (S:ByteArray) (w:World) (hB:Blk w g 106 #[sv,.int .i64 key,.string S,.int .i64 i,nv,.int .i64 e0,.int .i64 wh]) (hi:i≤S.size) (hS:S.size≤65536) :
  Calls Tryz.prog 59 #[.pointer (some ⟨g,0,none⟩)] w fun e w'=>e=.returned (.tuple #[])∧Blk w' g 106 #[sv,.int .i64 key,.string S,.int .i64 (sk S.data.toList i),nv,.int .i64 e0,.int .i64 wh]∧Only g w w':=by
 have HB:=Lib.hid hB
 clear hB
 go_enter Tryz.func59,Tryz.ntmps59
 go_wp2_with fail
 go_loopg [] (S.size - i) (fun n wr=>∃ j:Nat,j≤S.size∧n=S.size - j∧Blk wr g 106 #[sv,.int .i64 key,.string S,.int .i64 j,nv,.int .i64 e0,.int .i64 wh]∧Hid (sk S.data.toList j=sk S.data.toList i)∧Only g w wr)
 case atStart=>exact ⟨i,hi,rfl,HB.out,Lib.hid rfl,Only.refl _ _⟩
 case round =>
  obtain ⟨j,hj,hn,hb,hsk,ho⟩:=hrel
  have HN:=Lib.hid hn
  have HBJ:=Lib.hid hb
  have HO:=Lib.hid ho
  clear hn ho
  have c2:=hb.cell 2
  have c3:=hb.cell 3
  have f3:=hb.frozen 3
  simp only[jA,jZ,jS]at c2 c3
  clear hb
  by_cases hlt:j<S.size
  ·by_cases h32:S[j]=32
   ·have q1:((S[j].toNat:Int)==32)=true:=by rw[h32];rfl
    have HSK:=Lib.hid (show sk S.data.toList (j+1)=sk S.data.toList i by rw[←hsk.out];exact (sk_go (by rw[get_data S j hlt,h32])).symm)
    have q2:IntKind.i64.wrap ((j:Int)+1)=(j:Int)+1:=IntWalk.i64_in _ (by omega)
    clear h32 hsk
    go_wp2_with fail
    go_quiet (fail)
    go_wp2
    have kb:=(HBJ.out.drewN nq).set_ 3 (.int .i64 ((j:Int)+1))
    simp only[jI,jY,jT]at kb
    have ko:=(HO.out.drewN nq).set_ 3 (.int .i64 ((j:Int)+1))
    go_roundg (S.size - (j+1))
    case rel=>exact ⟨j+1,by omega,rfl,by rw[show ((j+1:Nat):Int)=(j:Int)+1 by omega];exact kb,Lib.hid HSK.out,ko⟩
    case measure=>have:=HN.out;omega
   ·have q1:((S[j].toNat:Int)==32)=false:=by
     rw[beq_eq_false_iff_ne]
     intro h
     exact h32 (UInt8.toNat_inj.1 (by show S[j].toNat=32;omega))
    have HSK:=Lib.hid (show sk S.data.toList i=j by rw[←hsk.out];exact sk_stop (by rw[get_data S j hlt];simpa using h32))
    clear h32 hsk
    go_wp2_with fail
    go_quiet (fail)
    go_wp2
    rw[HSK.out]
    exact bodyPost_end (results_none Tryz.results59 _ _ _) rfl ⟨rfl,HBJ.out,HO.out.drewN nq⟩
  ·have HSK:=Lib.hid (show sk S.data.toList i=j by rw[←hsk.out];exact sk_stop (by rw[List.getElem?_eq_none (by rw[size_data];omega)];simp))
   clear hsk
   go_wp2_with fail
   go_quiet (fail)
   go_wp2
   rw[HSK.out]
   exact bodyPost_end (results_none Tryz.results59 _ _ _) rfl ⟨rfl,HBJ.out,HO.out.drewN nq⟩
set_option maxRecDepth 100000 in
theorem rfail_first (g i:Nat) (sv nv:Value) (key wh a b:Int) (S:ByteArray) (w:World) (hB:Blk w g 106 #[sv,.int .i64 key,.string S,.int .i64 i,nv,.int .i64 0,.int .i64 wh]) :
  Calls Tryz.prog 60 #[.pointer (some ⟨g,0,none⟩),.int .i64 a,.int .i64 b] w fun e w'=>e=.returned (.tuple #[])∧Blk w' g 106 #[sv,.int .i64 key,.string S,.int .i64 i,nv,.int .i64 a,.int .i64 b]∧Only g w w':=by
 have HB:=Lib.hid hB
 have c5:=hB.cell 5
 have c6:=hB.cell 6
 have f5:=hB.frozen 5
 have f6:=hB.frozen 6
 simp only[jA,jZ,jS]at c5 c6
 clear hB
 go_enter Tryz.func60,Tryz.ntmps60
 go_wp2
 go_end0
 have kb:=(HB.out.set_ 5 (.int .i64 a)).set_ 6 (.int .i64 b)
 simp only[jI,jY,jT]at kb
 exact ⟨rfl,kb,((Only.refl g w).set_ 5 _).set_ 6 _⟩
set_option maxRecDepth 100000 in
theorem rfail_later (g i:Nat) (sv nv:Value) (key wh e0 a b:Int) (S:ByteArray) (w:World) (hB:Blk w g 106 #[sv,.int .i64 key,.string S,.int .i64 i,nv,.int .i64 e0,.int .i64 wh]) (he:(e0==0)=false) :
  Calls Tryz.prog 60 #[.pointer (some ⟨g,0,none⟩),.int .i64 a,.int .i64 b] w fun e w'=>e=.returned (.tuple #[])∧Blk w' g 106 #[sv,.int .i64 key,.string S,.int .i64 i,nv,.int .i64 e0,.int .i64 wh]∧Only g w w':=by
 have HB:=Lib.hid hB
 have c5:=hB.cell 5
 simp only[jA,jZ,jS]at c5
 clear hB
 go_enter Tryz.func60,Tryz.ntmps60
 go_wp2
 go_end0
 exact ⟨rfl,HB.out,Only.refl _ _⟩
def RetRExp (w:World) (g:Nat) (sv nv:Value) (key wh:Int) (S:ByteArray) (r:Except (Nat×Int) Nat) (e:Ending) (w':World):Prop:=e=.returned (.tuple #[])∧Only g w w'∧match r with
 | .ok j=>Blk w' g 106 #[sv,.int .i64 key,.string S,.int .i64 j,nv,.int .i64 0,.int .i64 wh]
 | .error (k,x)=>x≠0∧∃ i:Nat,i≤S.size∧Blk w' g 106 #[sv,.int .i64 key,.string S,.int .i64 i,nv,.int .i64 x,.int .i64 k]
def RetRErr (w:World) (g:Nat) (sv nv:Value) (key wh e0:Int) (S:ByteArray) (e:Ending) (w':World):Prop:=e=.returned (.tuple #[])∧Only g w w'∧∃ i:Nat,i≤S.size∧Blk w' g 106 #[sv,.int .i64 key,.string S,.int .i64 i,nv,.int .i64 e0,.int .i64 wh]
set_option maxRecDepth 100000 in
set_option maxHeartbeats 4000000 in
theorem rexp_later (g i:Nat) (sv nv:Value) (key wh e0:Int) (S:ByteArray) (b:Int) (w:World) (hB:Blk w g 106 #[sv,.int .i64 key,.string S,.int .i64 i,nv,.int .i64 e0,.int .i64 wh]) (hi:i≤S.size) (hS:S.size≤65536) (he:(e0 != 0)=true) :
  Calls Tryz.prog 84 #[.pointer (some ⟨g,0,none⟩),.int .u8 b] w (RetRErr w g sv nv key wh e0 S):=by
 have HSK:=Lib.hid (rspace_any g i sv nv key wh e0 S w hB hi hS)
 have hk:=sk_le (T:=S.data.toList) (by rw[size_data];exact hi)
 rw[size_data]at hk
 clear hB
 go_enter Tryz.func84,Tryz.ntmps84
 go_wp2_with fail
 refine HSK.out.mono ?_
 rintro _ w1 ⟨rfl,hB,ho⟩
 have HB:=Lib.hid hB
 have HO:=Lib.hid ho
 have c5:=hB.cell 5
 simp only[jA,jZ,jS]at c5
 clear hB ho HSK
 go_wp2
 go_end0
 exact ⟨rfl,HO.out,_,hk,HB.out⟩
set_option maxRecDepth 100000 in
set_option maxHeartbeats 4000000 in
theorem rexp_any (g i:Nat) (sv nv:Value) (key wh:Int) (S:ByteArray) (b:UInt8) (w:World) (hB:Blk w g 106 #[sv,.int .i64 key,.string S,.int .i64 i,nv,.int .i64 0,.int .i64 wh]) (hi:i≤S.size) (hS:S.size≤65536) :
  Calls Tryz.prog 84 #[.pointer (some ⟨g,0,none⟩),.int .u8 (b.toNat:Int)] w (RetRExp w g sv nv key wh S (expP S.data.toList b i)):=by
 have HSK:=Lib.hid (rspace_any g i sv nv key wh 0 S w hB hi hS)
 have hk:=sk_le (T:=S.data.toList) (by rw[size_data];exact hi)
 rw[size_data]at hk
 obtain ⟨k,hkk⟩:∃ k,sk S.data.toList i=k:=⟨_,rfl⟩
 have HK:=Lib.hid hkk
 rw[hkk]at HSK hk
 clear hB hkk
 go_enter Tryz.func84,Tryz.ntmps84
 go_wp2_with fail
 refine HSK.out.mono ?_
 rintro _ w1 ⟨rfl,hB,ho⟩
 have HB:=Lib.hid hB
 have HO:=Lib.hid ho
 have c2:=hB.cell 2
 have c3:=hB.cell 3
 have c5:=hB.cell 5
 have f3:=hB.frozen 3
 simp only[jA,jZ,jS]at c2 c3 c5
 clear hB ho HSK
 by_cases hlt:k<S.size
 ·have hne:((k:Int)==(S.size:Int))=false:=by rw[beq_eq_false_iff_ne];omega
  by_cases hb:S[k]=b
  ·have q1:((S[k].toNat:Int) != (b.toNat:Int))=false:=by rw[hb];simp
   have HR:=Lib.hid (exp_ok (T:=S.data.toList) (b:=b) (i:=i) (by rw[HK.out,get_data S k hlt,hb]))
   have q2:IntKind.i64.wrap ((k:Int)+1)=(k:Int)+1:=IntWalk.i64_in _ (by omega)
   clear hb
   go_wp2_with fail
   go_quiet (fail)
   go_wp2
   go_end0
   rw[HR.out,HK.out]
   have kb:=(HB.out.drewN nq).set_ 3 (.int .i64 ((k:Int)+1))
   simp only[jI,jY,jT]at kb
   exact ⟨rfl,(HO.out.drewN nq).set_ 3 _,by dsimp only;rw[show ((k+1:Nat):Int)=(k:Int)+1 by omega];exact kb⟩
  ·have q1:((S[k].toNat:Int) != (b.toNat:Int))=true:=by
    rw[bne_iff_ne]
    intro h
    exact hb (UInt8.toNat_inj.1 (by omega))
   have HR:=Lib.hid (exp_err (T:=S.data.toList) (b:=b) (i:=i) (by rw[HK.out,get_data S k hlt];simpa using hb))
   clear hb
   go_wp2_with fail
   go_quiet (fail)
   have HB1:=Lib.hid (HB.out.drewN nq)
   have HO1:=Lib.hid (HO.out.drewN nq)
   go_wp2_with fail
   refine (rfail_first g k sv nv key wh _ _ S _ HB1.out).mono ?_
   rintro _ w2 ⟨rfl,hB2,ho2⟩
   have HB2:=Lib.hid hB2
   have HO2:=Lib.hid ho2
   clear hB2 ho2
   go_wp2
   go_end0
   rw[HR.out,HK.out]
   exact ⟨rfl,HO1.out.trans HO2.out,by decide,k,hk,HB2.out⟩
 ·have hne:((k:Int)==(S.size:Int))=true:=by rw[beq_iff_eq];omega
  have HR:=Lib.hid (exp_err (T:=S.data.toList) (b:=b) (i:=i) (by rw[HK.out,List.getElem?_eq_none (by rw[size_data];omega)];simp))
  go_wp2_with fail
  go_quiet (fail)
  have HB1:=Lib.hid (HB.out.drewN nq)
  have HO1:=Lib.hid (HO.out.drewN nq)
  go_wp2_with fail
  refine (rfail_first g k sv nv key wh _ _ S _ HB1.out).mono ?_
  rintro _ w2 ⟨rfl,hB2,ho2⟩
  have HB2:=Lib.hid hB2
  have HO2:=Lib.hid ho2
  clear hB2 ho2
  go_wp2
  go_end0
  rw[HR.out,HK.out]
  exact ⟨rfl,HO1.out.trans HO2.out,by decide,k,hk,HB2.out⟩
theorem ext_list (S:ByteArray) (a b:Nat):(S.extract a b).data.toList=(S.data.toList.drop a).take (b - a):=by
 rw[ByteArray.data_extract,Array.toList_extract,List.extract_eq_take_drop]
theorem spi_at (c:UInt8):wdB c=decide (Lib.indexByte [32,40,41] c<0):=by
 have:∀ n:Fin 256,wdB (UInt8.ofNat n.val)=decide (Lib.indexByte [32,40,41] (UInt8.ofNat n.val)<0):=by decide +kernel
 have h:=this ⟨c.toNat,c.toNat_lt⟩
 rwa [show UInt8.ofNat c.toNat=c from UInt8.ofNat_toNat]at h
theorem spi_call (c:UInt8) (v:Int) (hv:Lib.indexByte [32,40,41] c=v) (X:World):Calls Tryz.prog 68 #[.string { data:=#[32,40,41] },.int .u8 (c.toNat:Int)] X fun e w'=>e=.returned (.int .i64 v)∧w'=X:=by
 have h:=Tryz.strings_IndexByte { data:=#[32,40,41] } (c.toNat:Int) X
 rw[show ({ data:=#[32,40,41] }:ByteArray).data.toList=[32,40,41] from rfl,Int.toNat_natCast,show c.toNat.toUInt8=c from UInt8.ofNat_toNat,hv]at h
 exact h
def RetWord (w:World) (g:Nat) (sv nv:Value) (key wh e0:Int) (S:ByteArray) (i:Nat) (e:Ending) (w':World):Prop :=
 ∃ W:ByteArray,W.data.toList=wd S.data.toList (sk S.data.toList i)∧e=.returned (.tuple #[.int .i64 (sk S.data.toList i:Nat),.string W])∧Blk w' g 54 #[sv,.int .i64 key,.string S,.int .i64 (we S.data.toList (sk S.data.toList i):Nat),nv,.int .i64 wh,.int .i64 e0]∧Only g w w'
set_option maxRecDepth 100000 in
set_option maxHeartbeats 4000000 in
theorem pword_any (g i:Nat) (sv nv:Value) (key wh e0:Int) (S:ByteArray) (w:World) (hB:Blk w g 54 #[sv,.int .i64 key,.string S,.int .i64 i,nv,.int .i64 wh,.int .i64 e0]) (hi:i≤S.size) (hS:S.size≤65536) :
  Calls Tryz.prog 44 #[.pointer (some ⟨g,0,none⟩)] w (RetWord w g sv nv key wh e0 S i):=by
 have HSK:=Lib.hid (pskip_any g i sv nv key wh e0 S w hB hi hS)
 have hk:=sk_le (T:=S.data.toList) (by rw[size_data];exact hi)
 rw[size_data]at hk
 obtain ⟨k,hkk⟩:∃ k,sk S.data.toList i=k:=⟨_,rfl⟩
 have HK:=Lib.hid hkk
 rw[hkk]at HSK hk
 clear hB hkk
 go_enter Tryz.func44,Tryz.ntmps44
 go_wp2_with fail
 refine HSK.out.mono ?_
 rintro _ w1 ⟨rfl,hB,ho⟩
 have HB:=Lib.hid hB
 have HO:=Lib.hid ho
 have c3:=hB.cell 3
 simp only[jA,jZ,jS]at c3
 clear hB ho HSK
 go_wp2_with fail
 clear c3
 go_loopg [] (S.size - k) (fun n wr=>∃ j:Nat,k≤j∧j≤S.size∧n=S.size - j∧Blk wr g 54 #[sv,.int .i64 key,.string S,.int .i64 j,nv,.int .i64 wh,.int .i64 e0]∧Hid (we S.data.toList j=we S.data.toList k)∧Only g w wr)
 case atStart=>exact ⟨k,Nat.le_refl _,hk,rfl,HB.out,Lib.hid rfl,HO.out⟩
 case round =>
  clear HB HO
  obtain ⟨j,hkj,hj,hn,hb,hwe,ho⟩:=hrel
  have HN:=Lib.hid hn
  have HBJ:=Lib.hid hb
  have HO:=Lib.hid ho
  clear hn ho
  have c2:=hb.cell 2
  have c3:=hb.cell 3
  have f3:=hb.frozen 3
  simp only[jA,jZ,jS]at c2 c3
  clear hb
  by_cases hlt:j<S.size
  ·obtain ⟨v,hv⟩:∃ v,Lib.indexByte [32,40,41] S[j]=v:=⟨_,rfl⟩
   have H1:=Lib.hid (spi_call S[j] v hv)
   by_cases hw:wdB S[j]=true
   ·have hv0:v<0:=by have:=spi_at S[j];rw[hw,hv]at this;simpa using this.symm
    have q1:decide (v<0)=true:=by simpa using hv0
    have HWE:=Lib.hid (show we S.data.toList (j+1)=we S.data.toList k by rw[←hwe.out];exact (we_go (get_data S j hlt) hw).symm)
    have q2:IntKind.i64.wrap ((j:Int)+1)=(j:Int)+1:=IntWalk.i64_in _ (by omega)
    clear hw hwe hv
    go_wp2_with fail
    go_quiet ((first | (go_at_call 68;exact quiet_i0 H1.out _ _)))
    go_wp2
    have kb:=(HBJ.out.drewN nq).set_ 3 (.int .i64 ((j:Int)+1))
    simp only[jI,jY,jT]at kb
    have ko:=(HO.out.drewN nq).set_ 3 (.int .i64 ((j:Int)+1))
    go_roundg (S.size - (j+1))
    case rel=>exact ⟨j+1,by omega,by omega,rfl,by rw[show ((j+1:Nat):Int)=(j:Int)+1 by omega];exact kb,Lib.hid HWE.out,ko⟩
    case measure=>have:=HN.out;omega
   ·have hv0:¬ v<0:=by have:=spi_at S[j];rw[hv]at this;intro h;rw[decide_eq_true h]at this;exact hw this
    have q1:decide (v<0)=false:=by simpa using hv0
    have HWE:=Lib.hid (show we S.data.toList k=j by rw[←hwe.out];exact we_stop (wd_stop (get_data S j hlt) (by simpa using hw)))
    clear hw hwe hv
    go_wp2_with fail
    go_quiet ((first | (go_at_call 68;exact quiet_i0 H1.out _ _)))
    go_wp2_with fail
    have hjk:(k:Int)≤(j:Int):=by omega
    have hjs:(j:Int)≤(S.size:Int):=by omega
    go_quiet (fail)
    go_wp2
    exact bodyPost_ret (results_tmp2 Tryz.results44 _ _ _) rfl (by unfold RetWord;rw[HK.out,HWE.out];exact ⟨_,by rw[ext_list,←HWE.out];exact wd_slice _ _,rfl,(HBJ.out.drewN _).drewN _,(HO.out.drewN _).drewN _⟩)
  ·have HWE:=Lib.hid (show we S.data.toList k=j by rw[←hwe.out];exact we_stop (wd_end (by rw[size_data];omega)))
   clear hwe
   go_wp2_with fail
   go_quiet (fail)
   go_wp2_with fail
   have hjk:(k:Int)≤(j:Int):=by omega
   have hjs:(j:Int)≤(S.size:Int):=by omega
   go_quiet (fail)
   go_wp2
   exact bodyPost_ret (results_tmp2 Tryz.results44 _ _ _) rfl (by unfold RetWord;rw[HK.out,HWE.out];exact ⟨_,by rw[ext_list,←HWE.out];exact wd_slice _ _,rfl,(HBJ.out.drewN _).drewN _,(HO.out.drewN _).drewN _⟩)
theorem wdB_ne {b:UInt8} (h:wdB b=true):b≠32∧¬(b=40∨b=41):=by
 unfold wdB at h
 simp at h
 exact ⟨h.1.1,by rintro (e | e);exact h.1.2 e;exact h.2 e⟩
theorem wdB_not {b:UInt8} (h:wdB b=false):b=32∨b=40∨b=41:=by
 by_cases h1:b=32
 ·exact .inl h1
 ·by_cases h2:b=40
  ·exact .inr (.inl h2)
  ·by_cases h3:b=41
   ·exact .inr (.inr h3)
   ·unfold wdB at h;simp[h1,h2,h3]at h
end Go.Proofs.YtjnamjkdjcndiaaGreatDoor
