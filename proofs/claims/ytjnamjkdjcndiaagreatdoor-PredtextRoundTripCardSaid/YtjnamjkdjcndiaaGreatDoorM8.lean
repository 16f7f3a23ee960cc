/-
  Words, plain laws and contracts on which the walks lean, in one text.
-/
import Derived.Test.YtjnamjkdjcndiaaGreatDoorM7
import Derived.Test.YtjnamjkdjcndiaaGreatDoorNumLaw
import Derived.Lib.IndexLaws
import Derived.Lib.ParseIntBTie
import Derived.Lib.TrimByte
import Derived.Test.YtjnamjkdjcndiaaGreatDoorM1
import Derived.Test.YtjnamjkdjcndiaaGreatDoorShelf
import Derived.Deep.QuietTactic
import Derived.BigQuiet
namespace Go.Proofs.YtjnamjkdjcndiaaGreatDoor
open Go.RowKit
theorem decStr_split (neg:Bool) (m j:Nat):decStr neg m j=(if neg then [45] else [])++(digL (m / 10 ^ j) 1++(if j=0 then [] else 46::digL (m % 10 ^ j) j)):=by
 obtain ⟨e,l⟩:=padL_split j m;unfold decStr
 congr 1
 by_cases hj:j=0
 ·subst hj;rw[if_pos rfl,if_pos rfl,e];have:digL (m % 10 ^ 0) 0=[]:=List.eq_nil_of_length_eq_zero l
  rw[this]
 ·rw[if_neg hj,if_neg hj,e,List.length_append,l,Nat.add_sub_cancel,List.take_left,List.drop_left];simp
def zeroB (l:List UInt8):Bool:=l.all fun c=>decide (c.toNat=48)
def spW (t:List UInt8):List UInt8:=t.takeWhile digB
def spR (t:List UInt8):List UInt8:=t.dropWhile digB
def negB (l:List UInt8):Bool:=decide (l.headD 0=45)
def bodyL (l:List UInt8):List UInt8:=if negB l=true then l.tail else l
def wholeOk (a:List UInt8):Bool:=decide (a≠[])&&(decide (a.length≤1) || decide (a.headD 0≠48))
def restOk:List UInt8→Bool
 | []=>true
 | c::p=>decide (c=46)&&(decide (p≠[])&&p.all digB)
def formB (t:List UInt8):Bool:=wholeOk (spW t)&&restOk (spR t)
def valP (a p:List UInt8) (j:Nat):Nat:=valN (a++p++List.replicate j 48)
def outP (neg:Bool) (v:Nat):Int×Int:=if 999999999999999999<v then (0,8) else (if neg=true then -(v:Int) else (v:Int),0)
def decP (l:List UInt8) (k:Int):Int×Int :=
 if scaB k=false then (0,4)
 else if formB (bodyL l)=false then (0,2)
 else if (negB l&&zeroB (spW (bodyL l)++(spR (bodyL l)).tail))=true then (0,2)
 else if k<((spR (bodyL l)).tail.length:Int) then (0,8)
 else outP (negB l) (valP (spW (bodyL l)) (spR (bodyL l)).tail (k.toNat - (spR (bodyL l)).tail.length))
theorem fold_app (b:List UInt8):∀ u,b.foldl stepN u=u * 10 ^ b.length+b.foldl stepN 0:=by
 induction b with
 | nil=>intro u;simp
 | cons c r ih =>
  intro u
  rw[List.foldl_cons,List.foldl_cons,ih (stepN u c),ih (stepN 0 c),List.length_cons,Nat.pow_succ];unfold stepN
  rw[Nat.zero_mul,Nat.zero_add,Nat.add_mul,Nat.mul_assoc,Nat.mul_comm 10 (10 ^ r.length)];omega
theorem valN_app (a b:List UInt8):valN (a++b)=valN a * 10 ^ b.length+valN b:=by
 unfold valN;rw[List.foldl_append];exact fold_app b _
theorem valN_zero {l:List UInt8} (h:zeroB l=true):valN l=0:=by
 induction l with
 | nil=>rfl
 | cons c r ih =>
  unfold zeroB at h
  simp only[List.all_cons,Bool.and_eq_true,decide_eq_true_eq]at h;have:=ih (by unfold zeroB;simpa using h.2)
  unfold valN at this ⊢
  rw[List.foldl_cons,stepN,h.1];simpa using this
theorem zeroB_rep (j:Nat):zeroB (List.replicate j 48)=true:=by
 unfold zeroB;rw[List.all_eq_true];intro x hx;rw[(List.mem_replicate.1 hx).2];rfl
theorem valP_eq (a p:List UInt8) (j:Nat):valP a p j=valN (a++p) * 10 ^ j:=by
 unfold valP;rw[valN_app,valN_zero (zeroB_rep j),List.length_replicate,Nat.add_zero]
theorem digB_48:digB 48=true:=by decide
theorem rep_dig (j:Nat):(List.replicate j (48:UInt8)).all digB=true:=by
 rw[List.all_eq_true];intro x hx;rw[(List.mem_replicate.1 hx).2];exact digB_48
theorem digL_all (n k:Nat):(digL n k).all digB=true:=by
 unfold digL;rw[List.all_append,rep_dig]
 split
 ·rfl
 ·rw[dd_all];rfl
theorem digL_val (n k:Nat):valN (digL n k)=n:=by
 unfold digL;rw[valN_app,valN_zero (zeroB_rep _),Nat.zero_mul,Nat.zero_add]
 split
 ·rename_i h;subst h;rfl
 ·exact valN_dd n
theorem digL_one (a:Nat):digL a 1=Lib.decDigits a:=by
 unfold digL
 by_cases h:a=0
 ·subst h;rw[if_pos rfl,dd_small (by omega)];rfl
 ·rw[if_neg h];have:1≤(Lib.decDigits a).length:=List.length_pos_iff.2 (dd_ne a)
  rw[show 1 - (Lib.decDigits a).length=0 by omega];rfl
theorem dig_ne45 {l:List UInt8} (h:l.all digB=true):l.headD 0≠45:=by
 cases l with
 | nil=>decide
 | cons c r =>
  simp only[List.all_cons,Bool.and_eq_true]at h;have:=h.1
  unfold digB at this
  rw[decide_eq_true_eq]at this;intro e
  rw[List.headD_cons]at e;subst e;exact absurd this (by decide)
theorem all_mem {l:List UInt8} (h:l.all digB=true):∀ c ∈ l,digB c=true:=List.all_eq_true.1 h
theorem sp_of {a r:List UInt8} (ha:a.all digB=true) (hr:r.headD 0=46∨r=[]):spW (a++r)=a∧spR (a++r)=r:=by
 have e1:r.takeWhile digB=[]∧r.dropWhile digB=r:=by
  rcases hr with h|rfl
  ·cases r with
   | nil=>exact ⟨rfl,rfl⟩
   | cons c q =>
    rw[List.headD_cons]at h;subst h;exact ⟨rfl,rfl⟩
  ·exact ⟨rfl,rfl⟩
 unfold spW spR
 rw[List.takeWhile_append_of_pos (all_mem ha),List.dropWhile_append_of_pos (all_mem ha),e1.1,e1.2,List.append_nil];exact ⟨rfl,rfl⟩
theorem wholeOk_dd (a:Nat):wholeOk (Lib.decDigits a)=true:=by
 unfold wholeOk
 by_cases h:a=0
 ·subst h;rw[dd_small (by omega)];decide
 ·rw[decide_eq_true (dd_ne a),decide_eq_true (dd_head a (by omega)),Bool.or_true];rfl
theorem decP_str (neg:Bool) (m j k:Nat) (hk:k≤18) (hj:j≤k) (hn:neg=true→1≤m):decP (decStr neg m j) (k:Int)=outP neg (m * 10 ^ (k - j)):=by
 have hq:=(padL_split j m).2;have hqa:=digL_all (m % 10 ^ j) j;have hqv:=digL_val (m % 10 ^ j) j;rw[decStr_split,digL_one];generalize digL (m % 10 ^ j) j=q at hq hqa hqv ⊢
 obtain ⟨d,hd⟩:∃ d,d=Lib.decDigits (m / 10 ^ j):=⟨_,rfl⟩
 have hda:d.all digB=true:=by rw[hd];exact dd_all _
 have hdv:valN d=m / 10 ^ j:=by rw[hd];exact valN_dd _
 have hdw:wholeOk d=true:=by rw[hd];exact wholeOk_dd _
 have hdn:d≠[]:=by rw[hd];exact dd_ne _
 rw[←hd];clear hd;obtain ⟨r,hr⟩:∃ r:List UInt8,r=if j=0 then [] else 46::q:=⟨_,rfl⟩
 rw[←hr];have hr1:r.headD 0=46∨r=[]:=by
  rw[hr];split
  ·exact .inr rfl
  ·exact .inl rfl
 have hrt:r.tail=q:=by
  rw[hr];split
  ·rename_i h;subst h;rw[List.eq_nil_of_length_eq_zero hq];rfl
  ·rfl
 have hro:restOk r=true:=by
  rw[hr];split
  ·rfl
  ·have:q≠[]:=by intro e;rw[e]at hq;simp at hq;omega
   simp[restOk,this,hqa]
 have hb:bodyL ((if neg=true then [45] else [])++(d++r))=d++r∧negB ((if neg=true then [45] else [])++(d++r))=neg:=by
  unfold bodyL
  cases neg with
  | true=>exact ⟨rfl,rfl⟩
  | false =>
   have:negB (d++r)=false:=by
    unfold negB;rw[headD_append hdn];exact decide_eq_false (dig_ne45 hda)
   simp only[Bool.false_eq_true,if_false,List.nil_append,this];exact ⟨trivial,trivial⟩
 obtain ⟨s1,s2⟩:=sp_of hda hr1;have hv:valN (d++q)=m:=by rw[valN_app,hdv,hqv,hq];rw[Nat.mul_comm];exact Nat.div_add_mod m (10 ^ j)
 have hz:¬(neg&&zeroB (d++q))=true:=by
  intro h
  rw[Bool.and_eq_true]at h;have:=valN_zero h.2
  have:=hn h.1
  omega
 unfold decP
 rw[hb.1,hb.2,s1,s2,hrt,if_neg (by unfold scaB;simp;omega),if_neg (by unfold formB;rw[s1,s2,hdw,hro];decide),if_neg hz,if_neg (by omega),hq,valP_eq,hv,Int.toNat_natCast]
theorem upN_eq:∀ (k:Nat) (n:Int),-999999999999999999≤n→n≤999999999999999999→upN k n=if 999999999999999999<n.natAbs * 10 ^ k then none else some (n * 10 ^ k)
 | 0,n,h0,h1=>by simp only[upN,Nat.pow_zero,Nat.mul_one,Int.pow_zero,Int.mul_one];rw[if_neg (by omega)]
 | k+1,n,h0,h1=>by
  simp only[upN];have hp:1≤10 ^ k:=Nat.pow_pos (by decide);have e:n.natAbs * 10 ^ (k+1)=n.natAbs * 10 * 10 ^ k:=by rw[Nat.pow_succ,Nat.mul_comm (10 ^ k),Nat.mul_assoc]
  split
  ·rename_i h
   rw[if_pos];rw[e];have:n.natAbs * 10 * 1≤n.natAbs * 10 * 10 ^ k:=Nat.mul_le_mul_left _ hp
   omega
  ·rename_i h
   rw[upN_eq k (n * 10) (by omega) (by omega),e,show (n * 10).natAbs=n.natAbs * 10 by omega,show n * 10 ^ (k+1)=n * 10 * 10 ^ k by rw[Int.pow_succ,Int.mul_comm (10 ^ k),Int.mul_assoc]]
theorem outP_up (n:Int) (k:Nat) (h0:-999999999999999999≤n) (h1:n≤999999999999999999):outP (decide (n<0)) (n.natAbs * 10 ^ k)=outR (upN k n):=by
 rw[upN_eq k n h0 h1];unfold outP outR
 split
 ·rfl
 ·have hp:((n.natAbs * 10 ^ k:Nat):Int)=(n.natAbs:Int) * 10 ^ k:=by push_cast;rfl
  rw[hp];by_cases hn:n<0
  ·rw[decide_eq_true hn,if_pos rfl,←Int.neg_mul,show -(n.natAbs:Int)=n by omega]
  ·rw[decide_eq_false hn,if_neg (by decide),show (n.natAbs:Int)=n by omega]
def dotF (c:UInt8):Bool:=decide (c≠46)
def cutW (t:List UInt8):List UInt8:=t.takeWhile dotF
def cutR (t:List UInt8):List UInt8:=t.dropWhile dotF
def digsB (l:List UInt8):Bool:=l.all digB&&decide (l≠[])
def leadB (a:List UInt8):Bool:=decide (1<a.length)&&decide (a.headD 0=48)
theorem cut_of {a r:List UInt8} (ha:∀ c ∈ a,c≠46) (hr:r.headD 0=46∨r=[]):cutW (a++r)=a∧cutR (a++r)=r:=by
 have e1:r.takeWhile dotF=[]∧r.dropWhile dotF=r:=by
  rcases hr with h|rfl
  ·cases r with
   | nil=>exact ⟨rfl,rfl⟩
   | cons c q =>
    rw[List.headD_cons]at h;subst h;exact ⟨rfl,rfl⟩
  ·exact ⟨rfl,rfl⟩
 have hd:∀ c ∈ a,dotF c=true:=fun c hc=>decide_eq_true (ha c hc)
 unfold cutW cutR
 rw[List.takeWhile_append_of_pos hd,List.dropWhile_append_of_pos hd,e1.1,e1.2,List.append_nil];exact ⟨rfl,rfl⟩
theorem dig_dot {a:List UInt8} (h:a.all digB=true):∀ c ∈ a,c≠46:=by
 intro c hc e
 subst e;exact absurd (all_mem h 46 hc) (by decide)
theorem cut_whole (t:List UInt8):t=cutW t++cutR t:=List.takeWhile_append_dropWhile.symm
theorem cutR_head:∀ (t:List UInt8),(cutR t).headD 0=46∨cutR t=[]
 | []=>.inr rfl
 | c::r=>by
  by_cases h:c=46
  ·subst h;exact .inl rfl
  ·have:cutR (c::r)=cutR r:=by unfold cutR;rw[List.dropWhile_cons_of_pos (show dotF c=true from decide_eq_true h)]
   rw[this];exact cutR_head r
theorem spW_all:∀ (t:List UInt8),(spW t).all digB=true
 | []=>rfl
 | c::r=>by
  unfold spW
  by_cases h:digB c=true
  ·rw[List.takeWhile_cons_of_pos h,List.all_cons,h];exact spW_all r
  ·rw[List.takeWhile_cons_of_neg h];rfl
theorem sp_whole (t:List UInt8):t=spW t++spR t:=List.takeWhile_append_dropWhile.symm
theorem restOk_head {r:List UInt8} (h:restOk r=true):r.headD 0=46∨r=[]:=by
 cases r with
 | nil=>exact .inr rfl
 | cons c p =>
  simp only[restOk,Bool.and_eq_true,decide_eq_true_eq]at h;exact .inl h.1
theorem form_cut {t:List UInt8} (h:formB t=true):spW t=cutW t∧spR t=cutR t:=by
 unfold formB at h
 rw[Bool.and_eq_true]at h;obtain ⟨e1,e2⟩:=cut_of (dig_dot (spW_all t)) (restOk_head h.2);rw[←sp_whole t]at e1 e2;exact ⟨e1.symm,e2.symm⟩
theorem cut_form {t:List UInt8} (h:(cutW t).all digB=true):spW t=cutW t∧spR t=cutR t:=by
 obtain ⟨e1,e2⟩:=sp_of h (cutR_head t);rw[←cut_whole t]at e1 e2;exact ⟨e1,e2⟩
theorem form_bad1 {t:List UInt8} (h:digsB (cutW t)=false):formB t=false:=by
 cases hf:formB t with
 | false=>rfl
 | true =>
  obtain ⟨e1,_⟩:=form_cut hf;unfold formB wholeOk at hf
  simp only[Bool.and_eq_true,decide_eq_true_eq]at hf;unfold digsB at h
  rw[←e1,spW_all t,decide_eq_true hf.1.1]at h;cases h
theorem form_bad2 {t:List UInt8} (h:leadB (cutW t)=true):formB t=false:=by
 cases hf:formB t with
 | false=>rfl
 | true =>
  obtain ⟨e1,_⟩:=form_cut hf;unfold formB wholeOk at hf
  simp only[Bool.and_eq_true,Bool.or_eq_true,decide_eq_true_eq]at hf;unfold leadB at h
  simp only[Bool.and_eq_true,decide_eq_true_eq]at h;rw[e1]at hf;rcases hf.1.2 with h2|h2
  ·omega
  ·exact absurd h.2 h2
theorem restOk_tail {r:List UInt8} (h:restOk r=true) (hne:r≠[]):digsB r.tail=true:=by
 cases r with
 | nil=>exact absurd rfl hne
 | cons c p =>
  simp only[restOk,Bool.and_eq_true,decide_eq_true_eq]at h;unfold digsB
  rw[List.tail_cons,h.2.2,decide_eq_true h.2.1];rfl
theorem form_bad3 {t:List UInt8} (hne:cutR t≠[]) (h:digsB (cutR t).tail=false):formB t=false:=by
 cases hf:formB t with
 | false=>rfl
 | true =>
  obtain ⟨_,e2⟩:=form_cut hf;unfold formB at hf
  rw[Bool.and_eq_true]at hf;rw[←e2]at h hne;rw[restOk_tail hf.2 hne]at h;cases h
structure FormOk (t:List UInt8):Prop where
 w:digsB (cutW t)=true
 l:leadB (cutW t)=false
 f:cutR t=[]∨digsB (cutR t).tail=true
theorem FormOk.form {t:List UInt8} (h:FormOk t):formB t=true∧spW t=cutW t∧spR t=cutR t:=by
 have hw:=h.w;unfold digsB at hw
 rw[Bool.and_eq_true,decide_eq_true_eq]at hw;obtain ⟨e1,e2⟩:=cut_form hw.1;refine ⟨?_,e1,e2⟩
 unfold formB
 rw[e1,e2,Bool.and_eq_true];constructor
 ·have hl:=h.l;unfold leadB at hl
  rw[Bool.and_eq_false_iff,decide_eq_false_iff_not,decide_eq_false_iff_not]at hl;unfold wholeOk
  simp only[Bool.and_eq_true,Bool.or_eq_true,decide_eq_true_eq];exact ⟨hw.2,hl.imp (fun h=>by omega) id⟩
 ·rcases h.f with h0 | h0
  ·rw[h0];rfl
  ·rcases cutR_head t with h1 | h1
   ·cases hc:cutR t with
    | nil=>rfl
    | cons c p =>
     rw[hc,List.headD_cons]at h1;rw[hc,List.tail_cons]at h0;unfold digsB at h0
     rw[Bool.and_eq_true,decide_eq_true_eq]at h0;simp[restOk,h1,h0.1,h0.2]
   ·rw[h1];rfl
theorem FormOk.fdig {t:List UInt8} (h:FormOk t):(cutR t).tail.all digB=true:=by
 rcases h.f with h0|h0
 ·rw[h0];rfl
 ·unfold digsB at h0;rw[Bool.and_eq_true]at h0;exact h0.1
theorem decP_range {l:List UInt8} {k:Int} (h:scaB k=false):decP l k=(0,4):=by unfold decP;rw[if_pos h]
theorem decP_form {l:List UInt8} {k:Int} (h:scaB k=true) (hf:formB (bodyL l)=false):decP l k=(0,2):=by
 unfold decP;rw[if_neg (by rw[h];decide),if_pos hf]
theorem decP_zero {l:List UInt8} {k:Int} (h:scaB k=true) (hf:FormOk (bodyL l)) (hn:negB l=true) (hz:zeroB (cutW (bodyL l)++(cutR (bodyL l)).tail)=true):decP l k=(0,2):=by
 obtain ⟨e0,e1,e2⟩:=hf.form;unfold decP;rw[if_neg (by rw[h];decide),if_neg (by rw[e0];decide),e1,e2,if_pos (by rw[hn,hz];rfl)]
theorem decP_out {l:List UInt8} {k:Int} (h:scaB k=true) (hf:FormOk (bodyL l)) (hz:(negB l&&zeroB (cutW (bodyL l)++(cutR (bodyL l)).tail))=false) :
  decP l k=if k<((cutR (bodyL l)).tail.length:Int) then (0,8) else outP (negB l) (valP (cutW (bodyL l)) (cutR (bodyL l)).tail (k.toNat - (cutR (bodyL l)).tail.length)):=by
 obtain ⟨e0,e1,e2⟩:=hf.form;unfold decP;rw[if_neg (by rw[h];decide),if_neg (by rw[e0];decide),e1,e2,if_neg (by rw[hz];decide)]
theorem cut_none {t:List UInt8} (h:Lib.indexByte t 46=-1):cutW t=t∧cutR t=[]:=by
 have:=cut_of (a:=t) (r:=[]) (fun c hc e=>by
  obtain ⟨k,hk⟩:=List.mem_iff_getElem?.1 hc;exact Lib.indexByte_none h k (by rw[hk,e])) (.inr rfl)
 rwa [List.append_nil]at this
theorem cut_some {t:List UInt8} {i:Nat} (h:Lib.indexByte t 46=(i:Int)):cutW t=t.take i∧cutR t=46::t.drop (i+1)∧i<t.length:=by
 obtain ⟨h1,h2⟩:=Lib.indexByte_some h;have hi:=(List.getElem?_eq_some_iff.1 h1).1;have e:t=t.take i++(46::t.drop (i+1)):=by
  have h3:t.drop i=46::t.drop (i+1):=by
   rw[List.drop_eq_getElem_cons hi];congr 1
   exact (List.getElem?_eq_some_iff.1 h1).2
  rw[←h3,List.take_append_drop]
 have:=cut_of (a:=t.take i) (r:=46::t.drop (i+1)) (fun c hc e=>by
  obtain ⟨k,hk⟩:=List.mem_iff_getElem?.1 hc;have hki:k<i:=by
   have:=(List.getElem?_eq_some_iff.1 hk).1
   rw[List.length_take]at this;omega
  rw[List.getElem?_take_of_lt hki]at hk;exact h2 k hki (by rw[hk,e])) (.inl rfl)
 rw[←e]at this;exact ⟨this.1,this.2,hi⟩
theorem parse10_ok:∀ (l:List UInt8) (a u:Nat),l.all digB=true→Lib.parseUint10 a l=.ok u→u=l.foldl stepN a
 | [],a,u,_,h=>by
  simp only[Lib.parseUint10]at h;injection h with h
  exact h.symm
 | c::r,a,u,hd,h=>by
  simp only[List.all_cons,Bool.and_eq_true]at hd;have hc:=hd.1;unfold digB at hc
  rw[decide_eq_true_eq]at hc;simp only[Lib.parseUint10]at h;rw[if_pos hc]at h;split at h
  ·cases h
  ·split at h
   ·cases h
   ·exact parse10_ok r _ u hd.2 h
theorem pint_shape {l:List UInt8} (h:l.all digB=true) (hne:l≠[]):∀ v,Lib.parseIntB 64 l=.ok v→∃ u,Lib.parseUint10 0 l=.ok u∧v=(u:Int):=by
 intro v hv
 rw[Lib.parseIntB_64]at hv;cases l with
 | nil=>exact absurd rfl hne
 | cons c r =>
  have hc:digB c=true:=by simp only[List.all_cons,Bool.and_eq_true]at h;exact h.1
  unfold digB at hc
  rw[decide_eq_true_eq]at hc;unfold Lib.atoiAll at hv
  dsimp only at hv;rw[if_neg (show ¬(c.toNat=43∨c.toNat=45) by omega)]at hv;simp only[show ¬(c.toNat=45) by omega,Lib.parseMag,if_neg (List.cons_ne_nil c r),not_false_eq_true,true_and,false_and,if_false]at hv;rcases hh:Lib.parseUint10 0 (c::r) with u|_|_
  ·rw[hh]at hv;simp only at hv
   split at hv
   ·cases hv
   ·injection hv with hv
    exact ⟨u,rfl,hv.symm⟩
  ·rw[hh]at hv;cases hv
  ·rw[hh]at hv;cases hv
theorem pint_sound {l:List UInt8} (h:l.all digB=true) (hne:l≠[]) {v:Int} (hv:Lib.parseIntB 64 l=.ok v):v=(valN l:Int):=by
 obtain ⟨u,h1,h2⟩:=pint_shape h hne v hv;rw[h2,parse10_ok l 0 u h h1];rfl
theorem pint_small {l:List UInt8} (h:l.all digB=true) (hne:l≠[]) (hv:valN l≤999999999999999999):Lib.parseIntB 64 l=.ok (valN l:Int):=by
 have h1:=parse10_dig l 0 h (show l.foldl stepN 0<18446744073709551616 from Nat.lt_of_le_of_lt (show l.foldl stepN 0≤999999999999999999 from hv) (by decide));rw[show l.foldl stepN 0=valN l from rfl]at h1;rw[Lib.parseIntB_64];cases l with
 | nil=>exact absurd rfl hne
 | cons c r =>
  have hc:digB c=true:=by simp only[List.all_cons,Bool.and_eq_true]at h;exact h.1
  unfold digB at hc
  rw[decide_eq_true_eq]at hc;unfold Lib.atoiAll
  dsimp only;rw[if_neg (show ¬(c.toNat=43∨c.toNat=45) by omega)];simp only[show ¬(c.toNat=45) by omega,Lib.parseMag,if_neg (List.cons_ne_nil c r),not_false_eq_true,true_and,false_and,if_false,h1];rw[if_neg (by omega)]
theorem dw_nil (p:UInt8→Bool):∀ l:List UInt8,l.dropWhile p=[]→∀ x ∈ l,p x=true
 | [],_,x,hx=>by cases hx
 | c::r,h,x,hx=>by
  by_cases hc:p c=true
  ·rw[List.dropWhile_cons_of_pos hc]at h;rcases List.mem_cons.1 hx with rfl|hx
   ·exact hc
   ·exact dw_nil p r h x hx
  ·rw[List.dropWhile_cons_of_neg hc]at h;cases h
theorem nil_dw (p:UInt8→Bool):∀ l:List UInt8,(∀ x ∈ l,p x=true)→l.dropWhile p=[]
 | [],_=>rfl
 | c::r,h=>by
  rw[List.dropWhile_cons_of_pos (h c (List.mem_cons_self ..))];exact nil_dw p r fun x hx=>h x (List.mem_cons_of_mem _ hx)
theorem dw_head (p:UInt8→Bool):∀ (l:List UInt8) (y:UInt8) (r:List UInt8),l.dropWhile p=y::r→p y=false
 | [],y,r,h=>by cases h
 | c::q,y,r,h=>by
  by_cases hc:p c=true
  ·rw[List.dropWhile_cons_of_pos hc]at h;exact dw_head p q y r h
  ·rw[List.dropWhile_cons_of_neg hc]at h;injection h with h1 _
   subst h1;simpa using hc
theorem zeroB_mem {l:List UInt8}:zeroB l=true ↔ ∀ x ∈ l,(x==(48:UInt8))=true:=by
 unfold zeroB
 rw[List.all_eq_true];constructor
 ·intro h x hx
  have:=h x hx
  rw[decide_eq_true_eq]at this;rw[beq_iff_eq];exact UInt8.toNat_inj.1 this
 ·intro h x hx
  have:=h x hx
  rw[beq_iff_eq]at this;subst this;rfl
theorem trim_yes {l:List UInt8} (h:zeroB l=true):Lib.trimB l 48=[]:=by
 unfold Lib.trimB Lib.trimLeftB Lib.trimRightB
 rw[nil_dw _ l.reverse (fun x hx=>zeroB_mem.1 h x (List.mem_reverse.1 hx))];rfl
theorem trim_no {l:List UInt8} (h:zeroB l=false):Lib.trimB l 48≠[]:=by
 intro e
 unfold Lib.trimB Lib.trimLeftB Lib.trimRightB at e
 have h1:=dw_nil _ _ e;cases hd:l.reverse.dropWhile (· == (48:UInt8)) with
 | nil =>
  have h2:=dw_nil _ _ hd;rw[zeroB_mem.2 (fun x hx=>h2 x (List.mem_reverse.2 hx))]at h;cases h
 | cons y r =>
  have h3:=dw_head _ _ y r hd;have h4:=h1 y (by rw[hd,List.mem_reverse];exact List.mem_cons_self ..);rw[h4]at h3;cases h3
def DigTo (s:ByteArray) (k:Nat):Prop:=∀ (j:Nat) (h:j<s.size),j<k→digB s[j]=true
theorem DigTo.zero (s:ByteArray):DigTo s 0:=fun _ _ h=>absurd h (Nat.not_lt_zero _)
theorem DigTo.next {s:ByteArray} {k:Nat} (h:DigTo s k) (hk:k<s.size) (hc:digB s[k]=true):DigTo s (k+1):=fun j hj hlt=>by
 by_cases e:j=k
 ·subst e;exact hc
 ·exact h j hj (by omega)
theorem mem_at {s:ByteArray} {c:UInt8} (hc:c ∈ s.data.toList):∃ (k:Nat) (h:k<s.size),s[k]=c:=by
 obtain ⟨k,hk⟩:=List.mem_iff_getElem?.1 hc;have hl:k<s.size:=by rw[←size_data];exact (List.getElem?_eq_some_iff.1 hk).1
 rw[get_data s k hl]at hk;injection hk with hk
 exact ⟨k,hl,hk⟩
theorem DigTo.all {s:ByteArray} {k:Nat} (h:DigTo s k) (hk:s.size≤k):s.data.toList.all digB=true:=by
 rw[List.all_eq_true];intro c hc
 obtain ⟨j,hj,rfl⟩:=mem_at hc;exact h j hj (by omega)
theorem dig_not {s:ByteArray} {k:Nat} (hk:k<s.size) (h:digB s[k]=false):s.data.toList.all digB=false:=by
 rw[List.all_eq_false];exact ⟨s[k],List.mem_of_getElem? (get_data s k hk),by simp[h]⟩
theorem digB_cases (c:UInt8):(digB c=true∧48≤(c.toNat:Int)∧(c.toNat:Int)≤57)∨(digB c=false∧(c.toNat:Int)<48)∨(digB c=false∧57<(c.toNat:Int)):=by
 by_cases h:48≤c.toNat∧c.toNat≤57
 ·exact .inl ⟨by unfold digB;rw[decide_eq_true_eq];exact h,by omega⟩
 ·by_cases h2:c.toNat<48
  ·exact .inr (.inl ⟨by unfold digB;rw[decide_eq_false_iff_not];exact h,by omega⟩)
  ·exact .inr (.inr ⟨by unfold digB;rw[decide_eq_false_iff_not];exact h,by omega⟩)
theorem digs_no {s:ByteArray} {k:Nat} (hk:k<s.size) (h:digB s[k]=false):digsB s.data.toList=false:=by
 unfold digsB;rw[dig_not hk h];rfl
theorem digs_nil {s:ByteArray} (h:s.size=0):digsB s.data.toList=false:=by
 have:s.data.toList=[]:=List.eq_nil_of_length_eq_zero (by rw[size_data];exact h)
 rw[this];rfl
theorem digs_yes {s:ByteArray} {k:Nat} (h0:0<s.size) (h:DigTo s k) (hk:s.size≤k):digsB s.data.toList=true:=by
 unfold digsB
 rw[h.all hk,decide_eq_true (by intro e;have:=size_data s;rw[e]at this;simp at this;omega)];rfl
open Go.RowKit Go.Sort
set_option linter.unusedVariables false
set_option maxHeartbeats 1000000 in
theorem ddig_any (s:ByteArray) (w:World) (hs:s.size≤9223372036854775807):Calls Tryz.prog 130 #[.string s] w (Ret0 w (digsB s.data.toList)):=by
 go_enter Tryz.func130,Tryz.ntmps130
 go_wp2;go_loop [6] (fun i=>∃ k:Nat,k≤s.size∧i=.int .i64 k∧Hid (DigTo s k)) (fun i=>s.size - (intOf i).toNat)
 case atStart=>exact ⟨0,by omega,rfl,Lib.hid (DigTo.zero s)⟩
 case round =>
  obtain ⟨k,hk,rfl,hok⟩:=hrel;by_cases hlt:k<s.size
  ·rcases digB_cases s[k] with ⟨ho,h1,h2⟩ | ⟨ho,h1⟩ | ⟨ho,h1⟩
   ·have HO:=Lib.hid (hok.out.next hlt ho);clear ho hok;go_wp2;go_round
    case rel=>exact ⟨k+1,by omega,by go_num,HO⟩
    case measure=>simp[intOf];omega
   ·have HN:=Lib.hid (digs_no hlt ho);clear ho hok;go_wp2;go_ret;exact Ret0.mk_ HN.out
   ·have HN:=Lib.hid (digs_no hlt ho);clear ho hok;go_wp2;go_ret;exact Ret0.mk_ HN.out
  ·rcases Nat.eq_zero_or_pos s.size with h0 | h0
   ·have HN:=Lib.hid (digs_nil h0);have e1:s.toList=[]:=toList_nil h0;have e0:s.toList.isEmpty=true:=by rw[e1];rfl
    clear hok;go_wp2;go_ret;exact Ret0.mk_ HN.out
   ·have HN:=Lib.hid (digs_yes h0 hok.out (by omega));have e0:s.toList.isEmpty=false:=toList_ne h0;clear hok;go_wp2;go_ret;exact Ret0.mk_ HN.out
theorem hasPre_neg (l:List UInt8):Lib.hasPrefix l [45]=negB l:=by
 cases l with
 | nil=>rfl
 | cons c r =>
  unfold Lib.hasPrefix negB
  rw[List.headD_cons];by_cases h:c=45
  ·subst h;simp[List.isPrefixOf]
  ·rw[decide_eq_false h];simp[List.isPrefixOf,Ne.symm h]
def RetCutP (w:World) (B:ByteArray) (b:Bool) (e:Ending) (w':World):Prop:=e=.returned (.tuple #[.string B,.bool b])∧w=w'
set_option maxHeartbeats 1000000 in
theorem cutpre_in (s B:ByteArray) (hB:B.data.toList=bodyL s.data.toList) (w:World) (hs:s.size≤9223372036854775807) :
  Calls Tryz.prog 157 #[.string s,.string { data:=#[45] }] w (RetCutP w B (negB s.data.toList)):=by
 have CH:=Lib.hid (fun X=>Tryz.stringslite_HasPrefix s { data:=#[45] } X);rw[show ({ data:=#[45] }:ByteArray).data.toList=[45] from rfl,hasPre_neg]at CH;cases hn:negB s.data.toList with
 | false =>
  have hBs:B=s:=strEq (by rw[hB];unfold bodyL;rw[hn];rfl);rw[hn]at CH;subst hBs;clear hB hn;go_enter Tryz.func157,Tryz.ntmps157
  go_wp2_with fail
  refine (CH.out _).mono ?_;rintro _ _ ⟨rfl,rfl⟩;go_wp2;go_ret2
  exact ⟨rfl,rfl⟩
 | true =>
  have h0:0<s.size:=by
   rcases Nat.eq_zero_or_pos s.size with h|h
   ·have:s.data.toList=[]:=List.eq_nil_of_length_eq_zero (by rw[size_data];exact h)
    rw[this]at hn;exact absurd hn (by decide)
   ·exact h
  have hBs:s.extract 1 s.size=B:=strEq (by
   rw[hB];unfold bodyL;rw[hn,if_pos rfl,Lib.extract_from];simp)
  have HB:=Lib.hid hBs;rw[hn]at CH;clear hB hn hBs;go_enter Tryz.func157,Tryz.ntmps157
  go_wp2_with fail
  refine (CH.out _).mono ?_;rintro _ _ ⟨rfl,rfl⟩;go_wp2;go_ret2
  exact ⟨by rw[←HB.out];first | rfl | simp,rfl⟩
theorem cutpre_any (s B:ByteArray) (hB:B.data.toList=bodyL s.data.toList) (w:World) (hs:s.size≤9223372036854775807) :
  Calls Tryz.prog 128 #[.string s,.string { data:=#[45] }] w (RetCutP w B (negB s.data.toList)):=by
 have CH:=Lib.hid (cutpre_in s B hB w hs);clear hB;go_enter Tryz.func128,Tryz.ntmps128
 go_wp2_with fail
 refine CH.out.mono ?_;rintro _ _ ⟨rfl,rfl⟩;go_wp2;go_ret2
 exact ⟨rfl,rfl⟩
def RetCut (w:World) (W F:ByteArray) (b:Bool) (e:Ending) (w':World):Prop:=e=.returned (.tuple #[.string W,.string F,.bool b])∧∃ n,w'=w.drewN n
set_option maxHeartbeats 1000000 in
theorem cut_in (s W F:ByteArray) (pt:Bool) (hW:W.data.toList=cutW s.data.toList) (hF:F.data.toList=(cutR s.data.toList).tail) (hp:pt=decide (cutR s.data.toList≠[])) (w:World) (hs:s.size≤9223372036854775806) :
  Calls Tryz.prog 158 #[.string s,.string { data:=#[46] }] w (RetCut w W F pt):=by
 have CI:=Lib.hid (fun X=>Tryz.stringslite_Index_one s 46 X);have hge:=Lib.indexByte_ge s.data.toList 46;by_cases h:Lib.indexByte s.data.toList 46=-1
 ·obtain ⟨e1,e2⟩:=cut_none h;rw[e1]at hW;rw[e2]at hF hp;obtain rfl:W=s:=strEq hW;obtain rfl:F={ data:=#[] }:=strEq hF;obtain rfl:pt=false:=by rw[hp];simp
  rw[h]at CI;clear hW hF hp hge h e1 e2;go_enter Tryz.func158,Tryz.ntmps158
  go_wp2_with fail
  refine (CI.out _).mono ?_;rintro _ _ ⟨rfl,rfl⟩;go_wp2;go_ret3
  exact ⟨rfl,0,rfl⟩
 ·obtain ⟨i,hi⟩:∃ i:Nat,Lib.indexByte s.data.toList 46=(i:Int):=⟨(Lib.indexByte s.data.toList 46).toNat,by omega⟩
  obtain ⟨e1,e2,e3⟩:=cut_some hi;rw[e1]at hW;rw[e2]at hF hp;rw[size_data]at e3;have hWs:=Lib.hid (show s.extract 0 i=W from strEq (by rw[hW,Lib.extract_upto]));have hFs:=Lib.hid (show s.extract (i+1) s.size=F from strEq (by rw[hF,Lib.extract_from];rfl));obtain rfl:pt=true:=by rw[hp];simp
  rw[hi]at CI;clear hW hF hp hge h hi e1 e2;go_enter Tryz.func158,Tryz.ntmps158
  go_wp2_with fail
  refine (CI.out _).mono ?_;rintro _ _ ⟨rfl,rfl⟩;go_wp2;go_quiet (fail)
  go_wp2;go_ret3
  exact ⟨by rw[←hWs.out,←hFs.out];first | rfl | simp,_,rfl⟩
theorem cut_any (s W F:ByteArray) (pt:Bool) (hW:W.data.toList=cutW s.data.toList) (hF:F.data.toList=(cutR s.data.toList).tail) (hp:pt=decide (cutR s.data.toList≠[])) (w:World) (hs:s.size≤9223372036854775806) :
  Calls Tryz.prog 129 #[.string s,.string { data:=#[46] }] w (RetCut w W F pt):=by
 have CH:=Lib.hid (cut_in s W F pt hW hF hp w hs);clear hW hF hp;go_enter Tryz.func129,Tryz.ntmps129
 go_wp2_with fail
 refine CH.out.mono ?_;rintro _ _ ⟨rfl,n,rfl⟩;go_wp2;go_ret3
 exact ⟨rfl,n,rfl⟩
end Go.Proofs.YtjnamjkdjcndiaaGreatDoor
