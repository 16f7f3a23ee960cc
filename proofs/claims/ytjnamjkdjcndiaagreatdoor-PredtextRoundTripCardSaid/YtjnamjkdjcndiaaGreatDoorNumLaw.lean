/-
 Numerals in plain Lean: what the reference's ReadNumber decides,and that it reads exactly the numerals of Itoa.
-/
import Derived.Lib.AtoiAll
import Derived.Lib.ItoaNum
import Derived.Lib.ItoaMem
namespace Go.Proofs.YtjnamjkdjcndiaaGreatDoor
open Go
def digB (c:UInt8):Bool:=decide (48≤c.toNat∧c.toNat≤57)
def stepN (u:Nat) (c:UInt8):Nat:=u * 10+(c.toNat - 48)
def valN (l:List UInt8):Nat:=l.foldl stepN 0
def readT (neg:Bool) (t:List UInt8):Int×Int :=
 if t=[]∨(t.headD 0=48∧(1<t.length∨neg=true)) then (0,2) else if t.all digB=false then (0,2) else if 19<t.length then (0,8)
 else if neg=true then (if valN t≤9223372036854775808 then (-(valN t:Int),0) else (0,8)) else if valN t<9223372036854775808 then ((valN t:Int),0) else (0,8)
def readV (l:List UInt8):Int×Int:=if l.headD 0=45 then readT true l.tail else readT false l
theorem dd_one {c:Nat} (h:c<10):Lib.decDigits c=[UInt8.ofNat (48+c)]:=by rw[Lib.decDigits.eq_def,dif_pos h]
theorem dd_more {a c:Nat} (ha:1≤a) (hc:c<10):Lib.decDigits (a * 10+c)=Lib.decDigits a ++ [UInt8.ofNat (48+c)]:=by
 rw[Lib.decDigits.eq_def (a * 10+c),dif_neg (by omega),show (a * 10+c) / 10=a by omega,show (a * 10+c) % 10=c by omega]
theorem ofNat_dig {c:Nat} (h:c<10):(UInt8.ofNat (48+c)).toNat=48+c:=by
 rw[UInt8.toNat_ofNat'];omega
theorem valN_snoc (l:List UInt8) (c:UInt8):valN (l ++ [c])=valN l * 10+(c.toNat - 48):=by simp[valN,stepN]
theorem dd_ind {Q:Nat→Prop} (h0:∀ c,c<10→Q c) (h1:∀ a c,1≤a→c<10→Q a→Q (a * 10+c)):∀ u,Q u:=by
 intro u
 induction u using Nat.strongRecOn with
 | ind u ih =>
  by_cases h:u<10
  ·exact h0 u h
  ·have:=h1 (u / 10) (u % 10) (by omega) (by omega) (ih (u / 10) (by omega))
   rwa [show u / 10 * 10+u % 10=u by omega]at this
theorem valN_dd:∀ u,valN (Lib.decDigits u)=u:=by
 refine dd_ind (fun c h=>?_) (fun a c ha hc ih=>?_)
 ·rw[dd_one h];simp only[valN,stepN,List.foldl_cons,List.foldl_nil];rw[ofNat_dig h];omega
 ·rw[dd_more ha hc,valN_snoc,ih,ofNat_dig hc];omega
theorem digB_of {c:Nat} (h:c<10):digB (UInt8.ofNat (48+c))=true:=by unfold digB;rw[ofNat_dig h,decide_eq_true_eq];omega
theorem dd_all:∀ u,(Lib.decDigits u).all digB=true:=by
 refine dd_ind (fun c h=>?_) (fun a c ha hc ih=>?_)
 ·rw[dd_one h,List.all_cons,digB_of h];rfl
 ·rw[dd_more ha hc,List.all_append,ih,List.all_cons,digB_of hc];rfl
theorem dd_ne:∀ u,Lib.decDigits u≠[]:=by
 refine dd_ind (fun c h=>?_) (fun a c ha hc ih=>?_)
 ·rw[dd_one h];simp
 ·rw[dd_more ha hc];simp
theorem headD_append {l:List UInt8} (h:l≠[]) (r:List UInt8):(l++r).headD 0=l.headD 0:=by
 cases l with
 | nil=>exact absurd rfl h
 | cons a l=>rfl
theorem dd_head:∀ u,1≤u→(Lib.decDigits u).headD 0≠48:=by
 refine dd_ind (fun c h h1=>?_) (fun a c ha hc ih _=>?_)
 ·rw[dd_one h];simp only[List.headD_cons];intro e;have:=congrArg UInt8.toNat e;rw[ofNat_dig h]at this;simp at this;omega
 ·rw[dd_more ha hc,headD_append (dd_ne a)];exact ih ha
theorem list_snoc {α:Type} (l:List α) (h:l≠[]):∃ r c,l=r ++ [c]:=⟨l.dropLast,l.getLast h,(List.dropLast_concat_getLast h).symm⟩
theorem valN_pos:∀ (l:List UInt8) (n:Nat),l.length=n→l≠[]→l.all digB=true→l.headD 0≠48→1≤valN l∧Lib.decDigits (valN l)=l:=by
 intro l n
 induction n generalizing l with
 | zero=>intro h hne;exact absurd (List.eq_nil_of_length_eq_zero h) hne
 | succ n ih =>
  intro hl hne hd hh
  obtain ⟨r,c,rfl⟩:=list_snoc l hne;rw[List.all_append,Bool.and_eq_true]at hd;have hc:digB c=true:=by simpa using hd.2
  unfold digB at hc
  rw[decide_eq_true_eq]at hc;have ec:UInt8.ofNat (48+(c.toNat - 48))=c:=by
   apply UInt8.toNat.inj;rw[ofNat_dig (by omega)];omega
  rw[valN_snoc];by_cases hr:r=[]
  ·subst hr;have h48:c≠48:=by simpa using hh
   have:c.toNat≠48:=fun e=>h48 (UInt8.toNat.inj e)
   simp only[valN,List.foldl_nil,Nat.zero_mul,Nat.zero_add,List.nil_append];refine ⟨by omega,?_⟩
   rw[dd_one (by omega),ec]
  ·rw[headD_append hr]at hh;obtain ⟨p,q⟩:=ih r (by simpa using hl) hr hd.1 hh;refine ⟨by omega,?_⟩
   rw[dd_more p (by omega),q,ec]
theorem dd_len_lt (u k:Nat) (hk:1≤k) (h:u<10 ^ k):(Lib.decDigits u).length≤k:=by
 rw[Lib.decDigits_length];induction k generalizing u with
 | zero=>omega
 | succ k ih =>
  by_cases hu:u<10
  ·rw[Lib.nDigits_small hu];omega
  ·rw[Lib.nDigits_big hu];rw[Nat.pow_succ]at h;by_cases hk0:k=0
   ·subst hk0;omega
   ·have:=ih (u / 10) (by omega) (by omega);omega
theorem readT_dd (neg:Bool) (u:Nat) (hu:u≤9223372036854775808) (h0:neg=false→u<9223372036854775808) (h1:neg=true→1≤u):readT neg (Lib.decDigits u)=(if neg=true then -(u:Int) else (u:Int),0):=by
 have hl:(Lib.decDigits u).length≤19:=dd_len_lt u 19 (by omega) (Nat.lt_of_le_of_lt hu (by decide));unfold readT
 rw[if_neg,if_neg (by rw[dd_all];decide),if_neg (by omega),valN_dd]
 ·cases neg with
  | true=>simp[hu]
  | false=>simp[h0 rfl]
 ·intro h
  rcases h with h|⟨h,h'⟩
  ·exact dd_ne u h
  ·by_cases h1':1≤u
   ·exact dd_head u h1' h
   ·obtain rfl:u=0:=by omega
    rcases h' with h'|h'
    ·rw[dd_one (by omega)]at h';simp at h'
    ·have:=h1 h';omega
theorem readV_itoa (n:Int) (h0:-9223372036854775808≤n) (h1:n≤9223372036854775807):readV (Lib.itoa n)=(n,0):=by
 unfold readV Lib.itoa
 by_cases hn:n<0
 ·rw[if_pos hn,if_pos (show (45::Lib.decDigits n.natAbs).headD 0=45 from rfl),List.tail_cons,readT_dd true _ (by omega) (by simp) (by intro _;omega)];simp;omega
 ·rw[if_neg hn,if_neg,readT_dd false _ (by omega) (by intro _;omega) (by simp)]
  ·simp;omega
  ·intro h
   have:=dd_all n.toNat
   cases hd:Lib.decDigits n.toNat with
   | nil=>exact dd_ne _ hd
   | cons a r =>
    rw[hd]at h this;simp only[List.headD_cons]at h;subst h;simp[digB]at this
/-! strconv.Atoi at the same numerals -/
theorem parse10_dig:∀ (l:List UInt8) (a:Nat),l.all digB=true→l.foldl stepN a<18446744073709551616→Lib.parseUint10 a l=.ok (l.foldl stepN a)
 | [],a,_,_=>rfl
 | c::r,a,hd,hv=>by
  simp only[List.all_cons,Bool.and_eq_true]at hd;have hc:=hd.1;unfold digB at hc
  rw[decide_eq_true_eq]at hc;have mono:∀ (l:List UInt8) (a:Nat),a≤l.foldl stepN a:=by
   intro l
   induction l with
   | nil=>intro a;exact Nat.le_refl _
   | cons c r ih=>intro a;exact Nat.le_trans (by unfold stepN;omega) (ih (stepN a c))
  have h1:=mono r (stepN a c);simp only[List.foldl_cons]at hv ⊢;have h2:stepN a c<18446744073709551616:=Nat.lt_of_le_of_lt h1 hv;unfold stepN at h2
  simp only[Lib.parseUint10];rw[if_pos hc,if_neg (by omega),if_neg (by omega)];exact parse10_dig r _ hd.2 hv
/-! names of objects -/
end Go.Proofs.YtjnamjkdjcndiaaGreatDoor
