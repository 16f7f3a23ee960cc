/-
 Texts of integers in plain Lean: what value.integer answers is what ReadNumber answers.
-/
import Derived.Test.YtjnamjkdjcndiaaGreatDoorM8
import Derived.Lib.SlTrimSet
namespace Go.Proofs.YtjnamjkdjcndiaaGreatDoor
theorem readV_body (l:List UInt8):readV l=readT (negB l) (bodyL l):=by
 unfold readV bodyL negB
 by_cases h:l.headD 0=45
 ·rw[if_pos h,decide_eq_true h,if_pos rfl]
 ·rw[if_neg h,decide_eq_false h,if_neg (by decide)]
structure IntOk (l:List UInt8):Prop where
 ne:bodyL l≠[]
 all:(bodyL l).all digB=true
 z:¬((bodyL l).headD 0=48∧(1<(bodyL l).length∨negB l=true))
theorem readV_nil {l:List UInt8} (h:bodyL l=[]):readV l=(0,2):=by rw[readV_body];unfold readT;rw[if_pos (.inl h)]
theorem readV_lead {l:List UInt8} (h:(bodyL l).headD 0=48∧(1<(bodyL l).length∨negB l=true)):readV l=(0,2):=by rw[readV_body];unfold readT;rw[if_pos (.inr h)]
theorem readV_dig {l:List UInt8} (h:(bodyL l).all digB=false):readV l=(0,2):=by
 rw[readV_body];unfold readT;split
 ·rfl
 ·first | rfl | rw[if_pos h]
theorem int_form {l:List UInt8} (h:IntOk l):readV l=if 19<(bodyL l).length then (0,8)
  else if negB l=true then (if valN (bodyL l)≤9223372036854775808 then (-(valN (bodyL l):Int),0) else (0,8)) else if valN (bodyL l)<9223372036854775808 then ((valN (bodyL l):Int),0) else (0,8):=by
 rw[readV_body];unfold readT;rw[if_neg (fun e=>e.elim h.ne h.z),if_neg (by rw[h.all];decide)]
theorem int_len {l:List UInt8} (h:IntOk l) (hv:valN (bodyL l)≤9223372036854775808):¬19<(bodyL l).length:=by
 by_cases h0:(bodyL l).headD 0=48
 ·have:=h.z
  intro hl
  exact this ⟨h0,.inl (by omega)⟩
 ·obtain ⟨_,e⟩:=valN_pos (bodyL l) _ rfl h.ne h.all h0;have:=dd_len_lt (valN (bodyL l)) 19 (by decide) (Nat.lt_of_le_of_lt hv (by decide))
  rw[e]at this;omega
theorem body_head {l:List UInt8} (h:IntOk l):∃ c r,l=c::r∧(negB l=true→c=45∧r=bodyL l)∧(negB l=false→c.toNat≠43∧c.toNat≠45∧bodyL l=c::r):=by
 cases l with
 | nil=>exact absurd rfl h.ne
 | cons c r =>
  refine ⟨c,r,rfl,fun hn=>?_,fun hn=>?_⟩
  ·have e:c=45:=by unfold negB at hn;rw[decide_eq_true_eq]at hn;exact hn
   refine ⟨e,?_⟩
   unfold bodyL;rw[if_pos hn];rfl
  ·have e:bodyL (c::r)=c::r:=by unfold bodyL;rw[hn];rfl
   have ha:=h.all;rw[e]at ha;simp only[List.all_cons,Bool.and_eq_true]at ha;have hc:=ha.1;unfold digB at hc
   rw[decide_eq_true_eq]at hc;exact ⟨by omega,by omega,e⟩
theorem atoi_neg {l:List UInt8} (h:IntOk l) (hn:negB l=true):(∀ u,Lib.parseUint10 0 (bodyL l)=.ok u→Lib.atoiAll l=if 9223372036854775808<u then .range else .ok (-(u:Int)))∧((∀ u,Lib.parseUint10 0 (bodyL l)≠.ok u)→∀ v,Lib.atoiAll l≠.ok v):=by
 obtain ⟨c,r,e,h1,_⟩:=body_head h;obtain ⟨rfl,er⟩:=h1 hn;have hne:r≠[]:=by rw[er];exact h.ne
 rw[←er];constructor
 ·intro u hu
  rw[e];unfold Lib.atoiAll
  dsimp only;rw[if_pos (show (45:UInt8).toNat=43∨(45:UInt8).toNat=45 from .inr rfl)];unfold Lib.parseMag
  rw[if_neg hne,hu];dsimp only;rw[if_neg (fun x=>x.1 rfl)];by_cases hb:9223372036854775808<u
  ·rw[if_pos ⟨rfl,hb⟩,if_pos hb]
  ·rw[if_neg (fun x=>hb x.2),if_neg hb,if_pos (show (45:UInt8).toNat=45 from rfl)]
 ·intro hu v hv
  rw[e]at hv;unfold Lib.atoiAll at hv
  dsimp only at hv;rw[if_pos (show (45:UInt8).toNat=43∨(45:UInt8).toNat=45 from .inr rfl)]at hv;unfold Lib.parseMag at hv
  rw[if_neg hne]at hv;rcases hh:Lib.parseUint10 0 r with u|_|_
  ·exact hu u hh
  ·rw[hh]at hv;cases hv
  ·rw[hh]at hv;cases hv
theorem atoi_pos {l:List UInt8} (h:IntOk l) (hn:negB l=false):(∀ u,Lib.parseUint10 0 (bodyL l)=.ok u→Lib.atoiAll l=if 9223372036854775808≤u then .range else .ok (u:Int))∧((∀ u,Lib.parseUint10 0 (bodyL l)≠.ok u)→∀ v,Lib.atoiAll l≠.ok v):=by
 obtain ⟨c,r,e,_,h1⟩:=body_head h;obtain ⟨c1,c2,er⟩:=h1 hn;rw[er];constructor
 ·intro u hu
  rw[e];unfold Lib.atoiAll
  dsimp only;rw[if_neg (show ¬(c.toNat=43∨c.toNat=45) by omega)];unfold Lib.parseMag
  rw[if_neg (List.cons_ne_nil c r),hu];dsimp only;by_cases hb:9223372036854775808≤u
  ·rw[if_pos ⟨c2,hb⟩,if_pos hb]
  ·rw[if_neg (fun x=>hb x.2),if_neg (fun x=>c2 x.1),if_neg c2,if_neg hb]
 ·intro hu v hv
  rw[e]at hv;unfold Lib.atoiAll at hv
  dsimp only at hv;rw[if_neg (show ¬(c.toNat=43∨c.toNat=45) by omega)]at hv;unfold Lib.parseMag at hv
  rw[if_neg (List.cons_ne_nil c r)]at hv;rcases hh:Lib.parseUint10 0 (c::r) with u|_|_
  ·exact hu u hh
  ·rw[hh]at hv;cases hv
  ·rw[hh]at hv;cases hv
theorem uint_cases {t:List UInt8} (ha:t.all digB=true):Lib.parseUint10 0 t=.ok (valN t)∨((∀ u,Lib.parseUint10 0 t≠.ok u)∧18446744073709551616≤valN t):=by
 by_cases hv:valN t<18446744073709551616
 ·exact .inl (parse10_dig t 0 ha hv)
 ·by_cases hx:∃ u,Lib.parseUint10 0 t=.ok u
  ·obtain ⟨u,hu⟩:=hx;have:=parse10_ok t 0 u ha hu
   exact .inl (by rw[hu,this];rfl)
  ·exact .inr ⟨fun u hu=>hx ⟨u,hu⟩,by omega⟩
theorem pint_int {l:List UInt8} (h:IntOk l):(∃ v,Lib.parseIntB 64 l=.ok v∧readV l=(v,0))∨((∀ v,Lib.parseIntB 64 l≠.ok v)∧readV l=(0,8)):=by
 rw[Lib.parseIntB_64,int_form h];have hc:=uint_cases h.all;cases hn:negB l with
 | true =>
  obtain ⟨a1,a2⟩:=atoi_neg h hn;rw[if_pos rfl];rcases hc with hu|⟨hu,hb⟩
  ·have e:=a1 _ hu;by_cases hv:valN (bodyL l)≤9223372036854775808
   ·rw[if_neg (by omega)]at e;exact .inl ⟨_,e,by rw[if_neg (int_len h hv),if_pos hv]⟩
   ·rw[if_pos (by omega)]at e;refine .inr ⟨fun v hh=>(by rw[e]at hh;cases hh),?_⟩
    rw[if_neg hv];split <;> rfl
  ·refine .inr ⟨a2 hu,?_⟩
   rw[if_neg (show ¬(valN (bodyL l)≤9223372036854775808) by omega)];split <;> rfl
 | false =>
  obtain ⟨a1,a2⟩:=atoi_pos h hn;rw[if_neg (show ¬(false=true) by decide)];rcases hc with hu|⟨hu,hb⟩
  ·have e:=a1 _ hu;by_cases hv:valN (bodyL l)<9223372036854775808
   ·rw[if_neg (by omega)]at e;exact .inl ⟨_,e,by rw[if_neg (int_len h (by omega)),if_pos hv]⟩
   ·rw[if_pos (by omega)]at e;refine .inr ⟨fun v hh=>(by rw[e]at hh;cases hh),?_⟩
    rw[if_neg hv];split <;> rfl
  ·refine .inr ⟨a2 hu,?_⟩
   rw[if_neg (show ¬(valN (bodyL l)<9223372036854775808) by omega)];split <;> rfl
def digS:List UInt8:=[48,49,50,51,52,53,54,55,56,57]
theorem digS_eq (c:UInt8):digS.contains c=digB c:=by
 have:∀ n:Fin 256,digS.contains (UInt8.ofNat n.val)=digB (UInt8.ofNat n.val):=by decide +kernel
 have h:=this ⟨c.toNat,c.toNat_lt⟩;rwa [show UInt8.ofNat c.toNat=c from UInt8.ofNat_toNat]at h
theorem trimS_yes {l:List UInt8} (h:l.all digB=true):Lib.trimS l digS=[]:=by
 have hm:∀ x ∈ l.reverse,digS.contains x=true:=fun x hx=>by rw[digS_eq];exact all_mem h x (List.mem_reverse.1 hx)
 unfold Lib.trimS Lib.trimLeftS Lib.trimRightS
 rw[nil_dw _ l.reverse hm];rfl
theorem trimS_no {l:List UInt8} (h:l.all digB=false):Lib.trimS l digS≠[]:=by
 intro e
 unfold Lib.trimS Lib.trimLeftS Lib.trimRightS at e
 have h1:=dw_nil _ _ e;cases hd:l.reverse.dropWhile (digS.contains ·) with
 | nil =>
  have h2:=dw_nil _ _ hd;have h3:l.all digB=true:=by
   rw[List.all_eq_true];intro x hx
   rw[←digS_eq];exact h2 x (List.mem_reverse.2 hx)
  rw[h3]at h;cases h
 | cons y r =>
  have h3:=dw_head _ _ y r hd;have h4:=h1 y (by rw[hd,List.mem_reverse];exact List.mem_cons_self ..);rw[h4]at h3;cases h3
end Go.Proofs.YtjnamjkdjcndiaaGreatDoor
