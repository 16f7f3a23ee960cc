/-
  Words, plain laws and contracts on which the walks lean, in one text.
-/
import Derived.Test.YtjnamjkdjcndiaaGreatDoorM15
import Derived.Test.YtjnamjkdjcndiaaGreatDoorVPar
import Derived.Test.YtjnamjkdjcndiaaGreatDoorM10
namespace Go.Proofs.YtjnamjkdjcndiaaGreatDoor
def sk (T:List UInt8) (i:Nat):Nat:=i+((T.drop i).takeWhile fun b=>b==32).length
def wdB (b:UInt8):Bool:=!(b==32 || b==40 || b==41)
def wd (T:List UInt8) (i:Nat):List UInt8:=(T.drop i).takeWhile wdB
def we (T:List UInt8) (i:Nat):Nat:=i+(wd T i).length
theorem sk_go {T:List UInt8} {i:Nat} (h:T[i]?=some 32):sk T i=sk T (i+1):=by
 have hl:=(List.getElem?_eq_some_iff.1 h).1;have e:T.drop i=32::T.drop (i+1):=by rw[List.drop_eq_getElem_cons hl];congr 1;exact (List.getElem?_eq_some_iff.1 h).2
 unfold sk
 rw[e];simp;omega
theorem sk_stop {T:List UInt8} {i:Nat} (h:T[i]?≠some 32):sk T i=i:=by
 unfold sk
 by_cases hl:i<T.length
 ·rw[List.drop_eq_getElem_cons hl];have:(T[i]==32)=false:=by
   rw[List.getElem?_eq_getElem hl]at h;simpa using h
  rw[List.takeWhile_cons_of_neg (by simp[this])];rfl
 ·rw[List.drop_eq_nil_of_le (by omega)];rfl
theorem sk_ge (T:List UInt8) (i:Nat):i≤sk T i:=by unfold sk;omega
theorem sk_le {T:List UInt8} {i:Nat} (h:i≤T.length):sk T i≤T.length:=by
 have h1:=(List.takeWhile_sublist (fun b:UInt8=>b==32) (l:=T.drop i)).length_le;rw[List.length_drop]at h1;unfold sk;omega
theorem sk_at {T:List UInt8}:∀ (n i:Nat),T.length - i=n→T[sk T i]?≠some 32:=by
 intro n
 induction n with
 | zero =>
  intro i h
  rw[sk_stop (by rw[List.getElem?_eq_none (by omega)];simp),List.getElem?_eq_none (by omega)];simp
 | succ n ih =>
  intro i h
  by_cases hs:T[i]?=some 32
  ·rw[sk_go hs];exact ih (i+1) (by omega)
  ·rw[sk_stop hs];exact hs
theorem wd_go {T:List UInt8} {i:Nat} {b:UInt8} (h:T[i]?=some b) (hb:wdB b=true):wd T i=b::wd T (i+1):=by
 have hl:=(List.getElem?_eq_some_iff.1 h).1;have e:T.drop i=b::T.drop (i+1):=by rw[List.drop_eq_getElem_cons hl];congr 1;exact (List.getElem?_eq_some_iff.1 h).2
 unfold wd
 rw[e,List.takeWhile_cons_of_pos hb]
theorem wd_stop {T:List UInt8} {i:Nat} {b:UInt8} (h:T[i]?=some b) (hb:wdB b=false):wd T i=[]:=by
 have hl:=(List.getElem?_eq_some_iff.1 h).1;have e:T.drop i=b::T.drop (i+1):=by rw[List.drop_eq_getElem_cons hl];congr 1;exact (List.getElem?_eq_some_iff.1 h).2
 unfold wd
 rw[e,List.takeWhile_cons_of_neg (by simp[hb])]
theorem wd_end {T:List UInt8} {i:Nat} (h:T.length≤i):wd T i=[]:=by unfold wd;rw[List.drop_eq_nil_of_le h];rfl
theorem we_go {T:List UInt8} {i:Nat} {b:UInt8} (h:T[i]?=some b) (hb:wdB b=true):we T i=we T (i+1):=by unfold we;rw[wd_go h hb,List.length_cons];omega
theorem we_stop {T:List UInt8} {i:Nat} (h:wd T i=[]):we T i=i:=by unfold we;rw[h];rfl
theorem we_ge (T:List UInt8) (i:Nat):i≤we T i:=by unfold we;omega
theorem we_le {T:List UInt8} {i:Nat} (h:i≤T.length):we T i≤T.length:=by
 have h1:=(List.takeWhile_sublist wdB (l:=T.drop i)).length_le;rw[List.length_drop]at h1;unfold we wd;omega
theorem wd_slice (T:List UInt8) (i:Nat):(T.drop i).take (we T i - i)=wd T i:=by
 unfold we wd
 rw[Nat.add_sub_cancel_left];exact (List.prefix_iff_eq_take.1 (List.takeWhile_prefix _)).symm
def expP (T:List UInt8) (b:UInt8) (i:Nat):Except (Nat×Int) Nat:=if T[sk T i]?=some b then .ok (sk T i+1) else .error (sk T i,2)
def opW (l:List UInt8):Nat:=(((List.range 11).find? fun (k:Nat)=>wordP ((k:Int)+1)==l).map fun k=>k+1).getD 0
def colP (cs:List Col) (T:List UInt8) (i:Nat):Except (Nat×Int) (Nat×Nat) :=
 if wd T (sk T i)=[] then .error (sk T i,2)
 else if findC cs ⟨(wd T (sk T i)).toArray⟩ < 0 then .error (sk T i,3) else .ok (we T (sk T i),(findC cs ⟨(wd T (sk T i)).toArray⟩).toNat)
def vlP (r:Bool×Int×List UInt8):Vl:=⟨r.1,r.2.1,⟨r.2.2.toArray⟩⟩
def valC (c:Col) (T:List UInt8) (i:Nat):Except (Nat×Int) (Nat×Vl) :=
 if wd T (sk T i)=[] then .error (sk T i,2)
 else if (vparV c.ty c.sc false (wd T (sk T i))).2≠0 then .error (sk T i,(vparV c.ty c.sc false (wd T (sk T i))).2)
 else .ok (we T (sk T i),vlP (vparV c.ty c.sc false (wd T (sk T i))).1)
def lstP (c:Col) (T:List UInt8):Nat→Nat→List Vl→Except (Nat×Int) (Nat×List Vl)
 | 0,_,_=>.error (0,0)
 | f+1,i,l =>
  if wd T (sk T i)=[] then (if l.length=0 then .error (sk T i,2) else .ok (sk T i,l))
  else if l.length=16 then .error (sk T i,7)
  else if (vparV c.ty c.sc true (wd T (sk T i))).2≠0 then .error (sk T i,(vparV c.ty c.sc true (wd T (sk T i))).2)
  else lstP c T f (we T (sk T i)) (l ++ [vlP (vparV c.ty c.sc true (wd T (sk T i))).1])
def leafR (cs:List Col) (T:List UInt8) (op:Nat) (i:Nat):Except (Nat×Int) (Nat×Nd) :=
 match colP cs T i with
 | .error e=>.error e
 | .ok (i2,K) =>
  if op=8 then .ok (i2,⟨8,K,v0,[],0,0⟩) else match cs[K]? with
   | none=>.error (0,0)
   | some c=>if op=7 then (match lstP c T 17 i2 [] with
     | .error e=>.error e
     | .ok (i3,l)=>.ok (i3,⟨7,K,v0,l,0,0⟩))
    else match valC c T i2 with
     | .error e=>.error e
     | .ok (i3,v)=>.ok (i3,⟨op,K,v,[],0,0⟩)
def argP (cs:List Col) (T:List UInt8) (rec:Nat→List Nd→Except (Nat×Int) (Nat×List Nd)) (op:Nat) (i:Nat) (acc:List Nd):Except (Nat×Int) (Nat×Nd×List Nd) :=
 if op=9∨op=10 then (match rec i acc with
  | .error e=>.error e
  | .ok (i2,a2)=>match rec i2 a2 with
   | .error e=>.error e
   | .ok (i3,a3)=>.ok (i3,⟨op,0,v0,[],(a2.length:Int) - 1,(a3.length:Int) - 1⟩,a3))
 else if op=11 then (match rec i acc with
  | .error e=>.error e
  | .ok (i2,a2)=>.ok (i2,⟨11,0,v0,[],(a2.length:Int) - 1,0⟩,a2))
 else match leafR cs T op i with
  | .error e=>.error e
  | .ok (i2,x)=>.ok (i2,x,acc)
def parN (cs:List Col) (T:List UInt8):Nat→Nat→List Nd→Except (Nat×Int) (Nat×List Nd)
 | 0,_,_=>.error (0,0)
 | f+1,i,acc=>match expP T 40 i with
  | .error e=>.error e
  | .ok i1=>if opW (wd T (sk T i1))=0 then .error (sk T i1,2)
   else match argP cs T (parN cs T f) (opW (wd T (sk T i1))) (we T (sk T i1)) acc with
    | .error e=>.error e
    | .ok (i2,x,a2)=>match expP T 41 i2 with
     | .error e=>.error e
     | .ok i3=>if a2.length=64 then .error (i3 - 1,7) else .ok (i3,a2 ++ [x])
noncomputable def parP (cs:List Col) (key:Int) (T:List UInt8):List Nd×Nat×Int :=
 if schkV cs key≠0 then ([],0,schkV cs key) else if 65536<T.length then ([],0,7) else if T.length=0 then ([],0,0)
 else match parN cs T (T.length+1) 0 [] with
  | .error (j,e)=>([],j,e)
  | .ok (i,l)=>if sk T i<T.length then ([],sk T i,2) else (l,0,0)
theorem expP_ok {T:List UInt8} {b:UInt8} {i j:Nat} (h:expP T b i=.ok j):j=sk T i+1∧T[sk T i]?=some b∧i<j∧j≤T.length:=by
 unfold expP at h
 by_cases hb:T[sk T i]?=some b
 ·rw[if_pos hb]at h;injection h with h
  have:=sk_ge T i
  have:=(List.getElem?_eq_some_iff.1 hb).1
  exact ⟨h.symm,hb,by omega,by omega⟩
 ·rw[if_neg hb]at h;cases h
theorem vpar_rest_null {t k:Int} {cn:Bool} {l:List UInt8} (hl:l≠[110,117,108,108]):(vparV t k cn l).1.1=false∧vparV t k cn l=vparV t k false l:=by
 by_cases h:(t<1∨5<t)∨(t=5∧scaB k=false)
 ·rw[vpar_bad h,vpar_bad h];exact ⟨rfl,rfl⟩
 ·rw[vpar_rest h hl,vpar_rest h hl];refine ⟨?_,rfl⟩
  have hn:∀ r:Int×Int,(outN r).1.1=false:=fun r=>by unfold outN;split <;> rfl
  repeat' split
  ·exact hn _
  ·unfold boolV
   split
   ·rfl
   ·split <;> rfl
  ·unfold vbyt
   repeat' split
   all_goals rfl
  ·exact hn _
  ·exact hn _
theorem val_same (t k:Int) (cn:Bool) (l:List UInt8):(if (vparV t k cn l).2=0∧(vparV t k cn l).1.1=true then (12:Int) else (vparV t k cn l).2)=(vparV t k false l).2∧((vparV t k false l).2=0→(vparV t k cn l).1=(vparV t k false l).1):=by
 by_cases hl:l=[110,117,108,108]
 ·by_cases h:(t<1∨5<t)∨(t=5∧scaB k=false)
  ·rw[vpar_bad h,vpar_bad h];exact ⟨rfl,fun _=>rfl⟩
  ·rw[vpar_null h hl,vpar_null h hl];cases cn <;> exact ⟨rfl,fun h=>by cases h⟩
 ·obtain ⟨h1,h2⟩:=vpar_rest_null (t:=t) (k:=k) (cn:=cn) hl;rw[if_neg (by rw[h1];simp),←h2];exact ⟨rfl,fun _=>rfl⟩
def flushT:List UInt8→List (List UInt8)
 | []=>[]
 | c=>[c]
def toksA:List UInt8→List UInt8→List (List UInt8)
 | cur,[]=>flushT cur
 | cur,b::r=>if b=32 then flushT cur++toksA [] r else if b=40∨b=41 then flushT cur ++ [b]::toksA [] r else toksA (cur ++ [b]) r
def tk (T:List UInt8) (i:Nat):List (List UInt8):=toksA [] (T.drop i)
theorem flush_ne {c:List UInt8} (h:c≠[]):flushT c=[c]:=by
 cases c with
 | nil=>exact absurd rfl h
 | cons=>rfl
theorem toks_sp (cur r:List UInt8):toksA cur (32::r)=flushT cur++toksA [] r:=by rw[toksA,if_pos rfl]
theorem toks_par (cur r:List UInt8) {b:UInt8} (h:b=40∨b=41):toksA cur (b::r)=flushT cur ++ [b]::toksA [] r:=by
 rw[toksA,if_neg (by rcases h with rfl | rfl <;> decide),if_pos h]
theorem wdB_ne {b:UInt8} (h:wdB b=true):b≠32∧¬(b=40∨b=41):=by
 unfold wdB at h
 simp at h
 exact ⟨h.1.1,by rintro (e | e);exact h.1.2 e;exact h.2 e⟩
theorem wdB_not {b:UInt8} (h:wdB b=false):b=32∨b=40∨b=41:=by
 by_cases h1:b=32
 ·exact .inl h1
 ·by_cases h2:b=40
  ·exact .inr (.inl h2)
  ·by_cases h3:b=41
   ·exact .inr (.inr h3)
   ·unfold wdB at h;simp[h1,h2,h3]at h
theorem toks_word:∀ (W cur R:List UInt8),(∀ b ∈ W,wdB b=true)→toksA cur (W++R)=toksA (cur++W) R
 | [],cur,R,_=>by simp
 | b::W,cur,R,h=>by
  have hb:=wdB_ne (h b (by simp));rw[List.cons_append,toksA,if_neg hb.1,if_neg hb.2,toks_word W (cur ++ [b]) R (fun x hx=>h x (by simp[hx]))];simp
theorem toks_done {c:List UInt8} (hc:c≠[]):∀ (R:List UInt8),(∀ b,R.head?=some b→wdB b=false)→toksA c R=c::toksA [] R
 | [],_=>by rw[toksA,toksA,flush_ne hc];rfl
 | b::r,h=>by
  rcases wdB_not (h b rfl) with rfl|e
  ·rw[toks_sp,toks_sp,flush_ne hc];rfl
  ·rw[toks_par _ _ e,toks_par _ _ e,flush_ne hc];rfl
theorem drop_is {T:List UInt8} {i:Nat} {b:UInt8} (h:T[i]?=some b):T.drop i=b::T.drop (i+1):=by
 have hl:=(List.getElem?_eq_some_iff.1 h).1;rw[List.drop_eq_getElem_cons hl];congr 1;exact (List.getElem?_eq_some_iff.1 h).2
theorem tk_sk {T:List UInt8}:∀ (n i:Nat),T.length - i=n→tk T (sk T i)=tk T i:=by
 intro n
 induction n with
 | zero =>
  intro i h
  rw[sk_stop (by rw[List.getElem?_eq_none (by omega)];simp)]
 | succ n ih =>
  intro i h
  by_cases hs:T[i]?=some 32
  ·rw[sk_go hs,ih (i+1) (by omega)];unfold tk
   rw[drop_is hs,toks_sp];rfl
  ·rw[sk_stop hs]
theorem tk_end {T:List UInt8} {i:Nat} (h:T[i]?=none):tk T i=[]:=by
 unfold tk
 rw[List.drop_eq_nil_of_le (by simpa using h)];rfl
theorem tk_par {T:List UInt8} {i:Nat} {b:UInt8} (h:T[i]?=some b) (hb:b=40∨b=41):tk T i=[b]::tk T (i+1):=by
 unfold tk
 rw[drop_is h,toks_par _ _ hb];rfl
theorem wd_all (T:List UInt8) (i:Nat):∀ b ∈ wd T i,wdB b=true:=by
 intro b hb
 unfold wd at hb
 have:∀ (l:List UInt8),b ∈ l.takeWhile wdB→wdB b=true:=by
  intro l
  induction l with
  | nil=>intro h;simp at h
  | cons a r ih =>
   intro h
   rw[List.takeWhile_cons]at h;split at h
   ·rename_i ha
    rcases List.mem_cons.1 h with rfl|h
    ·exact ha
    ·exact ih h
   ·simp at h
 exact this _ hb
theorem drop_wd (T:List UInt8) (i:Nat):T.drop i=wd T i++T.drop (we T i):=by
 have h:T.drop (we T i)=(T.drop i).dropWhile wdB:=by
  unfold we wd
  rw[←List.drop_drop];have:∀ l:List UInt8,l.drop (l.takeWhile wdB).length=l.dropWhile wdB:=by
   intro l
   induction l with
   | nil=>rfl
   | cons a r ih =>
    rw[List.takeWhile_cons,List.dropWhile_cons];split
    ·exact ih
    ·rfl
  exact this _
 rw[h];exact (List.takeWhile_append_dropWhile).symm
theorem we_head (T:List UInt8) (i:Nat):∀ b,(T.drop (we T i)).head?=some b→wdB b=false:=by
 intro b hb
 have h:T.drop (we T i)=(T.drop i).dropWhile wdB:=by
  have h1:=drop_wd T i;have h2:T.drop i=(T.drop i).takeWhile wdB++(T.drop i).dropWhile wdB:=(List.takeWhile_append_dropWhile).symm;rw[h2]at h1;exact (List.append_cancel_left h1).symm
 rw[h]at hb;have:∀ l:List UInt8,(l.dropWhile wdB).head?=some b→wdB b=false:=by
  intro l
  induction l with
  | nil=>intro h;simp at h
  | cons a r ih =>
   rw[List.dropWhile_cons];split
   ·exact ih
   ·rename_i ha
    intro h
    simp at h
    subst h;simpa using ha
 exact this _ hb
theorem tk_word {T:List UInt8} {i:Nat} (h:wd T i≠[]):tk T i=wd T i::tk T (we T i):=by
 unfold tk
 rw[drop_wd T i,toks_word _ _ _ (wd_all T i),List.nil_append,toks_done h _ (we_head T i)]
def wdT:List (List UInt8)→List UInt8×List (List UInt8)
 | []=>([],[])
 | t::r=>if t=[40]∨t=[41] then ([],t::r) else (t,r)
def expT (b:UInt8):List (List UInt8)→Except Int (List (List UInt8))
 | []=>.error 2
 | t::r=>if t=[b] then .ok r else .error 2
theorem wd_nopar {T:List UInt8} {i:Nat} {b:UInt8} (hb:b=40∨b=41):wd T i≠[b]:=by
 intro h
 have:=wdB_ne (wd_all T i b (by rw[h];simp))
 exact this.2 hb
theorem tk_cases (T:List UInt8) (i:Nat):(T[sk T i]?=none∧tk T i=[]∧wd T (sk T i)=[])∨(∃ b,(b=40∨b=41)∧T[sk T i]?=some b∧tk T i=[b]::tk T (sk T i+1)∧wd T (sk T i)=[])∨(∃ b,T[sk T i]?=some b∧wdB b=true∧wd T (sk T i)≠[]∧tk T i=wd T (sk T i)::tk T (we T (sk T i))):=by
 have hk:=tk_sk (T:=T) _ i rfl;have ha:=sk_at (T:=T) _ i rfl;rw[←hk];cases h:T[sk T i]? with
 | none=>exact .inl ⟨rfl,tk_end h,wd_end (by simpa using h)⟩
 | some b =>
  cases hw:wdB b with
  | false =>
   rcases wdB_not hw with rfl|e
   ·exact absurd h ha
   ·exact .inr (.inl ⟨b,e,rfl,tk_par h e,wd_stop h hw⟩)
  | true =>
   have hne:wd T (sk T i)≠[]:=by rw[wd_go h hw];simp
   exact .inr (.inr ⟨b,rfl,hw,hne,tk_word hne⟩)
theorem wd_tok (T:List UInt8) (i:Nat):wdT (tk T i)=(wd T (sk T i),tk T (we T (sk T i))):=by
 rcases tk_cases T i with ⟨_,h1,h2⟩|⟨b,hb,_,h1,h2⟩|⟨b,_,_,h0,h1⟩
 ·rw[we_stop h2,tk_sk _ i rfl,h1,h2];rfl
 ·rw[we_stop h2,tk_sk _ i rfl,h2,h1];show (if _ then _ else _)=_
  rw[if_pos (by rcases hb with rfl | rfl <;> simp)]
 ·rw[h1];show (if _ then _ else _)=_
  rw[if_neg (by rintro (h | h);exact wd_nopar (.inl rfl) h;exact wd_nopar (.inr rfl) h)]
def erT {α:Type} (T:List UInt8):Except (Nat×Int) (Nat×α)→Except Int (List (List UInt8)×α)
 | .ok (j,x)=>.ok (tk T j,x)
 | .error (_,e)=>.error e
def erN (T:List UInt8):Except (Nat×Int) Nat→Except Int (List (List UInt8))
 | .ok j=>.ok (tk T j)
 | .error (_,e)=>.error e
theorem exp_tok {b:UInt8} (hb:b=40∨b=41) (T:List UInt8) (i:Nat):erN T (expP T b i)=expT b (tk T i):=by
 unfold expP
 rcases tk_cases T i with ⟨h0,h1,_⟩|⟨c,hc,h0,h1,_⟩|⟨c,h0,hw,h2,h1⟩
 ·rw[h0,h1,if_neg (by simp)];rfl
 ·rw[h0,h1];by_cases e:c=b
  ·subst e;rw[if_pos rfl];show _=if _ then _ else _;rw[if_pos rfl];rfl
  ·rw[if_neg (by simpa using e)];show _=if _ then _ else _;rw[if_neg (by simpa using e)];rfl
 ·rw[h0,h1,if_neg (by intro h;injection h with h;subst h;exact (wdB_ne hw).2 hb)];show _=if _ then _ else _
  rw[if_neg (wd_nopar hb)];rfl
def colT (cs:List Col) (ts:List (List UInt8)):Except Int (List (List UInt8)×Nat) :=
 if (wdT ts).1=[] then .error 2
 else if findC cs ⟨(wdT ts).1.toArray⟩ < 0 then .error 3 else .ok ((wdT ts).2,(findC cs ⟨(wdT ts).1.toArray⟩).toNat)
def valT (c:Col) (ts:List (List UInt8)):Except Int (List (List UInt8)×Vl) :=
 if (wdT ts).1=[] then .error 2
 else if (vparV c.ty c.sc false (wdT ts).1).2≠0 then .error (vparV c.ty c.sc false (wdT ts).1).2
 else .ok ((wdT ts).2,vlP (vparV c.ty c.sc false (wdT ts).1).1)
def lstT (c:Col):Nat→List (List UInt8)→List Vl→Except Int (List (List UInt8)×List Vl)
 | 0,_,_=>.error 0
 | f+1,ts,l =>
  if (wdT ts).1=[] then (if l.length=0 then .error 2 else .ok (ts,l))
  else if l.length=16 then .error 7
  else if (vparV c.ty c.sc true (wdT ts).1).2≠0 then .error (vparV c.ty c.sc true (wdT ts).1).2
  else lstT c f (wdT ts).2 (l ++ [vlP (vparV c.ty c.sc true (wdT ts).1).1])
def leafT (cs:List Col) (op:Nat) (ts:List (List UInt8)):Except Int (List (List UInt8)×Nd) :=
 match colT cs ts with
 | .error e=>.error e
 | .ok (t2,K) =>
  if op=8 then .ok (t2,⟨8,K,v0,[],0,0⟩) else match cs[K]? with
   | none=>.error 0
   | some c=>if op=7 then (match lstT c 17 t2 [] with
     | .error e=>.error e
     | .ok (t3,l)=>.ok (t3,⟨7,K,v0,l,0,0⟩))
    else match valT c t2 with
     | .error e=>.error e
     | .ok (t3,v)=>.ok (t3,⟨op,K,v,[],0,0⟩)
def argT (cs:List Col) (rec:List (List UInt8)→List Nd→Except Int (List (List UInt8)×List Nd)) (op:Nat) (ts:List (List UInt8)) (acc:List Nd):Except Int (List (List UInt8)×Nd×List Nd) :=
 if op=9∨op=10 then (match rec ts acc with
  | .error e=>.error e
  | .ok (t2,a2)=>match rec t2 a2 with
   | .error e=>.error e
   | .ok (t3,a3)=>.ok (t3,⟨op,0,v0,[],(a2.length:Int) - 1,(a3.length:Int) - 1⟩,a3))
 else if op=11 then (match rec ts acc with
  | .error e=>.error e
  | .ok (t2,a2)=>.ok (t2,⟨11,0,v0,[],(a2.length:Int) - 1,0⟩,a2))
 else match leafT cs op ts with
  | .error e=>.error e
  | .ok (t2,x)=>.ok (t2,x,acc)
def parT (cs:List Col):Nat→List (List UInt8)→List Nd→Except Int (List (List UInt8)×List Nd)
 | 0,_,_=>.error 0
 | f+1,ts,acc=>match expT 40 ts with
  | .error e=>.error e
  | .ok t1=>if opW (wdT t1).1=0 then .error 2
   else match argT cs (parT cs f) (opW (wdT t1).1) (wdT t1).2 acc with
    | .error e=>.error e
    | .ok (t2,x,a2)=>match expT 41 t2 with
     | .error e=>.error e
     | .ok t3=>if a2.length=64 then .error 7 else .ok (t3,a2 ++ [x])
theorem col_tok (cs:List Col) (T:List UInt8) (i:Nat):erT T (colP cs T i)=colT cs (tk T i):=by
 unfold colP colT
 rw[wd_tok];show _=if wd T (sk T i)=[] then _ else if findC cs ⟨(wd T (sk T i)).toArray⟩ < 0 then _ else _
 split
 ·rfl
 ·split
  ·rfl
  ·rfl
theorem val_tok (c:Col) (T:List UInt8) (i:Nat):erT T (valC c T i)=valT c (tk T i):=by
 unfold valC valT
 rw[wd_tok];show _=if wd T (sk T i)=[] then _ else if (vparV c.ty c.sc false (wd T (sk T i))).2≠0 then _ else _
 split
 ·rfl
 ·split
  ·rfl
  ·rfl
theorem lst_tok (c:Col) (T:List UInt8):∀ (f i:Nat) (l:List Vl),erT T (lstP c T f i l)=lstT c f (tk T i) l
 | 0,_,_=>rfl
 | f+1,i,l=>by
  unfold lstP lstT
  rw[wd_tok];show _=if wd T (sk T i)=[] then _ else if l.length=16 then _ else if (vparV c.ty c.sc true (wd T (sk T i))).2≠0 then _ else _
  split
  ·split
   ·rfl
   ·show Except.ok (tk T (sk T i),l)=_;rw[tk_sk _ i rfl]
  ·split
   ·rfl
   ·split
    ·rfl
    ·exact lst_tok c T f _ _
theorem leaf_tok (cs:List Col) (T:List UInt8) (op i:Nat):erT T (leafR cs T op i)=leafT cs op (tk T i):=by
 unfold leafR leafT
 rw[←col_tok];cases h:colP cs T i with
 | error e=>rfl
 | ok r =>
  obtain ⟨i2,K⟩:=r;show erT T (if op=8 then _ else _)=if op=8 then _ else _
  split
  ·rfl
  ·cases hc:cs[K]? with
   | none=>rfl
   | some c =>
    show erT T (if op=7 then _ else _)=if op=7 then _ else _
    split
    ·rw[←lst_tok];cases lstP c T 17 i2 [] with
     | error e=>rfl
     | ok r=>rfl
    ·rw[←val_tok];cases valC c T i2 with
     | error e=>rfl
     | ok r=>rfl
theorem arg_tok (cs:List Col) (T:List UInt8) {rec:Nat→List Nd→Except (Nat×Int) (Nat×List Nd)} {rec':List (List UInt8)→List Nd→Except Int (List (List UInt8)×List Nd)} (hr:∀ i acc,erT T (rec i acc)=rec' (tk T i) acc) (op i:Nat) (acc:List Nd) :
  erT T (argP cs T rec op i acc)=argT cs rec' op (tk T i) acc:=by
 unfold argP argT
 split
 ·rw[←hr];cases rec i acc with
  | error e=>rfl
  | ok r =>
   obtain ⟨i2,a2⟩:=r;show erT T (match rec i2 a2 with | .error e=>_ | .ok (i3,a3)=>_)=match rec' (tk T i2) a2 with | .error e=>_ | .ok (t3,a3)=>_
   rw[←hr];cases rec i2 a2 with
   | error e=>rfl
   | ok r=>rfl
 ·split
  ·rw[←hr];cases rec i acc with
   | error e=>rfl
   | ok r=>rfl
  ·rw[←leaf_tok];cases leafR cs T op i with
   | error e=>rfl
   | ok r=>rfl
theorem par_tok (cs:List Col) (T:List UInt8):∀ (f i:Nat) (acc:List Nd),erT T (parN cs T f i acc)=parT cs f (tk T i) acc
 | 0,_,_=>rfl
 | f+1,i,acc=>by
  unfold parN parT
  rw[←exp_tok (.inl rfl)];cases expP T 40 i with
  | error e=>rfl
  | ok i1 =>
   show erT T (if opW (wd T (sk T i1))=0 then _ else _)=if opW (wdT (tk T i1)).1=0 then _ else _
   rw[wd_tok];show _=if opW (wd T (sk T i1))=0 then _ else _
   split
   ·rfl
   ·have ih:=arg_tok cs T (rec:=parN cs T f) (rec':=parT cs f) (fun i acc=>par_tok cs T f i acc) (opW (wd T (sk T i1))) (we T (sk T i1)) acc;show _=match argT cs (parT cs f) (opW (wd T (sk T i1))) (tk T (we T (sk T i1))) acc with | .error e=>_ | .ok (t2,x,a2)=>_
    rw[←ih];cases argP cs T (parN cs T f) (opW (wd T (sk T i1))) (we T (sk T i1)) acc with
    | error e=>rfl
    | ok r =>
     obtain ⟨i2,x,a2⟩:=r;show erT T (match expP T 41 i2 with | .error e=>_ | .ok i3=>_)=match expT 41 (tk T i2) with | .error e=>_ | .ok t3=>_
     rw[←exp_tok (.inr rfl)];cases expP T 41 i2 with
     | error e=>rfl
     | ok i3 =>
      show erT T (if a2.length=64 then _ else _)=if a2.length=64 then _ else _
      split
      ·rfl
      ·rfl
theorem sk_end_tok (T:List UInt8) (i:Nat):sk T i<T.length ↔ tk T i≠[]:=by
 rcases tk_cases T i with ⟨h0,h1,_⟩|⟨b,_,h0,h1,_⟩|⟨b,h0,_,_,h1⟩
 ·rw[h1];simp only[ne_eq,not_true_eq_false,iff_false,Nat.not_lt];simpa using h0
 ·rw[h1];exact ⟨fun _=>by simp,fun _=>(List.getElem?_eq_some_iff.1 h0).1⟩
 ·rw[h1];exact ⟨fun _=>by simp,fun _=>(List.getElem?_eq_some_iff.1 h0).1⟩
theorem parP_tok {cs:List Col} {key:Int} {T:List UInt8} (hs:schkV cs key=0) (hl:T.length≤65536) (hn:T≠[]) :
  ((parP cs key T).1,(parP cs key T).2.2)=match parT cs (T.length+1) (toksA [] T) [] with
   | .error e=>([],e)
   | .ok (ts,l)=>if ts≠[] then ([],2) else (l,0):=by
 have h:=par_tok cs T (T.length+1) 0 [];have h0:tk T 0=toksA [] T:=rfl;rw[h0]at h;rw[←h];unfold parP
 rw[if_neg (by rw[hs];simp),if_neg (by omega),if_neg (by intro e;exact hn (List.length_eq_zero_iff.1 e))];cases parN cs T (T.length+1) 0 [] with
 | error e=>rfl
 | ok r =>
  obtain ⟨i,l⟩:=r;show _=if tk T i≠[] then _ else _
  by_cases ht:tk T i=[]
  ·rw[if_neg (by simpa using ht)];show ((if sk T i<T.length then ([],sk T i,2) else (l,0,0):List Nd×Nat×Int).1,(if sk T i<T.length then ([],sk T i,2) else (l,0,0):List Nd×Nat×Int).2.2)=_
   rw[if_neg (by rw[sk_end_tok];simpa using ht)]
  ·rw[if_pos ht];show ((if sk T i<T.length then ([],sk T i,2) else (l,0,0):List Nd×Nat×Int).1,(if sk T i<T.length then ([],sk T i,2) else (l,0,0):List Nd×Nat×Int).2.2)=_
   rw[if_pos ((sk_end_tok T i).2 ht)]
set_option linter.unusedVariables false
def okW (l:List UInt8):Prop:=∀ b ∈ l,wdB b=true
theorem okW.app {a b:List UInt8} (h:okW a) (k:okW b):okW (a++b):=fun x hx=>by
 rcases List.mem_append.1 hx with hx|hx
 ·exact h x hx
 ·exact k x hx
theorem okW.cons {c:UInt8} {b:List UInt8} (h:wdB c=true) (k:okW b):okW (c::b):=fun x hx=>by
 rcases List.mem_cons.1 hx with rfl|hx
 ·exact h
 ·exact k x hx
theorem okW.nil:okW []:=fun x hx=>by simp at hx
theorem okW.rep (n:Nat) {c:UInt8} (h:wdB c=true):okW (List.replicate n c):=fun x hx=>by rw[(List.mem_replicate.1 hx).2];exact h
theorem okW.take {a:List UInt8} (h:okW a) (n:Nat):okW (a.take n):=fun x hx=>h x (List.mem_of_mem_take hx)
theorem okW.drop {a:List UInt8} (h:okW a) (n:Nat):okW (a.drop n):=fun x hx=>h x (List.mem_of_mem_drop hx)
theorem okW_dig (c:Nat) (h:c<10):wdB (UInt8.ofNat (48+c))=true:=by
 have:∀ k:Fin 10,wdB (UInt8.ofNat (48+k.val))=true:=by decide
 exact this ⟨c,h⟩
theorem okW_dd:∀ (n m:Nat),m≤n→okW (Lib.decDigits m)
 | n,m,h=>by
  rw[Lib.decDigits.eq_def];by_cases h10:m<10
  ·rw[dif_pos h10];exact okW.cons (okW_dig m h10) okW.nil
  ·rw[dif_neg h10];cases n with
   | zero=>omega
   | succ n=>exact (okW_dd n (m / 10) (by omega)).app (okW.cons (okW_dig _ (Nat.mod_lt _ (by decide))) okW.nil)
theorem okW_itoa (n:Int):okW (Lib.itoa n):=by
 by_cases h:0≤n
 ·obtain ⟨k,rfl⟩:∃ k:Nat,n=k:=⟨n.toNat,by omega⟩
  rw[Lib.itoa_nonneg];exact okW_dd _ k (Nat.le_refl _)
 ·obtain ⟨k,rfl,hk⟩:∃ k:Nat,n=-(k:Int)∧1≤k:=⟨n.natAbs,by omega,by omega⟩
  rw[Lib.itoa_neg _ hk];exact okW.cons (by decide) (okW_dd _ k (Nat.le_refl _))
theorem itoa_ne (n:Int):Lib.itoa n≠[]:=by
 by_cases h:0≤n
 ·obtain ⟨k,rfl⟩:∃ k:Nat,n=k:=⟨n.toNat,by omega⟩
  intro e;have:=itoa_pos k;rw[e]at this;simp at this
 ·obtain ⟨k,rfl,hk⟩:∃ k:Nat,n=-(k:Int)∧1≤k:=⟨n.natAbs,by omega,by omega⟩
  rw[Lib.itoa_neg _ hk];simp
theorem okW_digL (n k:Nat):okW (digL n k):=by
 unfold digL
 refine (okW.rep _ (by decide)).app ?_
 split
 ·exact okW.nil
 ·exact okW_dd _ n (Nat.le_refl _)
theorem okW_date (Y M D:Nat):okW (dateL Y M D):=by
 unfold dateL
 exact ((((okW_digL Y 4).app (okW.cons (by decide) okW.nil)).app (okW_digL M 2)).app (okW.cons (by decide) okW.nil)).app (okW_digL D 2)
theorem okW_dec (neg:Bool) (m k:Nat):okW (decStr neg m k):=by
 have hp:okW (padL m k):=by unfold padL;exact (okW.rep _ (by decide)).app (okW_itoa _)
 unfold decStr
 refine okW.app ?_ ?_
 ·split
  ·exact okW.cons (by decide) okW.nil
  ·exact okW.nil
 ·split
  ·exact hp
  ·exact ((hp.take _).app (okW.cons (by decide) okW.nil)).app (hp.drop _)
theorem dec_ne (neg:Bool) (m k:Nat):decStr neg m k≠[]:=by
 have hp:=padL_len m k;unfold decStr
 intro h
 have h2:=(List.append_eq_nil_iff.1 h).2;split at h2
 ·rw[h2]at hp;simp at hp
 ·simp at h2
theorem okW_hexC (n:Nat) (h:n<16):wdB (hexC n)=true:=by
 have:∀ k:Fin 16,wdB (hexC k.val)=true:=by decide
 exact this ⟨n,h⟩
theorem okW_hexL (l:List UInt8):okW (hexL l):=by
 intro x hx
 unfold hexL at hx
 obtain ⟨c,_,hc⟩:=List.mem_flatMap.1 hx;have hlt:=c.toNat_lt;rcases List.mem_cons.1 hc with rfl|hc
 ·exact okW_hexC _ (by omega)
 ·rcases List.mem_cons.1 hc with rfl | hc
  ·exact okW_hexC _ (by omega)
  ·simp at hc
theorem chk_val {t n:Int} {cn b:Bool} {s:ByteArray} (h:checkV t cn b n s=0):(1≤t∧t≤5)∧(b=true→cn=true∧n=0∧s.size=0)∧(b=false→(t=3→n=0∧s.size≤64)∧(t≠3→s.size=0)∧(t=2→n=0∨n=1)∧(t=4→-719162≤n∧n≤2932896)∧(t=5→-999999999999999999≤n∧n≤999999999999999999)):=by
 unfold checkV at h
 by_cases h1:t<1∨5<t
 ·rw[if_pos h1]at h;cases h
 rw[if_neg h1]at h;by_cases h2:(b=true∨t≠3)∧s.size≠0
 ·rw[if_pos h2]at h;cases h
 rw[if_neg h2]at h;by_cases h3:(b=true∨t=3)∧n≠0
 ·rw[if_pos h3]at h;cases h
 rw[if_neg h3]at h;by_cases h4:b=true∧cn=false
 ·rw[if_pos h4]at h;cases h
 rw[if_neg h4]at h;by_cases h5:b=false∧permB t n s=false
 ·rw[if_pos h5]at h;cases h
 refine ⟨by omega,fun hb=>⟨?_,?_,?_⟩,fun hb=>?_⟩
 ·cases hc:cn with
  | true=>rfl
  | false=>exact absurd ⟨hb,hc⟩ h4
 ·by_cases hn:n=0
  ·exact hn
  ·exact absurd ⟨.inl hb,hn⟩ h3
 ·by_cases hn:s.size=0
  ·exact hn
  ·exact absurd ⟨.inl hb,hn⟩ h2
 ·have hp:permB t n s=true:=by
   cases hq:permB t n s with
   | true=>rfl
   | false=>exact absurd ⟨hb,hq⟩ h5
  unfold permB at hp
  refine ⟨fun e=>⟨?_,?_⟩,fun e=>?_,fun e=>?_,fun e=>?_,fun e=>?_⟩
  ·by_cases hn:n=0
   ·exact hn
   ·exact absurd ⟨.inr e,hn⟩ h3
  ·rw[if_neg (by omega),if_neg (by omega),if_neg (by omega),if_pos e]at hp;simpa using hp
  ·by_cases hn:s.size=0
   ·exact hn
   ·exact absurd ⟨.inr e,hn⟩ h2
  ·rw[if_pos e]at hp;simpa using hp
  ·rw[if_neg (by omega),if_pos e]at hp;simpa using hp
  ·rw[if_neg (by omega),if_neg (by omega),if_pos e]at hp;simpa using hp
theorem len_ne_null {l:List UInt8} (h:l.length≠4):l≠[110,117,108,108]:=by rintro rfl;exact h rfl
theorem readV_nul:readV [110,117,108,108]=(0,2):=by decide +kernel
theorem decP_nul (k:Int):(decP [110,117,108,108] k).2≠0:=by
 unfold decP
 split
 ·decide
 ·rw[if_pos (by decide)];decide
theorem size_nil {s:ByteArray} (h:s.size=0):s.data.toList=[]:=by
 have:=sizeD s
 rw[h]at this;exact List.length_eq_zero_iff.1 this
theorem text_ok {T K n:Int} {cn b:Bool} {S:ByteArray} (hk:0≤K∧K≤18) (hv:checkV T cn b n S=0) (hn:-9223372036854775808≤n∧n≤9223372036854775807) :
  ∃ L:List UInt8,fmtV T K cn b n S=(L,0)∧L≠[]∧okW L∧vparV T K cn L=((b,n,S.data.toList),0):=by
 obtain ⟨⟨t1,t2⟩,v1,v2⟩:=chk_val hv;obtain ⟨k0,k1⟩:=hk;obtain ⟨v3,v4⟩:=hn;have hsca:scaB K=true:=by unfold scaB;simp;omega
 have hbad:¬((T<1∨5<T)∨(T=5∧scaB K=false)):=by rw[hsca];rintro (h | ⟨_,h⟩);omega;cases h
 have hrange:¬(T=5∧(K<0∨18<K)):=by omega
 cases b with
 | true =>
  obtain ⟨rfl,rfl,hs⟩:=v1 rfl;refine ⟨[110,117,108,108],?_,by simp,?_,?_⟩
  ·unfold fmtV;rw[if_neg hrange,hv,if_neg (by decide),if_pos rfl]
  ·intro x hx
   simp at hx
   rcases hx with rfl|rfl|rfl <;> decide
  ·rw[vpar_null hbad rfl,if_pos rfl,size_nil hs]
 | false =>
  obtain ⟨p1,p2,p3,p4,p5⟩:=v2 rfl;have hf:fmtV T K cn false n S=if T=2 then (if n=1 then [116,114,117,101] else [102,97,108,115,101],0) else if T=4 then dateV n else if T=5 then decV n K else if T=3 then (34::(hexL S.data.toList ++ [34]),0) else (Lib.itoa n,0):=by
   unfold fmtV;rw[if_neg hrange,hv,if_neg (by decide),if_neg (by decide)]
  rw[hf];obtain rfl|rfl|rfl|rfl|rfl:T=1∨T=2∨T=3∨T=4∨T=5:=by omega
  ·rw[if_neg (by decide),if_neg (by decide),if_neg (by decide),if_neg (by decide)];have hr:=readV_itoa n v3 v4;refine ⟨Lib.itoa n,rfl,itoa_ne n,okW_itoa n,?_⟩
   rw[vpar_rest hbad ?_,if_pos rfl,hr,outN_ok,size_nil (p2 (by decide))];intro h;rw[h,readV_nul]at hr;cases hr
  ·rw[if_pos rfl];rcases p3 rfl with rfl|rfl
   ·refine ⟨[102,97,108,115,101],by rw[if_neg (by decide)],by simp,?_,?_⟩
    ·intro x hx
     simp at hx
     rcases hx with rfl|rfl|rfl|rfl|rfl <;> decide
    ·rw[vpar_rest hbad (by decide),if_neg (by decide),if_pos rfl,size_nil (p2 (by decide))];rfl
   ·refine ⟨[116,114,117,101],by rw[if_pos rfl],by simp,?_,?_⟩
    ·intro x hx
     simp at hx
     rcases hx with rfl|rfl|rfl|rfl <;> decide
    ·rw[vpar_rest hbad (by decide),if_neg (by decide),if_pos rfl,size_nil (p2 (by decide))];rfl
  ·rw[if_neg (by decide),if_neg (by decide),if_neg (by decide),if_pos rfl];obtain ⟨rfl,hs⟩:=p1 rfl;have hl:=sizeD S;have hb:=byt_back (l:=S.data.toList) (by omega);refine ⟨hexT S.data.toList,rfl,by unfold hexT;simp,?_,?_⟩
   ·unfold hexT;exact okW.cons (by decide) ((okW_hexL _).app (okW.cons (by decide) okW.nil))
   ·rw[vpar_rest hbad ?_,if_neg (by decide),if_neg (by decide),if_pos rfl,vbyt_eq hb];unfold hexT;intro h;cases h
  ·rw[if_neg (by decide),if_pos rfl];have hn:=p4 rfl;obtain ⟨y,m,d,hd⟩:=fl_civ (n:=n) (by omega) (by omega);obtain ⟨Y,M,D,rfl,rfl,rfl,h1,h2,h3⟩:=civ_nat hd;have hl:=fl_date h1 h2 h3;refine ⟨dateL Y M D,?_,by intro e;rw[e]at hl;simp at hl,okW_date Y M D,?_⟩
   ·rw[dateV_in (by omega) (by omega) hd];rfl
   ·rw[vpar_rest hbad (len_ne_null (by omega)),if_neg (by decide),if_neg (by decide),if_neg (by decide),if_pos rfl,date_back hd rfl rfl rfl h1 h2 h3,outN_ok,size_nil (p2 (by decide))]
  ·rw[if_neg (by decide),if_neg (by decide),if_pos rfl];have hn:=p5 rfl;obtain ⟨j,rfl⟩:∃ j:Nat,K=j:=⟨K.toNat,by omega⟩
   have hw:(withB n&&scaB (j:Int))=true:=by rw[hsca,Bool.and_true];unfold withB;simp;omega
   have hP:decP (decStr (decide (n<0)) n.natAbs j) (j:Int)=(n,0):=by
    rw[decP_str (decide (n<0)) n.natAbs j j (by omega) (Nat.le_refl _) (fun h=>by rw[decide_eq_true_eq]at h;omega),Nat.sub_self,outP_up n 0 hn.1 hn.2];rfl
   refine ⟨decStr (decide (n<0)) n.natAbs j,?_,dec_ne _ _ _,okW_dec _ _ _,?_⟩
   ·unfold decV;rw[if_pos hw,Int.toNat_natCast]
   ·rw[vpar_rest hbad ?_,if_neg (by decide),if_neg (by decide),if_neg (by decide),if_neg (by decide),hP,outN_ok,size_nil (p2 (by decide))];intro h
    have:=decP_nul (j:Int)
    rw[←h,hP]at this;exact this rfl
end Go.Proofs.YtjnamjkdjcndiaaGreatDoor
