/-
  Words, plain laws and contracts on which the walks lean, in one text.
-/
import Derived.Test.YtjnamjkdjcndiaaGreatDoorM18
import Derived.Test.YtjnamjkdjcndiaaGreatDoorM12
namespace Go.Proofs.YtjnamjkdjcndiaaGreatDoor
set_option linter.unusedVariables false
structure GoodP (cs:List Col) (p:List Nd):Prop where
 col:∀ (k:Nat) (c:Col),cs[k]?=some c→ColGood c∧findC cs c.nm=k
 ok:PredOk cs p
 rv:∀ x ∈ p,-9223372036854775808≤x.v.n∧x.v.n≤9223372036854775807
 rl:∀ x ∈ p,∀ v ∈ x.l,-9223372036854775808≤v.n∧v.n≤9223372036854775807
theorem vl_back (v:Vl):vlP (v.nu,v.n,v.s.data.toList)=v:=by
 unfold vlP;cases v with | mk a b c=>cases c;rfl
def nrm (x:Nd):Nd:=⟨x.op,x.col,if x.op<7 then x.v else v0,if x.op=7 then x.l else [],0,0⟩
theorem okW_name {l:List UInt8} (h:nameB l=true):l≠[]∧okW l:=by
 unfold nameB at h
 simp only[Bool.and_eq_true,decide_eq_true_eq,Bool.not_eq_true',List.isEmpty_eq_false_iff,bne_iff_ne]at h;obtain ⟨⟨⟨⟨h1,_⟩,_⟩,_⟩,h5⟩:=h;refine ⟨h1,fun x hx=>?_⟩
 have hx:=List.all_eq_true.1 h5 x hx;unfold okB at hx
 simp at hx
 unfold wdB
 have e:∀ n:Nat,n<256→(x=UInt8.ofNat n)→x.toNat=n:=fun n hn h=>by rw[h,UInt8.toNat_ofNat'];omega
 have h1:x≠32:=fun h=>by have:=e 32 (by decide) h;omega
 have h2:x≠40:=fun h=>by have:=e 40 (by decide) h;omega
 have h3:x≠41:=fun h=>by have:=e 41 (by decide) h;omega
 simp[h1,h2,h3]
theorem okW_word {op:Int} (h1:1≤op) (h2:op≤11):wordP op≠[]∧okW (wordP op)∧opW (wordP op)=op.toNat:=by
 obtain ⟨n,rfl⟩:∃ n:Nat,op=n:=⟨op.toNat,by omega⟩
 have:∀ k:Fin 12,1≤k.val→wordP (k.val:Int)≠[]∧(wordP (k.val:Int)).all wdB=true∧opW (wordP (k.val:Int))=(k.val:Int).toNat:=by decide
 have:=this ⟨n,by omega⟩ (by show 1≤n;omega)
 exact ⟨this.1,List.all_eq_true.1 this.2.1,this.2.2⟩
theorem vtxt_ok {c:Col} {v:Vl} (hc:ColGood c) (h:checkV c.ty true v.nu v.n v.s=0) (hr:-9223372036854775808≤v.n∧v.n≤9223372036854775807) :
  vtxt c v≠[]∧okW (vtxt c v)∧vparV c.ty c.sc true (vtxt c v)=((v.nu,v.n,v.s.data.toList),0)∧(v.nu=false→vparV c.ty c.sc false (vtxt c v)=((v.nu,v.n,v.s.data.toList),0)):=by
 obtain ⟨L,h1,h2,h3,h4⟩:=text_ok hc.sc h hr;unfold vtxt
 rw[h1];refine ⟨h2,h3,h4,fun hn=>?_⟩
 by_cases hl:L=[110,117,108,108]
 ·have hty:=(chk_val h).1;have hsc:=hc.sc;have hsca:scaB c.sc=true:=by unfold scaB;simp;omega
  have hbad:¬((c.ty<1∨5<c.ty)∨(c.ty=5∧scaB c.sc=false)):=by rw[hsca];rintro (h | ⟨_,h⟩);omega;cases h
  rw[vpar_null hbad hl,if_pos rfl,hn]at h4;cases h4
 ·rw[←(vpar_rest_null hl).2];exact h4
noncomputable def leafTk (c:Col) (x:Nd):List (List UInt8):=[40]::wordP x.op::c.nm.data.toList::((valsP x).map (vtxt c) ++ [[41]])
theorem toks_vals {c:Col} (hc:ColGood c) (R:List UInt8):∀ (l:List Vl) (cur:List UInt8),cur≠[]→(∀ v ∈ l,vtxt c v≠[]∧okW (vtxt c v))→toksA cur (vtxts c l++41::R)=cur::(l.map (vtxt c) ++ [41]::toksA [] R)
 | [],cur,h0,_=>by
  show toksA cur (41::R)=_
  rw[toks_par _ _ (.inr rfl),flush_ne h0];rfl
 | v::l,cur,h0,h=>by
  obtain ⟨v1,v2⟩:=h v (by simp);have e:vtxts c (v::l)++41::R=32::(vtxt c v++(vtxts c l++41::R)):=by
   unfold vtxts;rw[List.flatMap_cons];simp
  rw[e,toks_sp,flush_ne h0,toks_word _ _ _ v2,List.nil_append,toks_vals hc R l _ v1 (fun y hy=>h y (by simp[hy]))];simp
theorem toks_leaf {c:Col} {x:Nd} (hc:ColGood c) (h1:1≤x.op) (h2:x.op≤11) (hv:∀ v ∈ valsP x,vtxt c v≠[]∧okW (vtxt c v)) (R:List UInt8):toksA [] (leafC c x++R)=leafTk c x++toksA [] R:=by
 obtain ⟨w1,w2,_⟩:=okW_word h1 h2;obtain ⟨n1,n2⟩:=okW_name hc.nm;have e:leafC c x++R=40::(wordP x.op++(32::(c.nm.data.toList++(vtxts c (valsP x)++41::R)))):=by unfold leafC;simp
 rw[e,toks_par _ _ (.inl rfl),toks_word _ _ _ w2,List.nil_append,toks_sp,flush_ne w1,toks_word _ _ _ n2,List.nil_append,toks_vals hc R _ _ n1 hv];unfold leafTk
 simp[flushT]
theorem toks_snoc (R:List UInt8):∀ (X cur:List UInt8),toksA cur (X++41::R)=toksA cur (X ++ [41])++toksA [] R
 | [],cur=>by
  show toksA cur (41::R)=toksA cur [41]++_
  rw[toks_par _ _ (.inr rfl),toks_par _ _ (.inr rfl)];simp[toksA,flushT]
 | b::X,cur=>by
  show toksA cur (b::(X++41::R))=toksA cur (b::(X ++ [41]))++_
  rw[toksA,toksA];split
  ·rw[toks_snoc R X []];simp
  ·split
   ·rw[toks_snoc R X []];simp
   ·exact toks_snoc R X _
section
variable {cs:List Col} {p:List Nd}
theorem GoodP.leaf (h:GoodP cs p) {i:Nat} {x:Nd} (hx:p[i]?=some x) (h9:x.op<9):∃ c,cs[x.col.toNat]?=some c∧ColGood c∧findC cs c.nm=x.col∧1≤x.op∧(valsP x).length≤16∧(x.op<7→x.v.nu=false)∧(x.op=7→x.l≠[]) ∧
  ∀ v ∈ valsP x,vtxt c v≠[]∧okW (vtxt c v)∧vparV c.ty c.sc true (vtxt c v)=((v.nu,v.n,v.s.data.toList),0)∧(v.nu=false→vparV c.ty c.sc false (vtxt c v)=((v.nu,v.n,v.s.data.toList),0)):=by
 have hn:=h.ok.node i x hx;obtain ⟨c0,c1,c,hc⟩:=node_col hn h9;obtain ⟨g1,g2⟩:=h.col _ c hc;obtain ⟨k1,k2,k3⟩:=node_vals hn h9 hc;have hm:=List.mem_of_getElem? hx;refine ⟨c,hc,g1,by omega,(node_op hn).1,k2,k3,fun h7 e=>?_,fun v hv=>vtxt_ok g1 (k1 v hv) ?_⟩
 ·rw[nv_leaf (K:=x.col.toNat) (by have:=node_op hn;omega) (by omega) (by omega) hc,if_neg (by omega),if_neg (by omega),e]at hn;simp at hn
 ·unfold valsP at hv
  by_cases h7:x.op<7
  ·rw[if_pos h7]at hv;simp at hv;subst hv;exact h.rv x hm
  ·rw[if_neg h7]at hv;by_cases h8:x.op=8
   ·rw[if_pos h8]at hv;simp at hv
   ·rw[if_neg h8]at hv;exact h.rl x hm v hv
theorem GoodP.sub (h:GoodP cs p) {i:Nat} {x:Nd} (hx:p[i]?=some x) (h9:¬ x.op<9):(x.op=9∨x.op=10∨x.op=11)∧x.a.toNat<i∧(∃ y,p[x.a.toNat]?=some y)∧(x.op≠11→x.b.toNat<i∧∃ y,p[x.b.toNat]?=some y):=by
 have hn:=h.ok.node i x hx;obtain ⟨a0,a1,hb⟩:=node_sub hn (by omega);have:=node_op hn
 have hl:=(List.getElem?_eq_some_iff.1 hx).1;refine ⟨by omega,by omega,⟨_,List.getElem?_eq_getElem (show x.a.toNat<p.length by omega)⟩,fun h11=>?_⟩
 obtain ⟨b0,b1⟩:=hb h11;exact ⟨by omega,⟨_,List.getElem?_eq_getElem (show x.b.toNat<p.length by omega)⟩⟩
theorem xt_leaf (h:GoodP cs p) {i:Nat} {x:Nd} (hx:p[i]?=some x) (h9:x.op<9) {c:Col} (hc:cs[x.col.toNat]?=some c):txtI cs p i=leafC c x:=by
 rw[txtI_eq hx];unfold txtN;rw[if_pos h9];unfold leafP;rw[hc]
theorem xt_not (h:GoodP cs p) {i:Nat} {x:Nd} (hx:p[i]?=some x) (h11:x.op=11):txtI cs p i=[40,110,111,116,32]++txtI cs p x.a.toNat ++ [41]:=by
 obtain ⟨_,ha,_,_⟩:=h.sub hx (by omega);rw[txtI_eq hx];unfold txtN;rw[if_neg (by omega),if_pos h11,txts_get cs p ha]
theorem xt_two (h:GoodP cs p) {i:Nat} {x:Nd} (hx:p[i]?=some x) (h9:x.op=9∨x.op=10):txtI cs p i=(40::wordP x.op ++ [32])++txtI cs p x.a.toNat ++ [32]++txtI cs p x.b.toNat ++ [41]:=by
 obtain ⟨_,ha,_,hb⟩:=h.sub hx (by omega);rw[txtI_eq hx];unfold txtN;rw[if_neg (by omega),if_neg (by omega),txts_get cs p ha,txts_get cs p (hb (by omega)).1]
theorem txt_end (h:GoodP cs p) {i:Nat} {x:Nd} (hx:p[i]?=some x):∃ X,txtI cs p i=X ++ [41]:=by
 by_cases h9:x.op<9
 ·obtain ⟨c,hc,_⟩:=h.leaf hx h9;rw[xt_leaf h hx h9 hc];unfold leafC;exact ⟨40::(wordP x.op++(32::c.nm.data.toList)++vtxts c (valsP x)),by simp⟩
 ·obtain ⟨ho,_⟩:=h.sub hx h9;by_cases h11:x.op=11
  ·rw[xt_not h hx h11];exact ⟨_,rfl⟩
  ·rw[xt_two h hx (by omega)];exact ⟨_,rfl⟩
noncomputable def tkI (cs:List Col) (p:List Nd) (i:Nat):List (List UInt8):=toksA [] (txtI cs p i)
theorem tkI_app (h:GoodP cs p) {i:Nat} {x:Nd} (hx:p[i]?=some x) (R:List UInt8):toksA [] (txtI cs p i++R)=tkI cs p i++toksA [] R:=by
 obtain ⟨X,hX⟩:=txt_end h hx;unfold tkI
 rw[hX,List.append_assoc];exact toks_snoc R X []
theorem tkI_leaf (h:GoodP cs p) {i:Nat} {x:Nd} (hx:p[i]?=some x) (h9:x.op<9) {c:Col} (hc:cs[x.col.toNat]?=some c):tkI cs p i=leafTk c x:=by
 obtain ⟨c',hc',g,_,h1,_,_,_,hv⟩:=h.leaf hx h9;obtain rfl:c'=c:=by rw[hc]at hc';injection hc' with e;exact e.symm
 have:=toks_leaf g h1 (by omega) (fun v hvv=>⟨(hv v hvv).1,(hv v hvv).2.1⟩) []
 unfold tkI
 rw[xt_leaf h hx h9 hc];rw[List.append_nil]at this;rw[this];simp[toksA,flushT]
theorem tkI_not (h:GoodP cs p) {i:Nat} {x:Nd} (hx:p[i]?=some x) (h11:x.op=11):tkI cs p i=[40]::wordP 11::(tkI cs p x.a.toNat ++ [[41]]):=by
 obtain ⟨_,_,⟨y,hy⟩,_⟩:=h.sub hx (by omega);have e:=tkI_app h hy [41];have hw:=okW_word (op:=11) (by decide) (by decide);unfold tkI at e ⊢
 rw[xt_not h hx h11];rw[show [40,110,111,116,32]++txtI cs p x.a.toNat ++ [41]=40::(wordP 11++(32::(txtI cs p x.a.toNat ++ [41]))) by show _=40::([110,111,116]++_);simp];rw[toks_par _ _ (.inl rfl),toks_word _ _ _ hw.2.1,List.nil_append,toks_sp,flush_ne hw.1,e];simp[toksA,flushT]
theorem tkI_two (h:GoodP cs p) {i:Nat} {x:Nd} (hx:p[i]?=some x) (h9:x.op=9∨x.op=10):tkI cs p i=[40]::wordP x.op::(tkI cs p x.a.toNat++(tkI cs p x.b.toNat ++ [[41]])):=by
 obtain ⟨_,_,⟨y,hy⟩,hb⟩:=h.sub hx (by omega);obtain ⟨_,z,hz⟩:=hb (by omega);have e2:=tkI_app h hz [41];have e:=tkI_app h hy (32::(txtI cs p x.b.toNat ++ [41]));rw[toks_sp,e2]at e;have hw:=okW_word (op:=x.op) (by omega) (by omega);unfold tkI at e ⊢
 rw[xt_two h hx h9];rw[show (40::wordP x.op ++ [32])++txtI cs p x.a.toNat ++ [32]++txtI cs p x.b.toNat ++ [41]=40::(wordP x.op++(32::(txtI cs p x.a.toNat++(32::(txtI cs p x.b.toNat ++ [41]))))) by simp];rw[toks_par _ _ (.inl rfl),toks_word _ _ _ hw.2.1,List.nil_append,toks_sp,flush_ne hw.1,e];simp[toksA,flushT]
theorem toks_len:∀ (L cur:List UInt8),(toksA cur L).length≤L.length+(flushT cur).length
 | [],cur=>by rw[toksA];simp
 | b::L,cur=>by
  rw[toksA];split
  ·have:=toks_len L []
   simp only[List.length_append,List.length_cons,flushT,List.length_nil]at this ⊢;omega
  ·split
   ·have:=toks_len L []
    simp only[List.length_append,List.length_cons,flushT,List.length_nil]at this ⊢;omega
   ·have:=toks_len L (cur ++ [b])
    have e:(flushT (cur ++ [b])).length=1:=by rw[flush_ne (by simp)];rfl
    simp only[List.length_cons]at this ⊢;omega
theorem wdT_word {w:List UInt8} (h:okW w) (R:List (List UInt8)):wdT (w::R)=(w,R):=by
 show (if _ then _ else _)=_
 rw[if_neg];rintro (e|e)
 ·have:=h 40 (by rw[e];simp);exact absurd this (by decide)
 ·have:=h 41 (by rw[e];simp);exact absurd this (by decide)
theorem exp_hit (b:UInt8) (r:List (List UInt8)):expT b ([b]::r)=.ok r:=by
 show (if [b]=[b] then _ else _)=_
 rw[if_pos rfl]
theorem wdT_close (R:List (List UInt8)):wdT ([41]::R)=([],[41]::R):=rfl
section
variable {cs:List Col} {rec:List (List UInt8)→List Nd→Except Int (List (List UInt8)×List Nd)} {op f:Nat} {ts t1 t2 t3:List (List UInt8)} {acc a2 a3:List Nd} {e:Int} {x:Nd}
theorem argT_e1 (h:op=9∨op=10) (h1:rec ts acc=.error e):argT cs rec op ts acc=.error e:=by unfold argT;rw[if_pos h,h1]
theorem argT_e2 (h:op=9∨op=10) (h1:rec ts acc=.ok (t2,a2)) (h2:rec t2 a2=.error e):argT cs rec op ts acc=.error e:=by unfold argT;rw[if_pos h,h1];dsimp only;rw[h2]
theorem argT_o2 (h:op=9∨op=10) (h1:rec ts acc=.ok (t2,a2)) (h2:rec t2 a2=.ok (t3,a3)):argT cs rec op ts acc=.ok (t3,⟨op,0,v0,[],(a2.length:Int) - 1,(a3.length:Int) - 1⟩,a3):=by unfold argT;rw[if_pos h,h1];dsimp only;rw[h2]
theorem argT_n1 (h1:rec ts acc=.error e):argT cs rec 11 ts acc=.error e:=by unfold argT;rw[if_neg (by decide),if_pos rfl,h1]
theorem argT_n2 (h1:rec ts acc=.ok (t2,a2)):argT cs rec 11 ts acc=.ok (t2,⟨11,0,v0,[],(a2.length:Int) - 1,0⟩,a2):=by unfold argT;rw[if_neg (by decide),if_pos rfl,h1]
theorem argT_l (h:op≤8) (h1:leafT cs op ts=.ok (t2,x)):argT cs rec op ts acc=.ok (t2,x,acc):=by unfold argT;rw[if_neg (by omega),if_neg (by omega),h1]
theorem parT_go (h1:expT 40 ts=.ok t1) (h2:opW (wdT t1).1≠0):parT cs (f+1) ts acc=(match argT cs (parT cs f) (opW (wdT t1).1) (wdT t1).2 acc with
    | .error e=>.error e
    | .ok (t2,x,a2)=>match expT 41 t2 with
     | .error e=>.error e
     | .ok t3=>if a2.length=64 then .error 7 else .ok (t3,a2 ++ [x])):=by
 rw[parT,h1];show (if opW (wdT t1).1=0 then _ else _)=_
 exact if_neg h2
theorem parT_a {w:List UInt8} (h1:expT 40 ts=.ok t1) (hw:wdT t1=(w,t2)) (h2:opW w=op) (h0:op≠0) (h3:argT cs (parT cs f) op t2 acc=.error e):parT cs (f+1) ts acc=.error e:=by
 rw[parT_go h1 (by rw[hw];show opW w≠0;omega),hw];dsimp only;rw[h2,h3]
theorem parT_f {w:List UInt8} {R:List (List UInt8)} (h1:expT 40 ts=.ok t1) (hw:wdT t1=(w,t2)) (h2:opW w=op) (h0:op≠0) (h3:argT cs (parT cs f) op t2 acc=.ok ([41]::R,x,a2)) (h5:a2.length=64):parT cs (f+1) ts acc=.error 7:=by
 rw[parT_go h1 (by rw[hw];show opW w≠0;omega),hw];dsimp only;rw[h2,h3];dsimp only;rw[exp_hit];show (if a2.length=64 then _ else _)=_
 rw[if_pos h5]
theorem parT_o {w:List UInt8} {R:List (List UInt8)} (h1:expT 40 ts=.ok t1) (hw:wdT t1=(w,t2)) (h2:opW w=op) (h0:op≠0) (h3:argT cs (parT cs f) op t2 acc=.ok ([41]::R,x,a2)) (h5:a2.length≠64):parT cs (f+1) ts acc=.ok (R,a2 ++ [x]):=by
 rw[parT_go h1 (by rw[hw];show opW w≠0;omega),hw];dsimp only;rw[h2,h3];dsimp only;rw[exp_hit];show (if a2.length=64 then _ else _)=_
 rw[if_neg h5]
end
inductive Exp (p:List Nd):Nat→Nat→List Nd→Prop
 | leaf {i n:Nat} {x:Nd}:p[i]?=some x→x.op<9→Exp p i n [nrm x]
 | neg {i n:Nat} {x:Nd} {A:List Nd}:p[i]?=some x→x.op=11→Exp p x.a.toNat n A→Exp p i n (A ++ [⟨11,0,v0,[],((n+A.length:Nat):Int) - 1,0⟩])
 | two {i n:Nat} {x:Nd} {A B:List Nd}:p[i]?=some x→(x.op=9∨x.op=10)→Exp p x.a.toNat n A→Exp p x.b.toNat (n+A.length) B→Exp p i n (A++B ++ [⟨x.op,0,v0,[],((n+A.length:Nat):Int) - 1,((n+A.length+B.length:Nat):Int) - 1⟩])
theorem exp_ex (h:GoodP cs p):∀ (i:Nat) (x:Nd),p[i]?=some x→∀ n,∃ E,Exp p i n E:=by
 intro i
 induction i using Nat.strongRecOn with
 | _ i ih =>
  intro x hx n
  by_cases h9:x.op<9
  ·exact ⟨_,.leaf hx h9⟩
  ·obtain ⟨ho,ha,⟨y,hy⟩,hb⟩:=h.sub hx h9;obtain ⟨A,hA⟩:=ih _ ha y hy n;by_cases h11:x.op=11
   ·exact ⟨_,.neg hx h11 hA⟩
   ·obtain ⟨hb,z,hz⟩:=hb h11;obtain ⟨B,hB⟩:=ih _ hb z hz (n+A.length);exact ⟨_,.two hx (by omega) hA hB⟩
theorem lstT_vals {c:Col} (R:List (List UInt8)):∀ (l:List Vl) (f:Nat) (acc:List Vl),l.length<f→l.length+acc.length≤16→0<l.length+acc.length→(∀ v ∈ l,vtxt c v≠[]∧okW (vtxt c v)∧vparV c.ty c.sc true (vtxt c v)=((v.nu,v.n,v.s.data.toList),0)) →
  lstT c f (l.map (vtxt c) ++ [41]::R) acc=.ok ([41]::R,acc++l)
 | [],0,_,h,_,_,_=>by simp at h
 | [],f+1,acc,_,_,h,_=>by
  show lstT c (f+1) ([41]::R) acc=_
  unfold lstT
  rw[wdT_close,if_pos rfl,if_neg (by simp at h;omega),List.append_nil]
 | v::l,0,_,h,_,_,_=>by simp at h
 | v::l,f+1,acc,h1,h2,h3,hv=>by
  obtain ⟨v1,v2,v3⟩:=hv v (by simp);show lstT c (f+1) (vtxt c v::(l.map (vtxt c) ++ [41]::R)) acc=_
  unfold lstT
  rw[wdT_word v2];show (if vtxt c v=[] then _ else if acc.length=16 then _ else if (vparV c.ty c.sc true (vtxt c v)).2≠0 then _ else lstT c f (l.map (vtxt c) ++ [41]::R) (acc ++ [vlP (vparV c.ty c.sc true (vtxt c v)).1]))=_
  simp only[List.length_cons]at h1 h2;rw[if_neg v1,if_neg (by omega),v3,if_neg (by simp),vl_back,lstT_vals R l f _ (by omega) (by simp;omega) (by simp;omega) (fun y hy=>hv y (by simp[hy]))];simp
theorem leafT_ok (h:GoodP cs p) {i:Nat} {x:Nd} (hx:p[i]?=some x) (h9:x.op<9) {c:Col} (hc:cs[x.col.toNat]?=some c) (R:List (List UInt8)) :
  leafT cs x.op.toNat (c.nm.data.toList::((valsP x).map (vtxt c) ++ [41]::R))=.ok ([41]::R,nrm x):=by
 obtain ⟨c',hc',g,hf,h1,h16,hnu,h7,hv⟩:=h.leaf hx h9;obtain rfl:c'=c:=by rw[hc]at hc';injection hc' with e;exact e.symm
 obtain ⟨n1,n2⟩:=okW_name g.nm;have c0:=(node_col (h.ok.node i x hx) h9).1;have hcol:colT cs (c'.nm.data.toList::((valsP x).map (vtxt c') ++ [41]::R))=.ok ((valsP x).map (vtxt c') ++ [41]::R,x.col.toNat):=by
  unfold colT
  rw[wdT_word n2];show (if c'.nm.data.toList=[] then _ else if findC cs ⟨c'.nm.data.toList.toArray⟩ < 0 then _ else _)=_
  have e:(⟨c'.nm.data.toList.toArray⟩:ByteArray)=c'.nm:=by cases c'.nm;rfl
  rw[if_neg n1,e,hf,if_neg (by omega)]
 unfold leafT
 rw[hcol];show (if x.op.toNat=8 then _ else match cs[x.col.toNat]? with | none=>_ | some c=>_)=_
 have hK:((x.col.toNat:Nat):Int)=x.col:=by omega
 have hO:((x.op.toNat:Nat):Int)=x.op:=by omega
 by_cases h8:x.op=8
 ·rw[if_pos (by omega)];have e:valsP x=[]:=by unfold valsP;rw[if_neg (by omega),if_pos h8]
  rw[e];unfold nrm
  rw[h8,hK];rfl
 ·rw[if_neg (by omega),hc];show (if x.op.toNat=7 then _ else _)=_
  by_cases e7:x.op=7
  ·rw[if_pos (by omega)];have e:valsP x=x.l:=by unfold valsP;rw[if_neg (by omega),if_neg h8]
   rw[e]at hv h16 ⊢;have hl:0<x.l.length:=List.length_pos_iff.2 (h7 e7);rw[lstT_vals R x.l 17 [] (by omega) (by simpa using h16) (by simpa using hl) (fun v hvv=>⟨(hv v hvv).1,(hv v hvv).2.1,(hv v hvv).2.2.1⟩)];show Except.ok _=_
   unfold nrm
   rw[hK,e7];rfl
  ·rw[if_neg (by omega)];have e:valsP x=[x.v]:=by unfold valsP;rw[if_pos (by omega)]
   rw[e]at hv ⊢;obtain ⟨v1,v2,_,v4⟩:=hv x.v (by simp);have hval:valT c' (vtxt c' x.v::([41]::R))=.ok ([41]::R,x.v):=by
    unfold valT
    rw[wdT_word v2];show (if vtxt c' x.v=[] then _ else if (vparV c'.ty c'.sc false (vtxt c' x.v)).2≠0 then _ else Except.ok ([41]::R,vlP (vparV c'.ty c'.sc false (vtxt c' x.v)).1))=_
    rw[if_neg v1,v4 (hnu (by omega)),if_neg (by simp),vl_back]
   show (match valT c' (vtxt c' x.v::([41]::R)) with | .error e=>_ | .ok (t3,v)=>_)=_
   rw[hval];show Except.ok _=_
   unfold nrm
   rw[hK,hO,if_pos (show x.op<7 by omega),if_neg e7]
theorem parT_node (h:GoodP cs p) {i n:Nat} {E:List Nd} (hE:Exp p i n E):∀ (f:Nat) (R:List (List UInt8)) (acc:List Nd),acc.length=n→n≤64→(tkI cs p i).length≤f →
  parT cs f (tkI cs p i++R) acc=if n+E.length≤64 then .ok (R,acc++E) else .error 7:=by
 induction hE with
 | @leaf i n x hx h9 =>
  intro f R acc hn h64 hf
  obtain ⟨c,hc,g,_,h1,_,_,_,hv⟩:=h.leaf hx h9;rw[tkI_leaf h hx h9 hc]at hf ⊢;have hw:=okW_word (op:=x.op) h1 (by omega);cases f with
  | zero=>unfold leafTk at hf;simp at hf
  | succ f =>
   have e:leafTk c x++R=[40]::wordP x.op::c.nm.data.toList::((valsP x).map (vtxt c) ++ [41]::R):=by unfold leafTk;simp
   rw[e];have h3:=argT_l (rec:=parT cs f) (acc:=acc) (op:=x.op.toNat) (by omega) (leafT_ok h hx h9 hc R);by_cases hl:acc.length=64
   ·rw[if_neg (by simp;omega)];exact parT_f (exp_hit _ _) (wdT_word hw.2.1 _) hw.2.2 (by omega) h3 hl
   ·rw[if_pos (by simp;omega)];exact parT_o (exp_hit _ _) (wdT_word hw.2.1 _) hw.2.2 (by omega) h3 hl
 | @neg i n x A hx h11 hA ih =>
  intro f R acc hn h64 hf
  rw[tkI_not h hx h11]at hf ⊢;have hw:=okW_word (op:=11) (by decide) (by decide);cases f with
  | zero=>simp at hf
  | succ f =>
   have e:([40]::wordP 11::(tkI cs p x.a.toNat ++ [[41]]))++R=[40]::wordP 11::(tkI cs p x.a.toNat ++ [41]::R):=by simp
   rw[e];simp only[List.length_cons,List.length_append,List.length_nil]at hf;have h1:=ih f ([41]::R) acc hn h64 (by omega);by_cases hl:n+A.length≤64
   ·rw[if_pos hl]at h1;have h3:=argT_n2 (cs:=cs) h1;have e1:(acc++A).length=n+A.length:=by simp[hn]
    by_cases h6:n+A.length=64
    ·rw[if_neg (by simp;omega)];exact parT_f (exp_hit _ _) (wdT_word hw.2.1 _) hw.2.2 (by decide) h3 (by omega)
    ·rw[if_pos (by simp;omega)];rw[parT_o (exp_hit _ _) (wdT_word hw.2.1 _) hw.2.2 (by decide) h3 (by omega),e1];simp
   ·rw[if_neg hl]at h1;rw[if_neg (by simp;omega)];exact parT_a (exp_hit _ _) (wdT_word hw.2.1 _) hw.2.2 (by decide) (argT_n1 (cs:=cs) h1)
 | @two i n x A B hx h9 hA hB ihA ihB =>
  intro f R acc hn h64 hf
  rw[tkI_two h hx h9]at hf ⊢;have hw:=okW_word (op:=x.op) (by omega) (by omega);have h90:x.op.toNat=9∨x.op.toNat=10:=by omega
  cases f with
  | zero=>simp at hf
  | succ f =>
   have e:([40]::wordP x.op::(tkI cs p x.a.toNat++(tkI cs p x.b.toNat ++ [[41]])))++R=[40]::wordP x.op::(tkI cs p x.a.toNat++(tkI cs p x.b.toNat ++ [41]::R)):=by simp
   rw[e];simp only[List.length_cons,List.length_append,List.length_nil]at hf;have h1:=ihA f (tkI cs p x.b.toNat ++ [41]::R) acc hn h64 (by omega);by_cases hl:n+A.length≤64
   ·rw[if_pos hl]at h1;have h2:=ihB f ([41]::R) (acc++A) (by rw[List.length_append,hn]) hl (by omega);by_cases hl2:n+A.length+B.length≤64
    ·rw[if_pos hl2]at h2;have h3:=argT_o2 (cs:=cs) h90 h1 h2;have e1:(acc++A++B).length=n+A.length+B.length:=by simp[hn];omega
     have e2:(acc++A).length=n+A.length:=by simp[hn]
     have e3:((x.op.toNat:Nat):Int)=x.op:=by omega
     by_cases h6:n+A.length+B.length=64
     ·rw[if_neg (by simp;omega)];exact parT_f (exp_hit _ _) (wdT_word hw.2.1 _) hw.2.2 (by omega) h3 (by omega)
     ·rw[if_pos (by simp;omega)];rw[parT_o (exp_hit _ _) (wdT_word hw.2.1 _) hw.2.2 (by omega) h3 (by omega),e1,e2,e3];simp
    ·rw[if_neg hl2]at h2;rw[if_neg (by simp;omega)];exact parT_a (exp_hit _ _) (wdT_word hw.2.1 _) hw.2.2 (by omega) (argT_e2 (cs:=cs) h90 h1 h2)
   ·rw[if_neg hl]at h1;rw[if_neg (by simp;omega)];exact parT_a (exp_hit _ _) (wdT_word hw.2.1 _) hw.2.2 (by omega) (argT_e1 (cs:=cs) h90 h1)
theorem parse_words {key:Int} (h:GoodP cs p) (hs:schkV cs key=0) {i:Nat} {x:Nd} (hx:p[i]?=some x) {E:List Nd} (hE:Exp p i 0 E) {U:List UInt8} (hU:toksA [] U=tkI cs p i) (hl:U.length≤65536) :
  ((parP cs key U).1,(parP cs key U).2.2)=if E.length≤64 then (E,0) else ([],7):=by
 have hne:U≠[]:=by
  rintro rfl;have h0:tkI cs p i=[]:=by rw[←hU];rfl
  by_cases h9:x.op<9
  ·obtain ⟨c,hc,_⟩:=h.leaf hx h9;rw[tkI_leaf h hx h9 hc]at h0;unfold leafTk at h0;cases h0
  ·obtain ⟨ho,_⟩:=h.sub hx h9;by_cases h11:x.op=11
   ·rw[tkI_not h hx h11]at h0;cases h0
   ·rw[tkI_two h hx (by omega)]at h0;cases h0
 have hlen:=toks_len U [];have h1:=parT_node h hE (U.length+1) [] [] rfl (by omega) (by rw[←hU];simp[flushT]at hlen;omega);rw[parP_tok hs hl hne,hU];rw[List.append_nil]at h1;rw[h1,Nat.zero_add];by_cases hl:E.length≤64
 ·rw[if_pos hl,if_pos hl];simp
 ·rw[if_neg hl,if_neg hl]
end
set_option linter.unusedVariables false
inductive Rep (p q:List Nd):Nat→Nat→Prop
 | leaf {i j:Nat} {x:Nd}:p[i]?=some x→x.op<9→q[j]?=some (nrm x)→Rep p q i j
 | neg {i j:Nat} {x y:Nd}:p[i]?=some x→x.op=11→q[j]?=some y→y.op=11→Rep p q x.a.toNat y.a.toNat→Rep p q i j
 | two {i j:Nat} {x y:Nd}:p[i]?=some x→(x.op=9∨x.op=10)→q[j]?=some y→y.op=x.op→Rep p q x.a.toNat y.a.toNat→Rep p q x.b.toNat y.b.toNat→Rep p q i j
theorem exp_pos {p:List Nd} {i n:Nat} {E:List Nd} (h:Exp p i n E):1≤E.length:=by
 cases h with
 | leaf=>simp
 | neg=>simp
 | two=>simp;omega
theorem exp_rep {p:List Nd} {i n:Nat} {E:List Nd} (h:Exp p i n E):∀ pre post:List Nd,pre.length=n→Rep p (pre++E++post) i (n+E.length - 1):=by
 induction h with
 | @leaf i n x hx h9 =>
  intro pre post hn
  refine .leaf hx h9 ?_
  rw[List.append_assoc,List.getElem?_append_right (by simp;omega)];simp[hn]
 | @neg i n x A hx h11 hA ih =>
  intro pre post hn
  have h1:=ih pre ([⟨11,0,v0,[],((n+A.length:Nat):Int) - 1,0⟩]++post) hn;have e:pre++(A ++ [⟨11,0,v0,[],((n+A.length:Nat):Int) - 1,0⟩])++post=pre++A++([⟨11,0,v0,[],((n+A.length:Nat):Int) - 1,0⟩]++post):=by simp
  have:=exp_pos hA
  refine .neg (y:=⟨11,0,v0,[],((n+A.length:Nat):Int) - 1,0⟩) hx h11 ?_ rfl ?_
  ·rw[e,List.getElem?_append_right (by simp;omega)];simp only[List.length_append,List.length_cons,List.length_nil,hn];rw[show n+(A.length+(0+1)) - 1 - (n+A.length)=0 by omega];rfl
  ·rw[e];show Rep p _ _ (((n+A.length:Nat):Int) - 1).toNat
   rw[show (((n+A.length:Nat):Int) - 1).toNat=n+A.length - 1 by omega];exact h1
 | @two i n x A B hx h9 hA hB ihA ihB =>
  intro pre post hn
  have hpA:=exp_pos hA;have hpB:=exp_pos hB;have e1:pre++(A++B ++ [⟨x.op,0,v0,[],((n+A.length:Nat):Int) - 1,((n+A.length+B.length:Nat):Int) - 1⟩])++post=pre++A++(B ++ [⟨x.op,0,v0,[],((n+A.length:Nat):Int) - 1,((n+A.length+B.length:Nat):Int) - 1⟩]++post):=by simp
  have e2:pre++(A++B ++ [⟨x.op,0,v0,[],((n+A.length:Nat):Int) - 1,((n+A.length+B.length:Nat):Int) - 1⟩])++post=(pre++A)++B++([⟨x.op,0,v0,[],((n+A.length:Nat):Int) - 1,((n+A.length+B.length:Nat):Int) - 1⟩]++post):=by simp
  have h1:=ihA pre (B ++ [⟨x.op,0,v0,[],((n+A.length:Nat):Int) - 1,((n+A.length+B.length:Nat):Int) - 1⟩]++post) hn;have h2:=ihB (pre++A) ([⟨x.op,0,v0,[],((n+A.length:Nat):Int) - 1,((n+A.length+B.length:Nat):Int) - 1⟩]++post) (by simp[hn]);refine .two (y:=⟨x.op,0,v0,[],((n+A.length:Nat):Int) - 1,((n+A.length+B.length:Nat):Int) - 1⟩) hx h9 ?_ rfl ?_ ?_
  ·rw[e2,List.getElem?_append_right (by simp;omega)];simp only[List.length_append,List.length_cons,List.length_nil,hn];rw[show n+(A.length+B.length+(0+1)) - 1 - (n+A.length+B.length)=0 by omega];rfl
  ·rw[e1];show Rep p _ _ (((n+A.length:Nat):Int) - 1).toNat
   rw[show (((n+A.length:Nat):Int) - 1).toNat=n+A.length - 1 by omega];exact h1
  ·rw[e2];show Rep p _ _ (((n+A.length+B.length:Nat):Int) - 1).toNat
   rw[show (((n+A.length+B.length:Nat):Int) - 1).toNat=n+A.length+B.length - 1 by omega];exact h2
theorem nrm_valid {cs:List Col} {i j:Nat} {x:Nd} (h:nodeV cs i x=0) (h9:x.op<9):nodeV cs j (nrm x)=0:=by
 obtain ⟨c0,_,c,hc⟩:=node_col h h9;have ho:=node_op h;rw[nv_leaf (K:=x.col.toNat) (by omega) (by omega) (by omega) hc]at h;rw[nv_leaf (x:=nrm x) (K:=x.col.toNat) (by show ¬(x.op<1∨11<x.op);omega) (by show ¬ 9≤x.op;omega) (by show x.col=_;omega) hc];show (if x.op=8 then (0:Int) else if x.op≠7 then (if (if x.op<7 then x.v else v0).nu=true then 12 else checkV c.ty c.nu (if x.op<7 then x.v else v0).nu (if x.op<7 then x.v else v0).n (if x.op<7 then x.v else v0).s)
   else if (if x.op=7 then x.l else []).length=0 then 1 else if 16<(if x.op=7 then x.l else []).length then 7 else firstE (listE c (if x.op=7 then x.l else [])) (if x.op=7 then x.l else []).length)=0
 by_cases h8:x.op=8
 ·rw[if_pos h8]
 ·rw[if_neg h8]at h ⊢;by_cases h7:x.op=7
  ·rw[if_neg (by simp[h7])]at h ⊢;rw[if_pos h7];exact h
  ·rw[if_pos h7]at h ⊢;rw[if_pos (show x.op<7 by omega)];exact h
theorem exp_valid {cs:List Col} {p:List Nd} (hg:GoodP cs p) {i n:Nat} {E:List Nd} (h:Exp p i n E):∀ (k:Nat) (y:Nd),E[k]?=some y→nodeV cs (n+k) y=0∧(-9223372036854775808≤y.v.n∧y.v.n≤9223372036854775807)∧∀ v ∈ y.l,-9223372036854775808≤v.n∧v.n≤9223372036854775807:=by
 have hv0:-9223372036854775808≤v0.n∧v0.n≤9223372036854775807:=by decide
 induction h with
 | @leaf i n x hx h9 =>
  intro k y hy
  have hm:=List.mem_of_getElem? hx;rcases k with _|k
  ·simp at hy
   subst hy;refine ⟨nrm_valid (hg.ok.node i x hx) h9,?_,?_⟩
   ·show -9223372036854775808≤(if x.op<7 then x.v else v0).n∧(if x.op<7 then x.v else v0).n≤9223372036854775807
    split
    ·exact hg.rv x hm
    ·exact hv0
   ·show ∀ v ∈ (if x.op=7 then x.l else []),_
    split
    ·exact hg.rl x hm
    ·intro v hv;simp at hv
  ·simp at hy
 | @neg i n x A hx h11 hA ih =>
  intro k y hy
  have hp:=exp_pos hA;by_cases hk:k<A.length
  ·rw[List.getElem?_append_left hk]at hy;exact ih k y hy
  ·rw[List.getElem?_append_right (by omega)]at hy;obtain ⟨m,hm⟩:∃ m,k - A.length=m:=⟨_,rfl⟩
   rw[hm]at hy;rcases m with _|m
   ·simp at hy
    subst hy;refine ⟨?_,hv0,nofun⟩
    rw[nv_sub (by show ¬((11:Int)<1∨11<(11:Int));decide) (by show (9:Int)≤11;decide),if_neg];show ¬(((n+A.length:Nat):Int) - 1<0∨((n+k:Nat):Int)≤((n+A.length:Nat):Int) - 1∨((11:Int)≠11∧((0:Int)<0∨((n+k:Nat):Int)≤0)))
    omega
   ·simp at hy
 | @two i n x A B hx h9 hA hB ihA ihB =>
  intro k y hy
  have hpA:=exp_pos hA;have hpB:=exp_pos hB;by_cases hk:k<A.length
  ·rw[List.append_assoc,List.getElem?_append_left hk]at hy;exact ihA k y hy
  ·by_cases hk2:k<A.length+B.length
   ·rw[List.getElem?_append_left (by simp;omega),List.getElem?_append_right (by omega)]at hy;have:=ihB _ y hy
    rw[show n+A.length+(k - A.length)=n+k by omega]at this;exact this
   ·rw[List.getElem?_append_right (by simp;omega)]at hy;obtain ⟨m,hm⟩:∃ m,k - (A++B).length=m:=⟨_,rfl⟩
    rw[hm]at hy;rw[List.length_append]at hm;rcases m with _|m
    ·simp at hy
     subst hy;refine ⟨?_,hv0,nofun⟩
     rw[nv_sub (by show ¬(x.op<1∨11<x.op);omega) (by show 9≤x.op;omega),if_neg];show ¬(((n+A.length:Nat):Int) - 1<0∨((n+k:Nat):Int)≤((n+A.length:Nat):Int) - 1∨(x.op≠11∧(((n+A.length+B.length:Nat):Int) - 1<0∨((n+k:Nat):Int)≤((n+A.length+B.length:Nat):Int) - 1)))
     omega
    ·simp at hy
theorem exp_good {cs:List Col} {p:List Nd} (hg:GoodP cs p) {i:Nat} {E:List Nd} (h:Exp p i 0 E) (hl:E.length≤64):GoodP cs E:=by
 have hv:=exp_valid hg h;refine ⟨hg.col,⟨hl,fun k y hy=>by have:=(hv k y hy).1;rwa [Nat.zero_add]at this⟩,fun y hy=>?_,fun y hy=>?_⟩
 ·obtain ⟨k,hk⟩:=List.mem_iff_getElem?.1 hy;exact (hv k y hk).2.1
 ·obtain ⟨k,hk⟩:=List.mem_iff_getElem?.1 hy;exact (hv k y hk).2.2
theorem nrm_vals {x:Nd} (h9:x.op<9):valsP (nrm x)=valsP x:=by
 unfold valsP
 show (if x.op<7 then [if x.op<7 then x.v else v0] else if x.op=8 then [] else if x.op=7 then x.l else [])=_
 by_cases h7:x.op<7
 ·rw[if_pos h7,if_pos h7,if_pos h7]
 ·rw[if_neg h7,if_neg h7];by_cases h8:x.op=8
  ·rw[if_pos h8,if_pos h8]
  ·rw[if_neg h8,if_neg h8,if_pos (by omega)]
theorem nrm_leaf {cs:List Col} {x:Nd} (h9:x.op<9):leafP cs (nrm x)=leafP cs x:=by
 unfold leafP
 show (match cs[x.col.toNat]? with | some c=>leafC c (nrm x) | none=>[])=_
 cases cs[x.col.toNat]? with
 | none=>rfl
 | some c =>
  show leafC c (nrm x)=leafC c x
  unfold leafC
  rw[nrm_vals h9];rfl
theorem txt_rep {cs:List Col} {p q:List Nd} (hp:GoodP cs p) (hq:GoodP cs q) {i j:Nat} (h:Rep p q i j):txtI cs q j=txtI cs p i∧sizI cs q j=sizI cs p i:=by
 induction h with
 | @leaf i j x hx h9 hy =>
  have h9':(nrm x).op<9:=h9;rw[txtI_eq hx,txtI_eq hy,sizI_eq hx,sizI_eq hy];unfold txtN sizN
  rw[if_pos h9,if_pos h9',if_pos h9,if_pos h9',nrm_leaf h9];exact ⟨rfl,rfl⟩
 | @neg i j x y hx h11 hy k11 _ ih =>
  obtain ⟨_,ha,_,_⟩:=hp.sub hx (by omega);obtain ⟨_,ka,_,_⟩:=hq.sub hy (by omega);rw[xt_not hp hx h11,xt_not hq hy k11,sizI_eq hx,sizI_eq hy,ih.1];unfold sizN
  rw[if_neg (by omega),if_pos k11,if_neg (by omega),if_pos h11,sizs_get cs p ha,sizs_get cs q ka,ih.2];exact ⟨rfl,rfl⟩
 | @two i j x y hx h9 hy hop _ _ ihA ihB =>
  obtain ⟨_,ha,_,hb⟩:=hp.sub hx (by omega);obtain ⟨_,ka,_,kb⟩:=hq.sub hy (by omega);rw[xt_two hp hx h9,xt_two hq hy (by omega),sizI_eq hx,sizI_eq hy,ihA.1,ihB.1,hop];unfold sizN
  rw[if_neg (by omega),if_neg (by omega),if_neg (by omega),if_neg (by omega),sizs_get cs p ha,sizs_get cs q ka,sizs_get cs p (hb (by omega)).1,sizs_get cs q (kb (by omega)).1,ihA.2,ihB.2,hop];exact ⟨rfl,rfl⟩
theorem fmt_exp {cs:List Col} {key:Int} {p:List Nd} (hg:GoodP cs p) (hs:schkV cs key=0) {i:Nat} {E:List Nd} (h:Exp p i 0 E) (hl:E.length≤64) (h6:sizI cs p i≤65536):fmtP cs key E=(txtI cs p i,0):=by
 have hq:=exp_good hg h hl;have hpos:=exp_pos h;have hr:=exp_rep h [] [] rfl;simp only[List.nil_append,List.append_nil,Nat.zero_add]at hr;obtain ⟨h1,h2⟩:=txt_rep hg hq hr;have hp:pchkV cs key E=0:=by
  unfold pchkV
  rw[if_neg (by rw[hs];simp),if_neg (by omega)];refine firstE_none fun k hk=>?_
  have hx:=List.getElem?_eq_getElem hk;rw[nodeE_at hx];exact hq.ok.node k _ hx
 unfold fmtP
 rw[if_neg (by rw[hp];simp),if_neg (by omega),h2,if_neg (by omega),h1]
/-! Truth values. -/
def notT (a:Int):Int:=if a=2 then a else 1 - a
def andT (a b:Int):Int:=if a=0∨b=0 then 0 else if a=1∧b=1 then 1 else 2
def orT (a b:Int):Int:=notT (andT (notT a) (notT b))
def truN (lf:Nd→Int) (T:List Int) (x:Nd):Int :=
 if x.op=9 then andT (T.getD x.a.toNat 0) (T.getD x.b.toNat 0) else if x.op=10 then orT (T.getD x.a.toNat 0) (T.getD x.b.toNat 0) else if x.op=11 then notT (T.getD x.a.toNat 0) else lf x
def truO (lf:Nd→Int) (T:List Int):Option Nd→Int
 | some x=>truN lf T x
 | none=>0
def trus (lf:Nd→Int) (p:List Nd):Nat→List Int
 | 0=>[]
 | k+1=>trus lf p k ++ [truO lf (trus lf p k) p[k]?]
theorem trus_len (lf:Nd→Int) (p:List Nd):∀ k,(trus lf p k).length=k
 | 0=>rfl
 | k+1=>by show (_ ++ [_]).length=_;rw[List.length_append,trus_len lf p k];rfl
def truI (lf:Nd→Int) (p:List Nd) (i:Nat):Int:=(trus lf p (i+1)).getD i 0
theorem trus_get (lf:Nd→Int) (p:List Nd) {i:Nat}:∀ {k:Nat},i<k→(trus lf p k).getD i 0=truI lf p i
 | 0,h=>by omega
 | k+1,h=>by
  by_cases e:i=k
  ·subst e;rfl
  ·have ih:=trus_get lf p (i:=i) (k:=k) (by omega);rw[←ih];show (_ ++ [_]).getD i 0=_
   rw[List.getD_eq_getElem?_getD,List.getD_eq_getElem?_getD,List.getElem?_append_left (by rw[trus_len];omega)]
theorem truI_eq {lf:Nd→Int} {p:List Nd} {i:Nat} {x:Nd} (h:p[i]?=some x):truI lf p i=truN lf (trus lf p i) x:=by
 unfold truI
 show (_ ++ [_]).getD i 0=_
 rw[List.getD_eq_getElem?_getD,List.getElem?_append_right (by rw[trus_len];omega),trus_len,Nat.sub_self,h];rfl
theorem tru_rep {cs:List Col} {p q:List Nd} {lf:Nd→Int} (hlf:∀ x:Nd,x.op<9→lf (nrm x)=lf x) (hp:GoodP cs p) (hq:GoodP cs q) {i j:Nat} (h:Rep p q i j):truI lf q j=truI lf p i:=by
 induction h with
 | @leaf i j x hx h9 hy =>
  rw[truI_eq hx,truI_eq hy];unfold truN
  rw[if_neg (show ¬ (nrm x).op=9 by show ¬ x.op=9;omega),if_neg (show ¬ (nrm x).op=10 by show ¬ x.op=10;omega),if_neg (show ¬ (nrm x).op=11 by show ¬ x.op=11;omega),if_neg (by omega),if_neg (by omega),if_neg (by omega)];exact hlf x h9
 | @neg i j x y hx h11 hy k11 _ ih =>
  obtain ⟨_,ha,_,_⟩:=hp.sub hx (by omega);obtain ⟨_,ka,_,_⟩:=hq.sub hy (by omega);rw[truI_eq hx,truI_eq hy];unfold truN
  rw[if_neg (by omega),if_neg (by omega),if_pos k11,if_neg (by omega),if_neg (by omega),if_pos h11,trus_get lf p ha,trus_get lf q ka,ih]
 | @two i j x y hx h9 hy hop _ _ ihA ihB =>
  obtain ⟨_,ha,_,hb⟩:=hp.sub hx (by omega);obtain ⟨_,ka,_,kb⟩:=hq.sub hy (by omega);rw[truI_eq hx,truI_eq hy];unfold truN
  rw[hop,trus_get lf p ha,trus_get lf q ka,trus_get lf p (hb (by omega)).1,trus_get lf q (kb (by omega)).1,ihA,ihB];rcases h9 with e|e
  ·rw[if_pos e,if_pos e]
  ·rw[if_neg (by omega),if_pos e,if_neg (by omega),if_pos e]
end Go.Proofs.YtjnamjkdjcndiaaGreatDoor
