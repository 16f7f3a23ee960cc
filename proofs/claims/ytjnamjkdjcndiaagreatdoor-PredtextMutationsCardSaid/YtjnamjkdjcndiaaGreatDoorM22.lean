/-
  Words, plain laws and contracts on which the walks lean, in one text.
-/
import Derived.Test.YtjnamjkdjcndiaaGreatDoorM21
import Derived.Test.YtjnamjkdjcndiaaGreatDoorM18
import Derived.Test.YtjnamjkdjcndiaaGreatDoorM17
import Derived.Test.YtjnamjkdjcndiaaGreatDoorKPred
import Derived.Test.YtjnamjkdjcndiaaGreatDoorM24
import Derived.Test.YtjnamjkdjcndiaaGreatDoorM16
import Derived.Test.YtjnamjkdjcndiaaGreatDoorM4
import Derived.Test.YtjnamjkdjcndiaaGreatDoorM19
namespace Go.Proofs.YtjnamjkdjcndiaaGreatDoor
open Go.RowKit Go.Sort

def RetPar (w:World) (r:List Nd×Nat×Int) (e:Ending) (w':World):Prop :=
 ∃ nv:Value,e=.returned (.tuple #[nv,.int .i64 (r.2.1:Nat),.int .i64 r.2.2])∧OwnNd w' w.heap.size nv r.1∧Below w.heap.size w w'
theorem RetPar.mk_ {w w':World} {r:List Nd×Nat×Int} {l:List Nd} {k:Nat} {x y:Int} {nv:Value} (h:r=(l,k,x)) (hy:y=(k:Int)) (ho:OwnNd w' w.heap.size nv l) (hb:Below w.heap.size w w'):RetPar w r (.returned (.tuple #[nv,.int .i64 y,.int .i64 x])) w':=by subst h hy;exact ⟨nv,rfl,ho,hb⟩
section
variable {cs:List Col} {key:Int} {T:List UInt8} {j:Nat} {e:Int} {l:List Nd} {i:Nat}
theorem pp_sch (h:schkV cs key≠0):parP cs key T=([],0,schkV cs key):=by unfold parP;rw[if_pos h]
theorem pp_big (h:schkV cs key=0) (h1:65536<T.length):parP cs key T=([],0,7):=by unfold parP;rw[if_neg (by rw[h];simp),if_pos h1]
theorem pp_nil (h:schkV cs key=0) (h1:T.length=0):parP cs key T=([],0,0):=by unfold parP;rw[if_neg (by rw[h];simp),if_neg (by omega),if_pos h1]
theorem pp_go (h:schkV cs key=0) (h1:¬ 65536<T.length) (h2:T.length≠0):parP cs key T=match parN cs T (T.length+1) 0 [] with
  | .error (j,e)=>([],j,e)
  | .ok (i,l)=>if sk T i<T.length then ([],sk T i,2) else (l,0,0):=by unfold parP;rw[if_neg (by rw[h];simp),if_neg h1,if_neg h2];rfl
theorem pp_err (h:schkV cs key=0) (h1:¬ 65536<T.length) (h2:T.length≠0) (h3:parN cs T (T.length+1) 0 []=.error (j,e)):parP cs key T=([],j,e):=by rw[pp_go h h1 h2,h3]
theorem pp_more (h:schkV cs key=0) (h1:¬ 65536<T.length) (h2:T.length≠0) (h3:parN cs T (T.length+1) 0 []=.ok (i,l)) (h4:sk T i<T.length):parP cs key T=([],sk T i,2):=by
 rw[pp_go h h1 h2,h3];show (if sk T i<T.length then _ else _)=_
 rw[if_pos h4]
theorem pp_ok (h:schkV cs key=0) (h1:¬ 65536<T.length) (h2:T.length≠0) (h3:parN cs T (T.length+1) 0 []=.ok (i,l)) (h4:¬ sk T i<T.length):parP cs key T=(l,0,0):=by
 rw[pp_go h h1 h2,h3];show (if sk T i<T.length then _ else _)=_
 rw[if_neg h4]
end
set_option maxRecDepth 100000 in
set_option maxHeartbeats 8000000 in
theorem pparse_any (v:Value) (key:Int) (cs:List Col) (S:ByteArray) (w:World) (hE:Env w) (hs:Sl w 4 v cs.length (cols cs)) (hcl:cs.length≤9223372036854775807) (hnm:∀ c ∈ cs,c.nm.size≤9223372036854775807) (hS:S.size≤9223372036854775807) :
  Calls Tryz.prog 8 #[.agg #[v,.int .i64 key],.string S] w (RetPar w (parP cs key S.data.toList)):=by
 obtain ⟨A,cA,rfl,hc1,hc2⟩:=hs.form;obtain ⟨N0,hN0⟩:∃ N,w.heap.size=N:=⟨_,rfl⟩
 obtain ⟨W,hW⟩:∃ W,W=w.alloc (.cells #[.slice A cs.length cA,.int .i64 key] 28):=⟨_,rfl⟩
 have hb0:Below w.heap.size w W:=by rw[hW];exact (Below.refl _ _).alloc (Nat.le_refl _) _
 have BS:=Lib.hid (show Blk W N0 28 #[.slice A cs.length cA,.int .i64 key] by rw[hW,←hN0];exact Blk.new _ _ _);have HB0:=Lib.hid hb0;have HC:=Lib.hid (schk_any (.slice A cs.length cA) cs key W (hs.below hb0) hcl hnm);have HE:=Lib.hid hE;have HS:=Lib.hid hs;have hT:=size_data S;have HP0:=Lib.hid (pp_sch (cs:=cs) (key:=key) (T:=S.data.toList));have HP1:=Lib.hid (pp_big (cs:=cs) (key:=key) (T:=S.data.toList));have HP2:=Lib.hid (pp_nil (cs:=cs) (key:=key) (T:=S.data.toList));have HP3:=Lib.hid (fun j e=>pp_err (cs:=cs) (key:=key) (T:=S.data.toList) (j:=j) (e:=e));have HP4:=Lib.hid (fun i l=>pp_more (cs:=cs) (key:=key) (T:=S.data.toList) (i:=i) (l:=l));have HP5:=Lib.hid (fun i l=>pp_ok (cs:=cs) (key:=key) (T:=S.data.toList) (i:=i) (l:=l));have HV:=Lib.hid (fun h=>schk_valid (l:=cs) (key:=key) h);rw[hT]at HP1 HP2 HP3 HP4 HP5;obtain ⟨E,hE⟩:∃ E,schkV cs key=E:=⟨_,rfl⟩
 rw[hE]at HC HP0 HP1 HP2 HP3 HP4 HP5 HV;clear hs hE hb0 hT;go_enter Tryz.func8,Tryz.ntmps8
 go_upto_region 1 with (fail)
 rw[←hW];try simp only[hN0]
 clear hW;have bb:=BS.out;have s0:=bb.cell 0;have s1:=bb.cell 1;simp only[jA,jZ,jS]at s0 s1;clear bb;go_wp2_with fail
 refine HC.out.mono ?_;rintro _ w2 ⟨rfl,hb2⟩;have HB2:=Lib.hid (bst HB0.out hb2);have BS2:=Lib.hid (BS.out.below hb2 BS.out.lt);clear hb2 HC s0 s1;by_cases hE:E=0
 case neg =>
  have q1:(E != 0)=true:=by simpa using hE
  have HR:=Lib.hid (HP0.out hE);clear hE HP0 HP1 HP2 HP3 HP4 HP5 HV;go_wp2;go_ret3
  exact RetPar.mk_ HR.out rfl (OwnNd.nil _ _) HB2.out
 case pos =>
 subst hE;have HV:=Lib.hid (HV.out rfl);by_cases hbig:65536<S.size
 ·have q2:decide (65536<S.size)=true:=decide_eq_true hbig;have q2':decide ((65536:Int)<(S.size:Int))=true:=decide_eq_true (by omega);have HR:=Lib.hid (HP1.out rfl hbig);clear hbig HP0 HP1 HP2 HP3 HP4 HP5 HV;go_wp2;go_ret3
  exact RetPar.mk_ HR.out rfl (OwnNd.nil _ _) HB2.out
 have q2:decide (65536<S.size)=false:=decide_eq_false hbig;have q2':decide ((65536:Int)<(S.size:Int))=false:=decide_eq_false (by omega);by_cases h0:S.size=0
 ·obtain ⟨e1,e2⟩:=empty_of (W:=S) (l:=[]) (by have:=size_data S;rw[h0]at this;exact List.length_eq_zero_iff.1 this) rfl;have HR:=Lib.hid (HP2.out rfl h0);clear h0 hbig HP0 HP1 HP2 HP3 HP4 HP5 HV;go_wp2;go_ret3
  exact RetPar.mk_ HR.out rfl (OwnNd.nil _ _) HB2.out
 have e1:=full_of (W:=S) (l:=S.data.toList) rfl (by intro h;have:=size_data S;rw[h]at this;exact h0 this.symm);have hS6:S.size≤65536:=by omega
 have HP3':=Lib.hid (fun j e=>HP3.out j e rfl hbig h0);have HP4':=Lib.hid (fun i l=>HP4.out i l rfl hbig h0);have HP5':=Lib.hid (fun i l=>HP5.out i l rfl hbig h0);have bb:=BS2.out;have s0:=bb.cell 0;have s1:=bb.cell 1;simp only[jA,jZ,jS]at s0 s1;clear bb HP0 HP1 HP2 HP3 HP4 HP5 hbig h0;obtain ⟨g,hg⟩:∃ g,w2.heap.size=g:=⟨_,rfl⟩
 obtain ⟨X,hX⟩:∃ X,X=w2.alloc (.cells #[.slice A cs.length cA,.int .i64 key,.string S,.int .i64 0,.slice none 0 0,.int .i64 0,.int .i64 0] 54):=⟨_,rfl⟩
 have hwg:w.heap.size≤g:=by rw[←hg];exact HB2.out.size
 have XB:=Lib.hid (show Blk X g 54 #[.slice A cs.length cA,.int .i64 key,.string S,.int .i64 ((0:Nat):Int),.slice none 0 0,.int .i64 0,.int .i64 0] by rw[hX,←hg];exact Blk.new _ _ _);have XK:=Lib.hid (show Below w.heap.size w X by rw[hX];exact bst HB2.out (below_new _ _));have hx:PCtx w g (.slice A cs.length cA) S cs w.heap.size:=⟨hS6,HS.out,HE.out,by have:=HV.out.2.1;omega,hwg,Nat.le_refl _⟩
 have HN:=Lib.hid (pnodeT_any w g w.heap.size (.slice A cs.length cA) key 0 0 S cs hx (S.size+1) 0 (.slice none 0 0) [] X XB.out (Nat.zero_le _) (by omega) (OwnNd.nil _ _) (by simp) XK.out XK.out.size);clear hx HV HS;go_upto_region 9 with (fail)
 rw[←hX];try simp only[hg]
 clear hX hg s0 s1;go_wp2_with fail
 refine HN.out.mono ?_;rintro e w3 hret;cases h:parN cs S.data.toList (S.size+1) 0 [] with
 | error r =>
  obtain ⟨k,er⟩:=r;rw[h]at hret;have HR:=Lib.hid (HP3'.out k er h);obtain ⟨hk,rfl,i0,n0,c0,A0,hn,hB⟩:=hret;have HB3:=Lib.hid hB;have HK3:=Lib.hid (below_kp XK.out hk (fun q h=>by
   rcases h with h|h
   ·omega
   ·cases h) XK.out.size)
  clear hk hB h HP3' HP4' HP5' HN;have bb:=HB3.out;have c5:=bb.cell 5;have c6:=bb.cell 6;simp only[jA,jZ,jS]at c5 c6;clear bb;go_wp2_with fail
  go_quiet (fail)
  go_wp2;go_ret3
  exact RetPar.mk_ HR.out rfl (OwnNd.nil _ _) (below_drewN HK3.out _)
 | ok r =>
  obtain ⟨i,l⟩:=r;rw[h]at hret;obtain ⟨hk,rfl,hi,hl1,hl2,nv,hB,hO,hob⟩:=hret;have HB3:=Lib.hid hB;have HO3:=Lib.hid hO;have HK3:=Lib.hid (below_kp XK.out hk (fun q h=>by
   rcases h with h|h
   ·omega
   ·cases h) XK.out.size)
  have HP4:=Lib.hid (HP4'.out i l h);have HP5:=Lib.hid (HP5'.out i l h);obtain ⟨AN,cN,rfl,_,_⟩:=hO.form;clear hk hB hO hob h HP3' HP4' HP5' HN;go_wp2_with fail
  refine (pskip_any g i _ _ key 0 0 S w3 HB3.out hi hS6).mono ?_;rintro _ w4 ⟨rfl,hB,ho⟩;have HB4:=Lib.hid hB;have HO4:=Lib.hid (HO3.out.onlyP HB3.out ho);have HK4:=Lib.hid (below_only HK3.out ho hwg HK3.out.size);clear hB ho;obtain ⟨m,hm⟩:∃ m,sk S.data.toList i=m:=⟨_,rfl⟩
  rw[hm]at HB4 HP4 HP5;clear hm;have bb:=HB4.out;have c3:=bb.cell 3;have c4:=bb.cell 4;simp only[jA,jZ,jS]at c3 c4;clear bb;by_cases hlt:m<S.size
  ·have q3:decide (m<S.size)=true:=decide_eq_true hlt;have q3':decide ((m:Int)<(S.size:Int))=true:=decide_eq_true (by omega);have HR:=Lib.hid (HP4.out hlt);clear hlt HP4 HP5;go_wp2_with fail
   go_quiet (fail)
   go_wp2;go_ret3
   exact RetPar.mk_ HR.out rfl (OwnNd.nil _ _) (below_drewN HK4.out _)
  ·have q3:decide (m<S.size)=false:=decide_eq_false hlt;have q3':decide ((m:Int)<(S.size:Int))=false:=decide_eq_false (by omega);have HR:=Lib.hid (HP5.out hlt);clear hlt HP4 HP5;go_wp2;go_ret3
   exact RetPar.mk_ HR.out rfl HO4.out HK4.out
theorem GenP.good {cs:List Col} {key:Int} {l:List Nd} (h:GenP cs l) (hs:schkV cs key=0):GoodP cs l :=
 ⟨schk_good hs,⟨by have:=h.len;omega,fun i x hx=>(h.ok i x hx).ok⟩,fun x hx=>by obtain ⟨i,hi⟩:=List.mem_iff_getElem?.1 hx;have:=(h.ok i x hi).rv;exact ⟨this.1,this.2.1⟩,
  fun x hx v hv=>by obtain ⟨i,hi⟩:=List.mem_iff_getElem?.1 hx;have:=(h.ok i x hi).rl v hv;exact ⟨this.1,this.2.1⟩⟩
theorem GoodP.chk {cs:List Col} {key:Int} {l:List Nd} (h:GoodP cs l) (hs:schkV cs key=0):pchkV cs key l=0:=by
 unfold pchkV
 rw[if_neg (by rw[hs];simp),if_neg (by have:=h.ok.len;omega)];refine firstE_none fun k hk=>?_
 have hx:=List.getElem?_eq_getElem hk;rw[nodeE_at hx];exact h.ok.node k _ hx
theorem fmt_cases {cs:List Col} {key:Int} {l:List Nd} (h:GoodP cs l) (hs:schkV cs key=0):(fmtP cs key l).1=[]∨∃ (i:Nat) (x:Nd) (E:List Nd),l[i]?=some x∧i+1=l.length∧fmtP cs key l=(txtI cs l i,0)∧sizI cs l i≤65536∧(txtI cs l i).length≤65536∧Exp l i 0 E:=by
 have hc:=h.chk hs;by_cases h0:l.length=0
 ·left;unfold fmtP;rw[if_neg (by rw[hc];simp),if_pos h0]
 ·by_cases h6:65536<sizI cs l (l.length - 1)
  ·left;unfold fmtP;rw[if_neg (by rw[hc];simp),if_neg h0,if_pos h6]
  ·right
   have hx:=List.getElem?_eq_getElem (show l.length - 1<l.length by omega);obtain ⟨E,hE⟩:=exp_ex h _ _ hx 0;refine ⟨l.length - 1,_,E,hx,by omega,?_,by omega,?_,hE⟩
   ·unfold fmtP;rw[if_neg (by rw[hc];simp),if_neg h0,if_neg h6]
   ·rw[(siz_txt h.ok _ _ hx (by omega)).1];omega
theorem sp_law {cs:List Col} {key:Int} {l:List Nd} (h:GoodP cs l) (hs:schkV cs key=0) (k:Nat) {R Q:List Nd×Nat×Int} (hR:parP cs key (fmtP cs key l).1=R) (hQ:parP cs key (spcL k 0 (fmtP cs key l).1)=Q) :
  (fmtP cs key l).1.length≤65536∧(Q.2.2=R.2.2∨Q.2.2=7)∧(Q.2.2=0→R.1=Q.1)∧(R.2.2=0∨R.2.2=7):=by
 rcases fmt_cases h hs with he|⟨i,x,E,hx,_,he,_,hl,hE⟩
 ·rw[he]at hR hQ ⊢;have e:parP cs key []=([],0,0):=pp_nil hs rfl;rw[show spcL k 0 []=[] from rfl]at hQ;rw[e]at hR hQ;subst hR hQ;exact ⟨by simp,.inl rfl,fun _=>rfl,.inl rfl⟩
 ·rw[he]at hR hQ ⊢;have hR:=hR;have h1:=parse_words h hs hx hE (U:=txtI cs l i) rfl hl;rw[show parP cs key (txtI cs l i)=R from hR]at h1;have e1:R.1=if E.length≤64 then E else []:=by
   have:=congrArg Prod.fst h1
   simp only at this
   rw[this];split <;> rfl
  have e2:R.2.2=if E.length≤64 then 0 else 7:=by
   have:=congrArg Prod.snd h1
   simp only at this
   rw[this];split <;> rfl
  refine ⟨hl,?_⟩
  have hQ:parP cs key (spcL k 0 (txtI cs l i))=Q:=hQ;by_cases hu:(spcL k 0 (txtI cs l i)).length≤65536
  ·have h2:=parse_words h hs hx hE (U:=spcL k 0 (txtI cs l i)) (toks_spc k _ 0 []) hu;rw[hQ]at h2;have e3:Q.1=if E.length≤64 then E else []:=by
    have:=congrArg Prod.fst h2
    simp only at this
    rw[this];split <;> rfl
   have e4:Q.2.2=if E.length≤64 then 0 else 7:=by
    have:=congrArg Prod.snd h2
    simp only at this
    rw[this];split <;> rfl
   refine ⟨.inl (by rw[e2,e4]),fun _=>by rw[e1,e3],?_⟩
   rw[e2];split
   ·exact .inl rfl
   ·exact .inr rfl
  ·rw[pp_big hs (by omega)]at hQ;subst hQ;refine ⟨.inr rfl,(fun h=>by cases h),?_⟩
   rw[e2];split
   ·exact .inl rfl
   ·exact .inr rfl
open Go.RowKit Go.Sort

theorem gen_ty2 {l:List Col} (h:GenS l.length l):∀ c ∈ l,1≤c.ty∧c.ty≤5:=by
 intro c hc
 obtain ⟨i,hi⟩:=List.mem_iff_getElem?.1 hc;exact (h i c hi).ty
theorem gen_nm2 {l:List Col} (h:GenS l.length l):∀ c ∈ l,c.nm.size≤1000:=fun c hc=>by have:=gen_small h c hc;omega
theorem GenP.bd2 {ys:List Col} {l:List Nd} (h:GenP ys l) (hl:ys.length≤4) (hn:∀ c ∈ ys,c.nm.size≤1000):PBd ys l :=
 ⟨by omega,by have:=h.len;omega,fun c hc=>by have:=hn c hc;omega,fun x hx=>by obtain ⟨i,hi⟩:=List.mem_iff_getElem?.1 hx;exact (h.ok i x hi).rv,fun x hx=>by obtain ⟨i,hi⟩:=List.mem_iff_getElem?.1 hx;exact (h.ok i x hi).rl⟩

set_option maxRecDepth 100000 in
set_option maxHeartbeats 4000000 in
theorem rspace_any (g i:Nat) (sv nv:Value) (key wh e0:Int) (S:ByteArray) (w:World) (hB:Blk w g 106 #[sv,.int .i64 key,.string S,.int .i64 i,nv,.int .i64 e0,.int .i64 wh]) (hi:i≤S.size) (hS:S.size≤65536) :
  Calls Tryz.prog 59 #[.pointer (some ⟨g,0,none⟩)] w fun e w'=>e=.returned (.tuple #[])∧Blk w' g 106 #[sv,.int .i64 key,.string S,.int .i64 (sk S.data.toList i),nv,.int .i64 e0,.int .i64 wh]∧Only g w w':=by
 have HB:=Lib.hid hB;clear hB;go_enter Tryz.func59,Tryz.ntmps59
 go_wp2_with fail
 go_loopg [] (S.size - i) (fun n wr=>∃ j:Nat,j≤S.size∧n=S.size - j∧Blk wr g 106 #[sv,.int .i64 key,.string S,.int .i64 j,nv,.int .i64 e0,.int .i64 wh]∧Hid (sk S.data.toList j=sk S.data.toList i)∧Only g w wr)
 case atStart=>exact ⟨i,hi,rfl,HB.out,Lib.hid rfl,Only.refl _ _⟩
 case round =>
  obtain ⟨j,hj,hn,hb,hsk,ho⟩:=hrel;have HN:=Lib.hid hn;have HBJ:=Lib.hid hb;have HO:=Lib.hid ho;clear hn ho;have c2:=hb.cell 2;have c3:=hb.cell 3;have f3:=hb.frozen 3;simp only[jA,jZ,jS]at c2 c3;clear hb;by_cases hlt:j<S.size
  ·by_cases h32:S[j]=32
   ·have q1:((S[j].toNat:Int)==32)=true:=by rw[h32];rfl
    have HSK:=Lib.hid (show sk S.data.toList (j+1)=sk S.data.toList i by rw[←hsk.out];exact (sk_go (by rw[get_data S j hlt,h32])).symm);have q2:IntKind.i64.wrap ((j:Int)+1)=(j:Int)+1:=IntWalk.i64_in _ (by omega);clear h32 hsk;go_wp2_with fail
    go_quiet (fail)
    go_wp2;have kb:=(HBJ.out.drewN nq).set_ 3 (.int .i64 ((j:Int)+1));simp only[jI,jY,jT]at kb;have ko:=(HO.out.drewN nq).set_ 3 (.int .i64 ((j:Int)+1));go_roundg (S.size - (j+1))
    case rel=>exact ⟨j+1,by omega,rfl,by rw[show ((j+1:Nat):Int)=(j:Int)+1 by omega];exact kb,Lib.hid HSK.out,ko⟩
    case measure=>have:=HN.out;omega
   ·have q1:((S[j].toNat:Int)==32)=false:=by
     rw[beq_eq_false_iff_ne];intro h
     exact h32 (UInt8.toNat_inj.1 (by show S[j].toNat=32;omega))
    have HSK:=Lib.hid (show sk S.data.toList i=j by rw[←hsk.out];exact sk_stop (by rw[get_data S j hlt];simpa using h32));clear h32 hsk;go_wp2_with fail
    go_quiet (fail)
    go_wp2;rw[HSK.out];exact bodyPost_end (results_none Tryz.results59 _ _ _) rfl ⟨rfl,HBJ.out,HO.out.drewN nq⟩
  ·have HSK:=Lib.hid (show sk S.data.toList i=j by rw[←hsk.out];exact sk_stop (by rw[List.getElem?_eq_none (by rw[size_data];omega)];simp));clear hsk;go_wp2_with fail
   go_quiet (fail)
   go_wp2;rw[HSK.out];exact bodyPost_end (results_none Tryz.results59 _ _ _) rfl ⟨rfl,HBJ.out,HO.out.drewN nq⟩
set_option maxRecDepth 100000 in
theorem rfail_first (g i:Nat) (sv nv:Value) (key wh a b:Int) (S:ByteArray) (w:World) (hB:Blk w g 106 #[sv,.int .i64 key,.string S,.int .i64 i,nv,.int .i64 0,.int .i64 wh]) :
  Calls Tryz.prog 60 #[.pointer (some ⟨g,0,none⟩),.int .i64 a,.int .i64 b] w fun e w'=>e=.returned (.tuple #[])∧Blk w' g 106 #[sv,.int .i64 key,.string S,.int .i64 i,nv,.int .i64 a,.int .i64 b]∧Only g w w':=by
 have HB:=Lib.hid hB;have c5:=hB.cell 5;have c6:=hB.cell 6;have f5:=hB.frozen 5;have f6:=hB.frozen 6;simp only[jA,jZ,jS]at c5 c6;clear hB;go_enter Tryz.func60,Tryz.ntmps60
 go_wp2;go_end0
 have kb:=(HB.out.set_ 5 (.int .i64 a)).set_ 6 (.int .i64 b);simp only[jI,jY,jT]at kb;exact ⟨rfl,kb,((Only.refl g w).set_ 5 _).set_ 6 _⟩
set_option maxRecDepth 100000 in
theorem rfail_later (g i:Nat) (sv nv:Value) (key wh e0 a b:Int) (S:ByteArray) (w:World) (hB:Blk w g 106 #[sv,.int .i64 key,.string S,.int .i64 i,nv,.int .i64 e0,.int .i64 wh]) (he:(e0==0)=false) :
  Calls Tryz.prog 60 #[.pointer (some ⟨g,0,none⟩),.int .i64 a,.int .i64 b] w fun e w'=>e=.returned (.tuple #[])∧Blk w' g 106 #[sv,.int .i64 key,.string S,.int .i64 i,nv,.int .i64 e0,.int .i64 wh]∧Only g w w':=by
 have HB:=Lib.hid hB;have c5:=hB.cell 5;simp only[jA,jZ,jS]at c5;clear hB;go_enter Tryz.func60,Tryz.ntmps60
 go_wp2;go_end0
 exact ⟨rfl,HB.out,Only.refl _ _⟩
def RetRExp (w:World) (g:Nat) (sv nv:Value) (key wh:Int) (S:ByteArray) (r:Except (Nat×Int) Nat) (e:Ending) (w':World):Prop:=e=.returned (.tuple #[])∧Only g w w'∧match r with
 | .ok j=>Blk w' g 106 #[sv,.int .i64 key,.string S,.int .i64 j,nv,.int .i64 0,.int .i64 wh]
 | .error (k,x)=>x≠0∧∃ i:Nat,i≤S.size∧Blk w' g 106 #[sv,.int .i64 key,.string S,.int .i64 i,nv,.int .i64 x,.int .i64 k]
def RetRErr (w:World) (g:Nat) (sv nv:Value) (key wh e0:Int) (S:ByteArray) (e:Ending) (w':World):Prop:=e=.returned (.tuple #[])∧Only g w w'∧∃ i:Nat,i≤S.size∧Blk w' g 106 #[sv,.int .i64 key,.string S,.int .i64 i,nv,.int .i64 e0,.int .i64 wh]
set_option maxRecDepth 100000 in
set_option maxHeartbeats 4000000 in
theorem rexp_later (g i:Nat) (sv nv:Value) (key wh e0:Int) (S:ByteArray) (b:Int) (w:World) (hB:Blk w g 106 #[sv,.int .i64 key,.string S,.int .i64 i,nv,.int .i64 e0,.int .i64 wh]) (hi:i≤S.size) (hS:S.size≤65536) (he:(e0 != 0)=true) :
  Calls Tryz.prog 84 #[.pointer (some ⟨g,0,none⟩),.int .u8 b] w (RetRErr w g sv nv key wh e0 S):=by
 have HSK:=Lib.hid (rspace_any g i sv nv key wh e0 S w hB hi hS);have hk:=sk_le (T:=S.data.toList) (by rw[size_data];exact hi);rw[size_data]at hk;clear hB;go_enter Tryz.func84,Tryz.ntmps84
 go_wp2_with fail
 refine HSK.out.mono ?_;rintro _ w1 ⟨rfl,hB,ho⟩;have HB:=Lib.hid hB;have HO:=Lib.hid ho;have c5:=hB.cell 5;simp only[jA,jZ,jS]at c5;clear hB ho HSK;go_wp2;go_end0
 exact ⟨rfl,HO.out,_,hk,HB.out⟩
set_option maxRecDepth 100000 in
set_option maxHeartbeats 4000000 in
theorem rexp_any (g i:Nat) (sv nv:Value) (key wh:Int) (S:ByteArray) (b:UInt8) (w:World) (hB:Blk w g 106 #[sv,.int .i64 key,.string S,.int .i64 i,nv,.int .i64 0,.int .i64 wh]) (hi:i≤S.size) (hS:S.size≤65536) :
  Calls Tryz.prog 84 #[.pointer (some ⟨g,0,none⟩),.int .u8 (b.toNat:Int)] w (RetRExp w g sv nv key wh S (expP S.data.toList b i)):=by
 have HSK:=Lib.hid (rspace_any g i sv nv key wh 0 S w hB hi hS);have hk:=sk_le (T:=S.data.toList) (by rw[size_data];exact hi);rw[size_data]at hk;obtain ⟨k,hkk⟩:∃ k,sk S.data.toList i=k:=⟨_,rfl⟩
 have HK:=Lib.hid hkk;rw[hkk]at HSK hk;clear hB hkk;go_enter Tryz.func84,Tryz.ntmps84
 go_wp2_with fail
 refine HSK.out.mono ?_;rintro _ w1 ⟨rfl,hB,ho⟩;have HB:=Lib.hid hB;have HO:=Lib.hid ho;have c2:=hB.cell 2;have c3:=hB.cell 3;have c5:=hB.cell 5;have f3:=hB.frozen 3;simp only[jA,jZ,jS]at c2 c3 c5;clear hB ho HSK;by_cases hlt:k<S.size
 ·have hne:((k:Int)==(S.size:Int))=false:=by rw[beq_eq_false_iff_ne];omega
  by_cases hb:S[k]=b
  ·have q1:((S[k].toNat:Int) != (b.toNat:Int))=false:=by rw[hb];simp
   have HR:=Lib.hid (exp_ok (T:=S.data.toList) (b:=b) (i:=i) (by rw[HK.out,get_data S k hlt,hb]));have q2:IntKind.i64.wrap ((k:Int)+1)=(k:Int)+1:=IntWalk.i64_in _ (by omega);clear hb;go_wp2_with fail
   go_quiet (fail)
   go_wp2;go_end0
   rw[HR.out,HK.out];have kb:=(HB.out.drewN nq).set_ 3 (.int .i64 ((k:Int)+1));simp only[jI,jY,jT]at kb;exact ⟨rfl,(HO.out.drewN nq).set_ 3 _,by dsimp only;rw[show ((k+1:Nat):Int)=(k:Int)+1 by omega];exact kb⟩
  ·have q1:((S[k].toNat:Int) != (b.toNat:Int))=true:=by
    rw[bne_iff_ne];intro h
    exact hb (UInt8.toNat_inj.1 (by omega))
   have HR:=Lib.hid (exp_err (T:=S.data.toList) (b:=b) (i:=i) (by rw[HK.out,get_data S k hlt];simpa using hb));clear hb;go_wp2_with fail
   go_quiet (fail)
   have HB1:=Lib.hid (HB.out.drewN nq);have HO1:=Lib.hid (HO.out.drewN nq);go_wp2_with fail
   refine (rfail_first g k sv nv key wh _ _ S _ HB1.out).mono ?_;rintro _ w2 ⟨rfl,hB2,ho2⟩;have HB2:=Lib.hid hB2;have HO2:=Lib.hid ho2;clear hB2 ho2;go_wp2;go_end0
   rw[HR.out,HK.out];exact ⟨rfl,HO1.out.trans HO2.out,by decide,k,hk,HB2.out⟩
 ·have hne:((k:Int)==(S.size:Int))=true:=by rw[beq_iff_eq];omega
  have HR:=Lib.hid (exp_err (T:=S.data.toList) (b:=b) (i:=i) (by rw[HK.out,List.getElem?_eq_none (by rw[size_data];omega)];simp));go_wp2_with fail
  go_quiet (fail)
  have HB1:=Lib.hid (HB.out.drewN nq);have HO1:=Lib.hid (HO.out.drewN nq);go_wp2_with fail
  refine (rfail_first g k sv nv key wh _ _ S _ HB1.out).mono ?_;rintro _ w2 ⟨rfl,hB2,ho2⟩;have HB2:=Lib.hid hB2;have HO2:=Lib.hid ho2;clear hB2 ho2;go_wp2;go_end0
  rw[HR.out,HK.out];exact ⟨rfl,HO1.out.trans HO2.out,by decide,k,hk,HB2.out⟩
end Go.Proofs.YtjnamjkdjcndiaaGreatDoor
