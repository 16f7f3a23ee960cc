/-
  Words, plain laws and contracts on which the walks lean, in one text.
-/
import Derived.Test.YtjnamjkdjcndiaaGreatDoorM15
import Derived.Test.YtjnamjkdjcndiaaGreatDoorM25
namespace Go.Proofs.YtjnamjkdjcndiaaGreatDoor
open Go.RowKit Go.Sort
def cId:Col:=⟨{ data:=#[105,100] },1,0,false⟩
def cPr:Col:=⟨{ data:=#[112,114,105,99,101] },5,2,true⟩
def twoC:List Col:=[cId,cPr]
def nd22 (op col n a b:Int):Nd:=⟨op,col,⟨false,n,{ data:=#[] }⟩,[],a,b⟩
def nodesP:List Nd:=[nd22 6 0 3 0 0,nd22 8 1 0 0 0,nd22 11 0 0 1 0,nd22 9 0 0 0 2]
def text22:List UInt8:=[40,97,110,100,32,40,103,101,32,105,100,32,51,41,32,40,110,111,116,32,40,110,117,108,108,32,112,114,105,99,101,41,41,41]
theorem nodes_chk:pchkV twoC 0 nodesP=0:=by decide +kernel
theorem blk_slN {w:World} {g n sz:Nat} {t:TypeId} {cs:Array Value} (h:Blk w g t cs) (hn:cs.toList.length=n * sz) (hm:n≤maxLen):Sl w sz (.slice (some ⟨g,0,none⟩) n n) n cs.toList :=
 ⟨_,n,rfl,Nat.le_refl _,hm,hn,fun _=>⟨_,rfl,h.lt,fun j u hj=>by
  rw[Addr.add_lit,h.cell (0+j),Nat.zero_add];rw[←Array.getElem?_toList];exact hj⟩⟩
def RetTwo (w:World) (e:Ending) (w':World):Prop:=∃ g,e=.returned (.agg #[.slice (some ⟨g,0,none⟩) 2 2,.int .i64 0])∧Sl w' 4 (.slice (some ⟨g,0,none⟩) 2 2) 2 (cols twoC)∧Below w.heap.size w w'
set_option maxRecDepth 100000 in
set_option maxHeartbeats 8000000 in
theorem two_any (w:World):Calls Tryz.prog 9 #[] w (RetTwo w):=by
 obtain ⟨W2,hW⟩:∃ W,W=(w.alloc (.cells #[.slice (some ⟨w.heap.size+1,0,none⟩) 2 2,.int .i64 0] 28)).alloc (.cells #[.string { data:=#[105,100] },.int .i64 1,.int .i64 0,.bool false,.string { data:=#[112,114,105,99,101] },.int .i64 5,.int .i64 2,.bool true] 56):=⟨_,rfl⟩
 have hb0:Below w.heap.size w W2:=by rw[hW];exact abelS _ _ _
 have BR:=Lib.hid (show Blk W2 w.heap.size 28 #[.slice (some ⟨w.heap.size+1,0,none⟩) 2 2,.int .i64 0] by rw[hW];exact (Blk.new _ _ _).alloc _);have BC:=Lib.hid (show Blk W2 (w.heap.size+1) 56 #[.string { data:=#[105,100] },.int .i64 1,.int .i64 0,.bool false,.string { data:=#[112,114,105,99,101] },.int .i64 5,.int .i64 2,.bool true] by rw[hW];have h:=Blk.new (w.alloc (.cells #[.slice (some ⟨w.heap.size+1,0,none⟩) 2 2,.int .i64 0] 28)) 56 #[.string { data:=#[105,100] },.int .i64 1,.int .i64 0,.bool false,.string { data:=#[112,114,105,99,101] },.int .i64 5,.int .i64 2,.bool true];simpa using h);have HB0:=Lib.hid hb0;have d0:=BR.out.cell 0;have d1:=BR.out.cell 1;simp only[jA,jZ,jS]at d0 d1;clear hb0;go_enter Tryz.func9,Tryz.ntmps9
 go_wp2;try rw[←hW]
 exact bodyPost_ret (v:=.agg #[.slice (some ⟨w.heap.size+1,0,none⟩) 2 2,.int .i64 0]) (by simp[results,Tryz.results9,go_sem,d0,d1]) rfl ⟨_,rfl,blk_slN (cs:=#[.string { data:=#[105,100] },.int .i64 1,.int .i64 0,.bool false,.string { data:=#[112,114,105,99,101] },.int .i64 5,.int .i64 2,.bool true]) BC.out rfl (by decide),HB0.out⟩
theorem SlNd.of_blk {w:World} {g:Nat} {t:TypeId} {cs:Array Value} {l:List Nd} (h:Blk w g t cs) (hc:cs.toList=nds l (l.map fun _=>.slice none 0 0)) (hl:∀ x ∈ l,x.l=[]) (hm:l.length≤maxLen):SlNd w (.slice (some ⟨g,0,none⟩) l.length l.length) l:=by
 refine ⟨l.map fun _=>.slice none 0 0,List.length_map ..,?_,fun k x u hk hu=>?_⟩
 ·rw[←hc];exact blk_slN h (by rw[hc,nds_length (by simp)]) hm
 ·rw[List.getElem?_map,hk]at hu;injection hu with hu
  subst hu;rw[hl x (List.mem_of_getElem? hk)];exact Sl.nil w 3
def RetNds (w:World) (l:List Nd) (e:Ending) (w':World):Prop:=∃ v,e=.returned v∧SlNd w' v l∧Below w.heap.size w w'
set_option maxRecDepth 100000 in
set_option maxHeartbeats 8000000 in
theorem nodes_any (w:World):Calls Tryz.prog 12 #[] w (RetNds w nodesP):=by
 go_enter Tryz.func12,Tryz.ntmps12
 go_wp2;go_ret;exact ⟨_,rfl,SlNd.of_blk (l:=nodesP) (Blk.new _ _ _) rfl (by intro x hx;simp[nodesP,nd22]at hx;rcases hx with rfl | rfl | rfl | rfl <;> rfl) (by decide),(Below.refl _ _).alloc (Nat.le_refl _) _⟩
theorem text_any (w:World):Calls Tryz.prog 10 #[] w fun e w'=>e=.returned (.string ⟨text22.toArray⟩)∧w=w':=by
 go_enter Tryz.func10,Tryz.ntmps10
 go_wp2;go_ret;exact ⟨rfl,rfl⟩
theorem two_bd {p:List Nd} (hl:p.length≤1000) (hp:∀ x ∈ p,VR x.v) (he:∀ x ∈ p,x.l=[]):PBd twoC p :=
 ⟨by decide,by omega,fun c hc=>by simp[twoC]at hc;rcases hc with rfl | rfl <;> decide,hp,fun x hx e h=>by rw[he x hx]at h;simp at h⟩
theorem vr_small {n:Int} (h0:0≤n) (h1:n≤1000):VR ⟨false,n,{ data:=#[] }⟩:=⟨by show -9223372036854775808≤n;omega,by show n≤9223372036854775807;omega,Nat.zero_le _⟩
theorem nodes_bd:PBd twoC nodesP:=two_bd (by decide) (fun x hx=>by simp[nodesP,nd22]at hx;rcases hx with rfl | rfl | rfl | rfl <;> exact vr_small (by decide) (by decide)) (fun x hx=>by simp[nodesP,nd22]at hx;rcases hx with rfl | rfl | rfl | rfl <;> rfl)
theorem three_txt:vtxt cId ⟨false,3,{ data:=#[] }⟩=[51]:=by
 have e:fmtV 1 0 true false 3 { data:=#[] }=(Lib.itoa 3,0):=by
  unfold fmtV
  rw[if_neg (by decide),show checkV 1 true false 3 { data:=#[] }=0 by decide +kernel,if_neg (by decide),if_neg (by decide),if_neg (by decide),if_neg (by decide),if_neg (by decide),if_neg (by decide)]
 show (fmtV 1 0 true false 3 { data:=#[] }).1=_
 rw[e];decide +kernel
theorem n0_txt:txtI twoC nodesP 0=[40,103,101,32,105,100,32,51,41]:=by
 rw[txt_leaf (cs:=twoC) (p:=nodesP) (i:=0) (x:=nd22 6 0 3 0 0) rfl (by decide)];show leafC cId (nd22 6 0 3 0 0)=_
 unfold leafC
 have:vtxts cId (valsP (nd22 6 0 3 0 0))=[32,51]:=by
  show (32::vtxt cId ⟨false,3,{ data:=#[] }⟩) ++ []=_
  rw[three_txt];rfl
 rw[this];rfl
theorem n1_txt:txtI twoC nodesP 1=[40,110,117,108,108,32,112,114,105,99,101,41]:=by
 rw[txt_leaf (cs:=twoC) (p:=nodesP) (i:=1) (x:=nd22 8 1 0 0 0) rfl (by decide)];rfl
theorem nodes_txt:txtI twoC nodesP 3=text22:=by
 have h2:=txt_not (cs:=twoC) (p:=nodesP) (i:=2) (x:=nd22 11 0 0 1 0) rfl rfl (by decide);rw[show (nd22 11 0 0 1 0).a.toNat=1 from rfl,n1_txt]at h2;rw[txt_two (x:=nd22 9 0 0 0 2) rfl (by decide) (by decide) (by decide) (by decide),show (nd22 9 0 0 0 2).a.toNat=0 from rfl,show (nd22 9 0 0 0 2).b.toNat=2 from rfl,n0_txt,h2];rfl
theorem nodes_siz:sizI twoC nodesP 3≤65536:=by
 have hok:=(pchk_ok nodes_chk).2;have s0:sizI twoC nodesP 0=9:=by rw[siz_leaf (x:=nd22 6 0 3 0 0) rfl (by decide),←txt_leaf (cs:=twoC) (p:=nodesP) (i:=0) (x:=nd22 6 0 3 0 0) rfl (by decide),n0_txt];rfl
 have s1:sizI twoC nodesP 1=12:=by rw[siz_leaf (x:=nd22 8 1 0 0 0) rfl (by decide),←txt_leaf (cs:=twoC) (p:=nodesP) (i:=1) (x:=nd22 8 1 0 0 0) rfl (by decide),n1_txt];rfl
 have s2:=siz_not (cs:=twoC) (p:=nodesP) (i:=2) (x:=nd22 11 0 0 1 0) rfl rfl (by decide);rw[show (nd22 11 0 0 1 0).a.toNat=1 from rfl,s1]at s2;rw[siz_two (x:=nd22 9 0 0 0 2) rfl (by decide) (by decide) (by decide) (by decide),show (nd22 9 0 0 0 2).a.toNat=0 from rfl,show (nd22 9 0 0 0 2).b.toNat=2 from rfl,s0,s2];decide
theorem nodes_fmt:fmtP twoC 0 nodesP=(text22,0):=by
 rw[fmtP_text (m:=3) nodes_chk rfl (by have:=nodes_siz;omega),nodes_txt]
set_option maxRecDepth 100000 in
set_option maxHeartbeats 8000000 in
theorem awake22_any (w:World) (ht:Tab w):Calls Tryz.prog 17 #[] w fun e w'=>e=.returned (.bool true)∧Below w.heap.size w w':=by
 have HT:=Lib.hid ht;have HX:=Lib.hid (text_any);obtain ⟨T,hT⟩:∃ T:ByteArray,(⟨text22.toArray⟩:ByteArray)=T:=⟨_,rfl⟩
 rw[hT]at HX;have q1:(T.toList==T.toList)=true:=by simp
 clear ht;go_enter Tryz.func17,Tryz.ntmps17
 go_wp2_with fail
 refine (two_any w).mono ?_;rintro _ w1 ⟨g,rfl,hS,hb1⟩;have HS:=Lib.hid hS;have B1:=Lib.hid hb1;clear hS hb1;go_wp2_with fail
 refine (nodes_any w1).mono ?_;rintro _ w2 ⟨v2,rfl,hN,hb2⟩;have HF:=Lib.hid (pfmt_any _ v2 0 twoC nodesP w2 ⟨HT.out.below (bst B1.out hb2),HS.out.below hb2,hN⟩ nodes_bd);rw[nodes_fmt]at HF;unfold RetDec at HF
 simp only[hT]at HF;have B2:=Lib.hid (bst B1.out hb2);obtain ⟨A2,c2,rfl,_,_⟩:=hN.form;clear hN hb2 hT;go_wp2_with fail
 refine HF.out.mono ?_;rintro _ w3 ⟨rfl,hb3⟩;have B3:=Lib.hid (bst B2.out hb3);clear hb3 HF;go_wp2_with fail
 refine (HX.out w3).mono ?_;rintro _ _ ⟨rfl,rfl⟩;go_wp2;go_ret;exact ⟨rfl,B3.out⟩
def OwnNd (w:World) (base:Nat) (v:Value) (l:List Nd):Prop :=
 ∃ us:List Value,us.length=l.length∧w.ownsRow base 66 8 v l.length (nds l us)∧∀ (k:Nat) (x:Nd) (u:Value),l[k]?=some x→us[k]?=some u→w.ownsRow base 64 3 u x.l.length (vls x.l)
theorem nds_snoc:∀ {h:List Nd} {us:List Value} {s:Nd} {u:Value},us.length=h.length→nds (h ++ [s]) (us ++ [u])=nds h us++ndCells s u
 | [],us,s,u,hl=>by have:us=[]:=List.eq_nil_of_length_eq_zero hl;subst this;simp[nds]
 | x::h,[],s,u,hl=>by simp at hl
 | x::h,y::us,s,u,hl=>by
  have:=nds_snoc (h:=h) (us:=us) (s:=s) (u:=u) (by simpa using hl)
  simp only[List.cons_append,nds,this,List.append_assoc]
theorem OwnNd.sl {w:World} {base:Nat} {v:Value} {l:List Nd} (ho:OwnNd w base v l):SlNd w v l:=by
 obtain ⟨us,h1,h2,h3⟩:=ho;exact ⟨us,h1,Sl.of_own h2,fun k s u hk hu=>Sl.of_own (h3 k s u hk hu)⟩
theorem OwnNd.below {w w':World} {base:Nat} {v:Value} {h:List Nd} (ho:OwnNd w base v h) (hb:Below w.heap.size w w'):OwnNd w' base v h:=by
 obtain ⟨us,h1,h2,h3⟩:=ho;exact ⟨us,h1,own_below h2 hb,fun k s u hk hu=>own_below (h3 k s u hk hu) hb⟩
theorem OwnNd.mono {w:World} {base base':Nat} {v:Value} {h:List Nd} (ho:OwnNd w base v h) (hb:base'≤base):OwnNd w base' v h:=by
 obtain ⟨us,h1,h2,h3⟩:=ho;exact ⟨us,h1,own_mono h2 hb,fun k s u hk hu=>own_mono (h3 k s u hk hu) hb⟩
theorem OwnNd.form {w:World} {base:Nat} {v:Value} {l:List Nd} (ho:OwnNd w base v l):∃ A c,v=.slice A l.length c∧l.length≤c∧c≤maxLen:=ho.sl.form
theorem OwnNd.nil (w:World) (base:Nat):OwnNd w base (.slice none 0 0) []:=⟨[],rfl,World.ownsRow_nil _ _ _ _,fun k s u h=>by simp at h⟩
theorem info_nd:(Tryz.prog.info? 66).map (fun i=>(i.zero,i.size,i.bytes))=some (some (.agg #[.int .i64 0,.int .i64 0,.bool false,.int .i64 0,.string { data:=#[] },.slice none 0 0,.int .i64 0,.int .i64 0]),8,88):=by kernel_rfl
theorem under_nd:Tryz.prog.underlying 22=some (.slice 66):=Tryz.underlying22
theorem one8 (a b c d e:Int) (t:Bool) (s:ByteArray) (A:Option Addr) (n k:Nat):∀ u ∈ (#[Value.int .i64 a,.int .i64 b,.bool t,.int .i64 c,.string s,.slice A n k,.int .i64 d,.int .i64 e]:Array Value).toList,u.oneCell'=true:=by
 intro u hu
 simp only[List.mem_cons,List.not_mem_nil,or_false]at hu;rcases hu with rfl|rfl|rfl|rfl|rfl|rfl|rfl|rfl <;> rfl
theorem nd_snoc {w w':World} {base:Nat} {v v':Value} {h:List Nd} {us:List Value} {s:Nd} {u:Value} (h1:us.length=h.length) (h2:w.ownsRow base 66 8 v h.length (nds h us))
  (h3:∀ (k:Nat) (s:Nd) (u:Value),h[k]?=some s→us[k]?=some u→w.ownsRow base 64 3 u s.l.length (vls s.l)) (hu:w.ownsRow base 64 3 u s.l.length (vls s.l))
  (hn:w'.ownsRow base 66 8 v' (h.length+1) (nds h us++ndCells s u)) (hg:w.grownBy w' v.ownBlock):OwnNd w' base v' (h ++ [s]):=by
 refine ⟨us ++ [u],by simp[h1],by rw[List.length_append,nds_snoc h1];exact hn,fun k t x hk hx=>?_⟩
 have key:∀ {t:Nd} {x:Value},w.ownsRow base 64 3 x t.l.length (vls t.l)→w'.ownsRow base 64 3 x t.l.length (vls t.l):=fun ho=>own_grown ho hg (fun b hb e=>own_ne ho h2 (by decide) b hb e)
 by_cases hlt:k<h.length
 ·rw[List.getElem?_append_left hlt]at hk;rw[List.getElem?_append_left (by omega)]at hx;exact key (h3 k t x hk hx)
 ·rw[List.getElem?_append_right (by omega)]at hk;rw[List.getElem?_append_right (by omega),h1]at hx;rcases hkk:k - h.length with _|m
  ·rw[hkk]at hk hx;simp at hk hx;subst hk hx;exact key hu
  ·rw[hkk]at hk;simp at hk
structure Kp (S:Nat→Prop) (w w':World):Prop where
 os:w'.os=w.os
 tape:w'.tape=w.tape
 output:w'.output=w.output
 size:w.heap.size≤w'.heap.size
 block:∀ i,i<w.heap.size→¬ S i→w'.heap[i]?=w.heap[i]?
section
variable {S S':Nat→Prop} {w a b w':World}
theorem Kp.refl:Kp S w w:=⟨rfl,rfl,rfl,Nat.le_refl _,fun _ _ _=>rfl⟩
theorem Kp.trans (h:Kp S w a) (k:Kp S a b):Kp S w b :=
 ⟨k.os.trans h.os,k.tape.trans h.tape,k.output.trans h.output,Nat.le_trans h.size k.size,fun i hi hs=>(k.block i (Nat.lt_of_lt_of_le hi h.size) hs).trans (h.block i hi hs)⟩
theorem Kp.then' (h:Kp S w a) (k:Kp S' a b) (hs:∀ i,i<w.heap.size→S' i→S i):Kp S w b :=
 ⟨k.os.trans h.os,k.tape.trans h.tape,k.output.trans h.output,Nat.le_trans h.size k.size,fun i hi hn=>(k.block i (Nat.lt_of_lt_of_le hi h.size) (fun h'=>hn (hs i hi h'))).trans (h.block i hi hn)⟩
theorem Kp.grown {row:Option Nat} (h:Kp S w a) (k:a.grownBy b row) (hs:∀ i,row=some i→i<w.heap.size→S i):Kp S w b :=
 h.then' (S':=fun i=>row=some i) ⟨k.os,k.tape,k.output,k.size,fun i hi hn=>k.block i hi (fun e=>hn e.symm)⟩ (fun i hi h'=>hs i h' hi)
theorem Kp.only {g:Nat} (h:Kp S w a) (k:Only g a b) (hg:S g∨w.heap.size≤g):Kp S w b:=h.grown k (fun i e hi=>by injection e with e;subst e;rcases hg with h | h;exact h;omega)
theorem Kp.below (h:Kp S w a) (k:Below a.heap.size a b):Kp S w b:=h.then' (S':=fun _=>False) ⟨k.os,k.tape,k.output,k.size,fun i hi _=>k.block i hi⟩ (fun _ _ h=>h.elim)
theorem Kp.set {p:Addr} (h:Kp S w a) (hp:S p.block∨w.heap.size≤p.block) (u:Value):Kp S w (a.setCell p u):=h.grown (grownBy_set a p u) (fun i e hi=>by injection e with e;subst e;rcases hp with h | h;exact h;omega)
theorem Kp.alloc (h:Kp S w a) (o:Obj):Kp S w (a.alloc o):=h.below (below_new _ _)
theorem Kp.drewN (h:Kp S w a) (n:Nat):Kp S w (a.drewN n):=⟨h.os,h.tape,h.output,h.size,h.block⟩
theorem Kp.mono (h:Kp S w a) (hs:∀ i,i<w.heap.size→S i→S' i):Kp S' w a:=⟨h.os,h.tape,h.output,h.size,fun i hi hn=>h.block i hi (fun h'=>hn (hs i hi h'))⟩
theorem Blk.kp {g:Nat} {t:TypeId} {cs:Array Value} (h:Blk w g t cs) (k:Kp S w w') (hg:¬ S g):Blk w' g t cs:=(k.block g h.lt hg).trans h
theorem own_kp {base:Nat} {e:TypeId} {size n:Nat} {v:Value} {xs:List Value} (h:w.ownsRow base e size v n xs) (k:Kp S w w') (hv:∀ b,v.ownBlock=some b→¬ S b):w'.ownsRow base e size v n xs:=by
 refine ⟨h.1,?_⟩
 rcases h.2 with hn|⟨g,cap,cur,rfl,hb,hgg,rest⟩
 ·exact .inl hn
 ·refine .inr ⟨g,cap,cur,rfl,hb,?_,rest⟩
  rw[k.block g (Array.getElem?_eq_some_iff.1 hgg).1 (hv g rfl)];exact hgg
theorem below_kp {B:Nat} {z:World} (h:Below B z w) (k:Kp S w w') (hS:∀ i,S i→B≤i) (hB:B≤w.heap.size):Below B z w' :=
 ⟨k.os.trans h.os,k.tape.trans h.tape,k.output.trans h.output,Nat.le_trans h.size k.size,fun i hi=>(k.block i (Nat.lt_of_lt_of_le hi hB) (fun hs=>by have:=hS i hs;omega)).trans (h.block i hi)⟩
theorem OwnNd.kp {base:Nat} {v:Value} {l:List Nd} (h:OwnNd w base v l) (k:Kp S w w') (hv:∀ b,v.ownBlock=some b→¬ S b) (hl:∀ (u:Value) (n:Nat) (xs:List Value),w.ownsRow base 64 3 u n xs→∀ b,u.ownBlock=some b→¬ S b):OwnNd w' base v l:=by
 obtain ⟨us,h1,h2,h3⟩:=h;exact ⟨us,h1,own_kp h2 k hv,fun j s u hk hu=>own_kp (h3 j s u hk hu) k (hl _ _ _ (h3 j s u hk hu))⟩
end
end Go.Proofs.YtjnamjkdjcndiaaGreatDoor
