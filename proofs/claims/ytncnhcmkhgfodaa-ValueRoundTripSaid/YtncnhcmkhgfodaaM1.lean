/-
  Words, plain laws and contracts on which the walks lean, in one text.
-/
import Derived.WalkKit
import Derived.Lib.Hide
import Derived.Deep.Draws
import Derived.WalkSpells
import Derived.Maps.AppendAt
namespace Go.Proofs.Ytncnhcmkhgfodaa
open Go.RowKit

theorem block_of_add (a:Addr) (n:Nat):(a.add n).block=a.block:=by unfold Addr.add;split <;> rfl
def Sl (w:World) (size:Nat) (v:Value) (n:Nat) (xs:List Value):Prop :=
 ∃ A c,v=.slice A n c∧n≤c∧c≤maxLen∧xs.length=n * size∧(0<n→∃ ad,A=some ad∧ad.block<w.heap.size∧∀ j u,xs[j]?=some u→w.cell? (ad.add j)=some u)

section
variable {w w':World} {B size n:Nat} {v:Value} {xs:List Value}
theorem Sl.nil (w:World) (size:Nat):Sl w size (.slice none 0 0) 0 []:=⟨none,0,rfl,Nat.le_refl _,by simp[maxLen],by simp,fun h=>absurd h (by omega)⟩
theorem Sl.keep (h:Sl w size v n xs) (hs:w.heap.size≤w'.heap.size) (hk:∀ p:Addr,p.block<w.heap.size→w'.cell? p=w.cell? p):Sl w' size v n xs:=by
 obtain ⟨A,c,e,h1,h2,h3,h4⟩:=h;refine ⟨A,c,e,h1,h2,h3,fun hn=>?_⟩
 obtain ⟨ad,e,hb,hc⟩:=h4 hn;exact ⟨ad,e,by omega,fun j u hu=>(hk _ (by rw[block_of_add];exact hb)).trans (hc j u hu)⟩
theorem Sl.below (h:Sl w size v n xs) (hb:Below w.heap.size w w'):Sl w' size v n xs:=h.keep hb.size fun _ hp=>hb.cell hp
theorem Sl.drew (h:Sl w size v n xs):Sl w.drew size v n xs:=h
theorem Sl.drewN (h:Sl w size v n xs) (k:Nat):Sl (w.drewN k) size v n xs:=h
theorem Sl.alloc (h:Sl w size v n xs) (o:Obj):Sl (w.alloc o) size v n xs:=h.keep (by simp) fun p hp=>World.cell?_alloc_lt w o p (by omega)
theorem Sl.of_own {base:Nat} {e:TypeId} (h:w.ownsRow base e size v n xs):Sl w size v n xs:=by
 obtain ⟨h1,h2⟩:=h;rcases h2 with ⟨rfl,rfl⟩|⟨g,cap,cur,rfl,hb,hg,hn,hc,hcs,ht⟩
 ·exact ⟨none,0,rfl,Nat.le_refl _,by simp[maxLen],h1,fun h=>absurd h (by omega)⟩
 ·refine ⟨some ⟨g,0,none⟩,cap,rfl,hn,hc,h1,fun _=>⟨_,rfl,(Array.getElem?_eq_some_iff.1 hg).1,?_⟩⟩
  exact World.ownsRow.cells (base:=base) (e:=e) ⟨h1,.inr ⟨g,cap,cur,rfl,hb,hg,hn,hc,hcs,ht⟩⟩ rfl
theorem Sl.at_ {A:Option Addr} {c k:Nat} (h:Sl w 1 (.slice A n c) n xs) (hk:k<n):∃ ad u,A=some ad∧ad.block<w.heap.size∧xs[k]?=some u∧w.cell? (ad.add k)=some u:=by
 obtain ⟨A',c',e,h1,h2,h3,h4⟩:=h;injection e with e1 e2 e3
 subst e1;obtain ⟨ad,e,hb,hc⟩:=h4 (by omega);have hl:k<xs.length:=by omega
 exact ⟨ad,xs[k],e,hb,List.getElem?_eq_getElem hl,hc k _ (List.getElem?_eq_getElem hl)⟩
theorem Sl.form (h:Sl w size v n xs):∃ A c,v=.slice A n c∧n≤c∧c≤maxLen:=by
 obtain ⟨A,c,e,h1,h2,_⟩:=h;exact ⟨A,c,e,h1,h2⟩
end
theorem bst {a w w':World} (h:Below a.heap.size a w) (k:Below w.heap.size w w'):Below a.heap.size a w':=h.trans (k.mono h.size)
theorem below_drewN {B:Nat} {a w:World} (h:Below B a w) (n:Nat):Below B a (w.drewN n):=⟨h.os,h.tape,h.output,h.size,h.block⟩

theorem own_below {w w':World} {base:Nat} {e:TypeId} {size:Nat} {v:Value} {n:Nat} {xs:List Value} (h:w.ownsRow base e size v n xs) (hb:Below w.heap.size w w'):w'.ownsRow base e size v n xs:=by
 obtain ⟨h1,h2⟩:=h;refine ⟨h1,?_⟩
 rcases h2 with h2|⟨g,cap,cur,rfl,hb',hg,r⟩
 ·exact .inl h2
 ·exact .inr ⟨g,cap,cur,rfl,hb',by rw[hb.block g (Array.getElem?_eq_some_iff.1 hg).1];exact hg,r⟩
theorem ret_int {k:IntKind} {a b:Int} (h:a=b):Ending.returned (.int k a)=.returned (.int k b):=by rw[h]
def RetRow (w:World) (e:TypeId) (size n:Nat) (xs:List Value) (d:Ending) (w':World):Prop:=∃ v,d=.returned v∧Below w.heap.size w w'∧w'.ownsRow w.heap.size e size v n xs
theorem RetRow.mk_ {w w':World} {e:TypeId} {size n n':Nat} {v:Value} {xs xs':List Value} (hb:Below w.heap.size w w') (h:w'.ownsRow w.heap.size e size v n xs) (hn:n=n') (hx:xs=xs'):RetRow w e size n' xs' (.returned v) w':=by
 subst hn;subst hx;exact ⟨v,rfl,hb,h⟩

theorem grown_trans' {a b c:World} {row:Option Nat} (h:a.grownBy b row) (k:b.grownBy c row):a.grownBy c row :=
 ⟨k.os.trans h.os,k.tape.trans h.tape,k.output.trans h.output,Nat.le_trans h.size k.size,fun i hi hne=>(k.block i (Nat.lt_of_lt_of_le hi h.size) hne).trans (h.block i hi hne)⟩

theorem app1 {P:Program} {w w0:World} {B:Nat} {ops:Array Oper} {rest:List Oper} {o:Oper} {a:Act} {Q:Exit→Act→World→Prop} (s x:Operand) {t e:TypeId} {z:Value} {size bytes base:Nat} {v:Value} {n:Nat} {xs:List Value} {us:Array Value}
  (hown:w.ownsRow base e size v n xs) (hbel:Below B w0 w) (hB:B≤base) (hbase:base≤w.heap.size)
  (ht:P.underlying t=some (.slice e)) (hinfo:(P.info? e).map (fun i=>(i.zero,i.size,i.bytes))=some (some z,size,bytes)) (hzs:z.cells.size=size) (hsz:0<size)
  (hus:us.size=size) (h1:∀ u ∈ us.toList,u.oneCell'=true) (hbytes:(n+1) * bytes≤140737488355328) (hn:n<140737488355328)
  (hgd:o.guard=none) (ho:o.op=.call { callee:=.builtin .append,args:=#[s,x],argTypes:=#[t,t] })
  (hs:a.eval s=v) (hx:a.eval x=.slice (some ⟨w.heap.size,0,none⟩) 1 1)
  (h:∀ g cap w',w'.ownsRow base e size (.slice (some ⟨g,0,none⟩) (n+1) cap) (n+1) (xs++us.toList)→Below B w0 w'→w.grownBy w' v.ownBlock→((Value.slice (some ⟨g,0,none⟩) (n+1) cap).ownBlock=v.ownBlock∨∃ b,(Value.slice (some ⟨g,0,none⟩) (n+1) cap).ownBlock=some b∧w.heap.size≤b)→wpList P ops Q rest (a.put o.dst (.slice (some ⟨g,0,none⟩) (n+1) cap)) w') :
  wpList P ops Q (o::rest) a (w.alloc (.cells us e)):=by
 obtain ⟨i,hi,hz,hs1,hby⟩:=info_parts hinfo;have hnews:∀ j u,us.toList[j]?=some u→(w.alloc (.cells us e)).cell? ((⟨w.heap.size,0,none⟩:Addr).add j)=some u:=by
  intro j u hj
  have hj':us[j]?=some u:=by simpa using hj
  have e1:(⟨w.heap.size,0,none⟩:Addr).add j=⟨w.heap.size,j,none⟩:=by unfold Addr.add;split <;> simp_all
  rw[e1,cell_of_row _ w.heap.size j us e (0,0) (heap_alloc_new w _)];exact hj'
 obtain ⟨v',w',hrun,h2,h3,_,h5⟩:=run_append_own_at (P:=P) (w.alloc (.cells us e)) base t o.type e i z size bytes ht hi hz hs1 hby hzs hsz v n xs (hown.alloc _) ⟨w.heap.size,0,none⟩ 1 1 us.toList (by simp[hus]) hnews h1 (by unfold maxLen;omega) hbytes (by simp;omega);refine wpList_plain hgd fun K hK=>?_
 unfold Oper.wp execOp
 simp only[ho,resolve,invoke,builtin,Sem.run_bind,Sem.run_pure,Result.andThen_ok,List.map_toArray,List.map_cons,List.map_nil,hs,hx,hrun];refine hK _ _ ?_
 have hg:w.grownBy w' v.ownBlock:=grown_trans' (World.grownBy_alloc w _ _) h3;obtain ⟨g,cap,rfl⟩:∃ g cap,v'=.slice (some ⟨g,0,none⟩) (n+1) cap:=by
  rcases h2.2 with ⟨_,h0⟩|⟨g,cap,_,hv,_⟩
  ·omega
  ·exact ⟨g,cap,hv⟩
 refine h g cap w' h2 (hbel.grown hg (by omega) (fun k hk=>by have:=(hown.lt k hk).1;omega)) hg ?_
 rcases h5 with h5|h5
 ·exact .inl h5
 ·exact .inr ⟨_,h5,by simp⟩
open Go.RowKit
def ints (l:List Int):List Value:=l.map (Value.int .i64)
theorem ints_snoc (l:List Int) (x:Int):ints (l ++ [x])=ints l ++ [.int .i64 x]:=by simp[ints]
theorem ints_length (l:List Int):(ints l).length=l.length:=by simp[ints]
theorem ints_get {l:List Int} {k:Nat} {u:Value} (h:(ints l)[k]?=some u):∃ x,l[k]?=some x∧u=.int .i64 x:=by
 simp only[ints,List.getElem?_map,Option.map_eq_some_iff]at h;obtain ⟨x,hx,rfl⟩:=h;exact ⟨x,hx,rfl⟩
theorem oneInt (k:IntKind) (x:Int):∀ u ∈ (#[Value.int k x]:Array Value).toList,u.oneCell'=true:=by intro u hu;simp at hu;subst hu;rfl
theorem own_ints {w:World} {base:Nat} {e:TypeId} {v:Value} {l:List Int} {x:Int} (h:w.ownsRow base e 1 v (l.length+1) (ints l++(#[Value.int .i64 x]:Array Value).toList)):w.ownsRow base e 1 v (l ++ [x]).length (ints (l ++ [x])):=by
 rw[ints_snoc,List.length_append];exact h

theorem Sl.int_at {w:World} {A:Option Addr} {c k:Nat} {zs:List Int} {n:Nat} (h:Sl w 1 (.slice A n c) n (ints zs)) (hk:k<n):∃ ad x,A=some ad∧zs[k]?=some x∧w.cell? (ad.add k)=some (.int .i64 x):=by
 obtain ⟨ad,u,e,_,hu,hc⟩:=h.at_ hk;obtain ⟨x,hx,rfl⟩:=ints_get hu;exact ⟨ad,x,e,hx,hc⟩

theorem isRow_sl {w:World} {a:Option Addr} {len cap:Nat} {zs:List Int} (h:(a=none∧len=0∧cap=0∧zs=[]) ∨
  ∃ x,a=some x∧len≤cap∧cap≤maxLen∧zs.length=cap∧(∀ i,i<zs.length→w.cell? (x.add i)=some (.int .i64 (zs.getD i 0)))∧∀ n ∈ zs,(Lit.int .i64 n).wf=true) :
  ∃ l:List Int,len=l.length∧Sl w 1 (.slice a l.length cap) l.length (ints l)∧l.length≤9223372036854775807∧∀ n ∈ l,(Lit.int .i64 n).wf=true:=by
 rcases h with ⟨rfl,rfl,rfl,rfl⟩|⟨x,rfl,h1,h2,h3,h4,h5⟩
 ·exact ⟨[],rfl,Sl.nil _ _,by simp,by simp⟩
 ·have hl:(zs.take len).length=len:=by rw[List.length_take];omega
  unfold maxLen at h2
  refine ⟨zs.take len,hl.symm,⟨some x,cap,rfl,by omega,by unfold maxLen;omega,by rw[ints_length];omega,fun hn=>⟨x,rfl,?_,?_⟩⟩,by omega,fun n hn=>h5 n (List.mem_of_mem_take hn)⟩
  ·have:=World.block_lt_of_cell? w (x.add 0) (h4 0 (by omega))
   rwa [block_of_add]at this
  ·intro j u hj
   obtain ⟨y,hy,rfl⟩:=ints_get hj;have hjl:j<zs.length:=by
    have:=(List.getElem?_eq_some_iff.1 hy).1
    rw[hl]at this;omega
   rw[h4 j hjl];rw[List.getElem?_take]at hy;split at hy
   ·simp[List.getD,hy]
   ·cases hy

def ints8 (l:List Int):List Value:=l.map (Value.int .u8)
theorem ints8_length (l:List Int):(ints8 l).length=l.length:=by simp[ints8]
structure LL (w:World) (base:Nat) (e:TypeId) (vs:List Value) (gs:List (List Int)):Prop where
 len:vs.length=gs.length
 rows:∀ (j:Nat) (u:Value) (g:List Int),vs[j]?=some u→gs[j]?=some g→w.ownsRow base e 1 u g.length (ints g)

theorem LL.nil (w:World) (base:Nat) (e:TypeId):LL w base e [] []:=⟨rfl,fun j u g h=>by simp at h⟩
theorem LL.snoc {w:World} {base:Nat} {e:TypeId} {vs:List Value} {gs:List (List Int)} {u:Value} {cur:List Int} (h:LL w base e vs gs) (hu:w.ownsRow base e 1 u cur.length (ints cur)):LL w base e (vs ++ [u]) (gs ++ [cur]):=by
 refine ⟨by simp[h.len],fun j x g hx hg=>?_⟩
 by_cases hj:j<vs.length
 ·rw[List.getElem?_append_left hj]at hx;rw[List.getElem?_append_left (by rw[←h.len];exact hj)]at hg;exact h.rows j x g hx hg
 ·rw[List.getElem?_append_right (by omega)]at hx;rw[List.getElem?_append_right (by rw[←h.len];omega),←h.len]at hg;rcases hjj:j - vs.length with _|m
  ·rw[hjj]at hx hg;simp at hx hg
   subst hx;subst hg;exact hu
  ·rw[hjj]at hx;simp at hx
theorem own_grown {w w':World} {base:Nat} {e:TypeId} {size:Nat} {v:Value} {n:Nat} {xs:List Value} {row:Option Nat} (h:w.ownsRow base e size v n xs) (hg:w.grownBy w' row) (hne:∀ g,v.ownBlock=some g→row≠some g):w'.ownsRow base e size v n xs:=by
 refine h.kept hg ?_
 cases hv:v.ownBlock with
 | none=>exact .inl rfl
 | some g=>exact .inr (fun e=>hne g hv e.symm)
theorem LL.grown {w w':World} {base:Nat} {e:TypeId} {vs:List Value} {gs:List (List Int)} {row:Option Nat} (h:LL w base e vs gs) (hg:w.grownBy w' row) (hne:∀ x ∈ vs,∀ g,x.ownBlock=some g→row≠some g):LL w' base e vs gs :=
 ⟨h.len,fun j u g hu hgg=>own_grown (h.rows j u g hu hgg) hg (hne u (List.mem_of_getElem? hu))⟩
theorem LL.below {w w':World} {base:Nat} {e:TypeId} {vs:List Value} {gs:List (List Int)} (h:LL w base e vs gs) (hb:Below w.heap.size w w'):LL w' base e vs gs :=
 ⟨h.len,fun j u g hu hgg=>own_below (h.rows j u g hu hgg) hb⟩
theorem LL.alloc {w:World} {base:Nat} {e:TypeId} {vs:List Value} {gs:List (List Int)} (h:LL w base e vs gs) (o:Obj):LL (w.alloc o) base e vs gs :=
 ⟨h.len,fun j u g hu hgg=>(h.rows j u g hu hgg).alloc o⟩
theorem own_ne {w:World} {base base':Nat} {e e':TypeId} {size size' n n':Nat} {v v':Value} {xs xs':List Value} (h:w.ownsRow base e size v n xs) (h':w.ownsRow base' e' size' v' n' xs') (hne:e≠e'):∀ g,v.ownBlock=some g→v'.ownBlock≠some g:=by
 intro g hg hg'
 rcases h.2 with ⟨rfl,_⟩|⟨g1,cap,cur,rfl,_,hh,_⟩
 ·simp[Value.ownBlock]at hg
 rcases h'.2 with ⟨rfl,_⟩|⟨g2,cap2,cur2,rfl,_,hh2,_⟩
 ·simp[Value.ownBlock]at hg'
 have e1:g1=g:=by simpa [Value.ownBlock] using hg
 have e2:g2=g:=by simpa [Value.ownBlock] using hg'
 subst e1;subst e2;rw[hh]at hh2;injection hh2 with hh2
 injection hh2 with _ ht
 exact hne ht
theorem LL.mem_row {w:World} {base:Nat} {e:TypeId} {vs:List Value} {gs:List (List Int)} (h:LL w base e vs gs) {x:Value} (hx:x ∈ vs):∃ g:List Int,w.ownsRow base e 1 x g.length (ints g):=by
 obtain ⟨j,hj⟩:=List.mem_iff_getElem?.1 hx;have hl:j<gs.length:=by rw[←h.len];exact (List.getElem?_eq_some_iff.1 hj).1
 exact ⟨gs[j],h.rows j x _ hj (List.getElem?_eq_getElem hl)⟩

def RetLL (w:World) (eO eI:TypeId) (gs:List (List Int)) (d:Ending) (w':World):Prop:=∃ v vs,d=.returned v∧Below w.heap.size w w'∧w'.ownsRow w.heap.size eO 1 v gs.length vs∧LL w' w.heap.size eI vs gs
theorem RetLL.mk_ {w w':World} {eO eI:TypeId} {v:Value} {vs:List Value} {gs gs':List (List Int)} (hb:Below w.heap.size w w') (h:w'.ownsRow w.heap.size eO 1 v gs.length vs) (hl:LL w' w.heap.size eI vs gs) (hg:gs=gs'):RetLL w eO eI gs' (.returned v) w':=by
 subst hg;exact ⟨v,vs,rfl,hb,h,hl⟩

structure Build (w:World) (base:Nat) (eO eI:TypeId) (v:Value) (vs:List Value) (gs:List (List Int)):Prop where
 own:w.ownsRow base eO 1 v gs.length vs
 ll:LL w base eI vs gs
 apart:∀ (i j:Nat) (x y:Value) (b:Nat),i<j→vs[i]?=some x→vs[j]?=some y→x.ownBlock=some b→y.ownBlock≠some b
theorem Build.nil (w:World) (base:Nat) (eO eI:TypeId):Build w base eO eI (.slice none 0 0) [] []:=⟨World.ownsRow_nil _ _ _ _,LL.nil _ _ _,fun i j x y b _ h=>by simp at h⟩
theorem Build.kept {w w':World} {base:Nat} {eO eI:TypeId} {v:Value} {vs:List Value} {gs:List (List Int)} (h:Build w base eO eI v vs gs) (hb:Below w.heap.size w w'):Build w' base eO eI v vs gs :=
 ⟨own_below h.own hb,h.ll.below hb,h.apart⟩
theorem Build.put {w w1:World} {base:Nat} {eO eI:TypeId} {g cap:Nat} {vs:List Value} {gs:List (List Int)} {u u':Value} {cur:List Int} {x:Int}
  (h:Build w base eO eI (.slice (some ⟨g,0,none⟩) (gs.length+1) cap) (vs ++ [u]) (gs ++ [cur])) (hne:eO≠eI)
  (hown:w1.ownsRow base eI 1 u' (cur.length+1) (ints cur++(#[Value.int .i64 x]:Array Value).toList)) (hg:w.grownBy w1 u.ownBlock) (hat:u'.ownBlock=u.ownBlock∨∃ b,u'.ownBlock=some b∧w.heap.size≤b) :
  Build (w1.setCell ⟨g,gs.length,none⟩ u') base eO eI (.slice (some ⟨g,0,none⟩) (gs.length+1) cap) (vs ++ [u']) (gs ++ [cur ++ [x]]):=by
 have hlen:vs.length=gs.length:=by have:=h.ll.len;simpa using this
 have hown0:w.ownsRow base eO 1 (.slice (some ⟨g,0,none⟩) (gs.length+1) cap) (gs.length+1) (vs ++ [u]):=by have:=h.own;simpa using this
 have hu:w.ownsRow base eI 1 u cur.length (ints cur):=h.ll.rows gs.length u cur (by rw[←hlen];simp) (by simp);have hO:w1.ownsRow base eO 1 (.slice (some ⟨g,0,none⟩) (gs.length+1) cap) (gs.length+1) (vs ++ [u]):=own_grown hown0 hg (fun b hb=>own_ne hown0 hu hne b hb);obtain ⟨hS,hSg⟩:=hO.stored gs.length u';have hset:(vs ++ [u]).set gs.length u'=vs ++ [u']:=by rw[←hlen];simp
 rw[hset]at hS;have hll0:LL w base eI vs gs:=⟨hlen,fun j y q hy hq=>h.ll.rows j y q (by rw[List.getElem?_append_left (List.getElem?_eq_some_iff.1 hy).1];exact hy) (by rw[List.getElem?_append_left (List.getElem?_eq_some_iff.1 hq).1];exact hq)⟩
 have hap:∀ y ∈ vs,∀ b,y.ownBlock=some b→u.ownBlock≠some b:=by
  intro y hy b hb
  obtain ⟨j,hj⟩:=List.mem_iff_getElem?.1 hy;have hjl:=(List.getElem?_eq_some_iff.1 hj).1;exact h.apart j vs.length y u b hjl (by rw[List.getElem?_append_left hjl];exact hj) (by simp) hb
 have hll1:LL w1 base eI vs gs:=hll0.grown hg hap;have ho':w1.ownsRow base eI 1 u' (cur ++ [x]).length (ints (cur ++ [x])):=own_ints hown;have hll2:LL w1 base eI (vs ++ [u']) (gs ++ [cur ++ [x]]):=hll1.snoc ho';refine ⟨by simpa using hS,hll2.grown hSg (fun y hy b hb=>?_),?_⟩
 ·obtain ⟨l,hl⟩:=hll2.mem_row hy;intro e
  exact own_ne hl hO (Ne.symm hne) b hb (by simpa [Value.ownBlock] using e)
 ·intro i j a c b hij ha hc hb
  by_cases hj:j<vs.length
  ·rw[List.getElem?_append_left (by omega)]at ha;rw[List.getElem?_append_left hj]at hc;exact h.apart i j a c b hij (by rw[List.getElem?_append_left (by omega)];exact ha) (by rw[List.getElem?_append_left hj];exact hc) hb
  ·rw[List.getElem?_append_right (by omega)]at hc;rcases hjj:j - vs.length with _|m
   ·rw[hjj]at hc;simp at hc;subst hc;rw[List.getElem?_append_left (by omega)]at ha;rcases hat with hat|⟨b',hb',hbs⟩
    ·rw[hat];exact hap a (List.mem_of_getElem? ha) b hb
    ·intro e
     rw[hb']at e;injection e with e
     subst e;obtain ⟨l,hl⟩:=hll0.mem_row (List.mem_of_getElem? ha);have:=(hl.lt _ hb).2
     omega
   ·rw[hjj]at hc;simp at hc
theorem get_data (s:ByteArray) (k:Nat) (h:k<s.size):s.data.toList[k]?=some s[k]:=by
 rw[List.getElem?_eq_getElem (by simpa using h)];rfl
def Ret0 (w:World) (b:Bool) (e:Ending) (w':World):Prop:=e=.returned (.bool b)∧w=w'
theorem Ret0.mk_ {w:World} {b b':Bool} (h:b=b'):Ret0 w b (.returned (.bool b')) w:=by subst h;exact ⟨rfl,rfl⟩
end Go.Proofs.Ytncnhcmkhgfodaa
