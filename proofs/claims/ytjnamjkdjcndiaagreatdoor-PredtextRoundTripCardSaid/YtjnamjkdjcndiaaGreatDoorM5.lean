/-
  Words, plain laws and contracts on which the walks lean, in one text.
-/
import Derived.Test.YtjnamjkdjcndiaaGreatDoorM1
import Derived.Deep.AppendLies
import Derived.RegionTactic
import Derived.OwnWalk
import Derived.Test.YtjnamjkdjcndiaaGreatDoorInv
namespace Go.Proofs.YtjnamjkdjcndiaaGreatDoor
open Go.RowKit
section
variable {P:Program}
theorem run_append_none (w:World) (base:Nat) (t ty e:TypeId) (i:TypeInfo) (size:Nat) (ht:P.underlying t=some (.slice e)) (hi:P.info? e=some i)
  (v:Value) (n:Nat) (xs:List Value) (hown:w.ownsRow base e size v n xs) (c:Nat):(Builtin.append_ #[t,t] ty #[v,.slice none 0 c]).run P w=.ok v w:=by
 rcases hown.2 with ⟨rfl,rfl⟩|⟨g,cap,cur,rfl,_,_,hnc,_⟩
 ·simp[Builtin.append_,run_underlying ht,sizeOf,typeInfo,hi,Builtin.lenOf,Builtin.firstCells]
 ·simp[Builtin.append_,run_underlying ht,sizeOf,typeInfo,hi,Builtin.lenOf,Builtin.firstCells,hnc,storeCells]
theorem run_append_sl {w:World} {base:Nat} {t ty e:TypeId} {z:Value} {size bytes:Nat} (ht:P.underlying t=some (.slice e)) (hinfo:(P.info? e).map (fun i=>(i.zero,i.size,i.bytes))=some (some z,size,bytes)) (hzs:z.cells.size=size) (hsz:0<size)
  {v u:Value} {n m:Nat} {xs news:List Value} (hown:w.ownsRow base e size v n xs) (hr:Sl w size u m news) (h1:∀ y ∈ news,y.oneCell'=true)
  (h63:n+m≤maxLen) (hbytes:(n+m) * bytes≤140737488355328) (hbase:base≤w.heap.size) :
  ∃ v' w',(Builtin.append_ #[t,t] ty #[v,u]).run P w=.ok v' w'∧w'.ownsRow base e size v' (n+m) (xs++news)∧w.grownBy w' v.ownBlock∧(v'.ownBlock=v.ownBlock∨v'.ownBlock=some w.heap.size):=by
 obtain ⟨i,hi,hz,hs1,hby⟩:=info_parts hinfo;obtain ⟨A,c,rfl,_,_,hlen,hc⟩:=hr;rcases A with _|ad
 ·have hm:m=0:=by
   rcases Nat.eq_zero_or_pos m with h0|h0
   ·exact h0
   ·obtain ⟨ad,h,_⟩:=hc h0;cases h
  subst hm;have hn:news=[]:=List.eq_nil_of_length_eq_zero (by simpa using hlen);subst hn;exact ⟨v,w,run_append_none w base t ty e i size ht hi v n xs hown c,by simpa using hown,World.grownBy.refl w _,.inl rfl⟩
 ·have hcells:∀ j u,news[j]?=some u→w.cell? (ad.add j)=some u:=by
   intro j u hu
   rcases Nat.eq_zero_or_pos m with h0|h0
   ·subst h0;have hn:news=[]:=List.eq_nil_of_length_eq_zero (by simpa using hlen);subst hn;simp at hu
   ·obtain ⟨ad',h,_,hc'⟩:=hc h0;injection h with h
    subst h;exact hc' j u hu
  obtain ⟨v',w',hrun,h2,h3,_,h5⟩:=run_append_own_at (P:=P) w base t ty e i z size bytes ht hi hz hs1 hby hzs hsz v n xs hown ad m c news hlen hcells h1 h63 hbytes hbase;exact ⟨v',w',hrun,h2,h3,h5⟩
end
open Go.RowKit
def Got (p:Bool) (u v:Value):Prop:=p=true→u=v
def GotRow (p:Bool) (N:Nat) (u:Value) (n:Nat) (T:TypeId) (cs:Array Value) (w:World):Prop:=p=true→∃ A,u=.slice (some ⟨A,0,none⟩) n n∧N≤A∧Blk w A T cs
def GotPtr (p:Bool) (N:Nat) (u:Value) (k:Nat) (T:TypeId) (cs:Array Value) (w:World):Prop:=p=true→∃ A,u=.pointer (some ⟨A,k,none⟩)∧N≤A∧Blk w A T cs
theorem GotRow.below {p:Bool} {N:Nat} {u:Value} {n:Nat} {T:TypeId} {cs:Array Value} {w w':World} (h:GotRow p N u n T cs w) (hb:Below w.heap.size w w'):GotRow p N u n T cs w':=fun hp=>by
 obtain ⟨A,e,hN,hB⟩:=h hp;exact ⟨A,e,hN,hB.below hb hB.lt⟩
theorem GotPtr.below {p:Bool} {N:Nat} {u:Value} {k:Nat} {T:TypeId} {cs:Array Value} {w w':World} (h:GotPtr p N u k T cs w) (hb:Below w.heap.size w w'):GotPtr p N u k T cs w':=fun hp=>by
 obtain ⟨A,e,hN,hB⟩:=h hp;exact ⟨A,e,hN,hB.below hb hB.lt⟩
theorem below_new (w:World) (o:Obj):Below w.heap.size w (w.alloc o):=(Below.refl _ _).alloc (Nat.le_refl _) _
theorem wp_app {P:Program} {w:World} {o:Oper} {a:Act} {K:Act→World→Prop} {Q:Exit→Act→World→Prop} (s x:Operand) {t e:TypeId} {z:Value} {size bytes base:Nat} {v u:Value} {n m:Nat} {xs news:List Value}
  (hown:w.ownsRow base e size v n xs) (hr:Sl w size u m news) (hbase:base≤w.heap.size)
  (ht:P.underlying t=some (.slice e)) (hinfo:(P.info? e).map (fun i=>(i.zero,i.size,i.bytes))=some (some z,size,bytes)) (hzs:z.cells.size=size) (hsz:0<size)
  (h1:∀ y ∈ news,y.oneCell'=true) (hbytes:(n+m) * bytes≤140737488355328) (hnm:n+m<140737488355328)
  (ho:o.op=.call { callee:=.builtin .append,args:=#[s,x],argTypes:=#[t,t] }) (hs:a.eval s=v) (hx:a.eval x=u)
  (h:∀ v' w',w'.ownsRow base e size v' (n+m) (xs++news)→w.grownBy w' v.ownBlock→(v'.ownBlock=v.ownBlock∨v'.ownBlock=some w.heap.size)→K (a.put o.dst v') w') :
  Oper.wp P o a w K Q:=by
 obtain ⟨v',w',hrun,h2,h3,h4⟩:=run_append_sl (P:=P) (ty:=o.type) ht hinfo hzs hsz hown hr h1 (by unfold maxLen;omega) hbytes hbase;unfold Oper.wp execOp
 simp only[ho,resolve,invoke,builtin,Sem.run_bind,Sem.run_pure,Result.andThen_ok,List.map_toArray,List.map_cons,List.map_nil,hs,hx,hrun];exact h v' w' h2 h3 h4
end Go.Proofs.YtjnamjkdjcndiaaGreatDoor
