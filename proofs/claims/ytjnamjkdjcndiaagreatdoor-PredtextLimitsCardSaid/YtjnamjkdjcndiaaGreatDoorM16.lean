/-
  Words, plain laws and contracts on which the walks lean, in one text.
-/
import Derived.Test.YtjnamjkdjcndiaaGreatDoorM15
import Derived.Test.YtjnamjkdjcndiaaGreatDoorM21
import Derived.Test.YtjnamjkdjcndiaaGreatDoorVGen
import Derived.Test.YtjnamjkdjcndiaaGreatDoorKValue
namespace Go.Proofs.YtjnamjkdjcndiaaGreatDoor
open Go.RowKit Go.Sort
def OwnNd (w:World) (base:Nat) (v:Value) (l:List Nd):Prop :=
 ∃ us:List Value,us.length=l.length∧w.ownsRow base 66 8 v l.length (nds l us)∧∀ (k:Nat) (x:Nd) (u:Value),l[k]?=some x→us[k]?=some u→w.ownsRow base 64 3 u x.l.length (vls x.l)
theorem nds_snoc:∀ {h:List Nd} {us:List Value} {s:Nd} {u:Value},us.length=h.length→nds (h ++ [s]) (us ++ [u])=nds h us++ndCells s u
 | [],us,s,u,hl=>by have:us=[]:=List.eq_nil_of_length_eq_zero hl;subst this;simp[nds]
 | x::h,[],s,u,hl=>by simp at hl
 | x::h,y::us,s,u,hl=>by
  have:=nds_snoc (h:=h) (us:=us) (s:=s) (u:=u) (by simpa using hl)
  simp only[List.cons_append,nds,this,List.append_assoc]
theorem OwnNd.sl {w:World} {base:Nat} {v:Value} {l:List Nd} (ho:OwnNd w base v l):SlNd w v l:=by
 obtain ⟨us,h1,h2,h3⟩:=ho
 exact ⟨us,h1,Sl.of_own h2,fun k s u hk hu=>Sl.of_own (h3 k s u hk hu)⟩
theorem OwnNd.below {w w':World} {base:Nat} {v:Value} {h:List Nd} (ho:OwnNd w base v h) (hb:Below w.heap.size w w'):OwnNd w' base v h:=by
 obtain ⟨us,h1,h2,h3⟩:=ho
 exact ⟨us,h1,own_below h2 hb,fun k s u hk hu=>own_below (h3 k s u hk hu) hb⟩
theorem OwnNd.mono {w:World} {base base':Nat} {v:Value} {h:List Nd} (ho:OwnNd w base v h) (hb:base'≤base):OwnNd w base' v h:=by
 obtain ⟨us,h1,h2,h3⟩:=ho
 exact ⟨us,h1,own_mono h2 hb,fun k s u hk hu=>own_mono (h3 k s u hk hu) hb⟩
theorem OwnNd.form {w:World} {base:Nat} {v:Value} {l:List Nd} (ho:OwnNd w base v l):∃ A c,v=.slice A l.length c∧l.length≤c∧c≤maxLen:=ho.sl.form
theorem OwnNd.nil (w:World) (base:Nat):OwnNd w base (.slice none 0 0) []:=⟨[],rfl,World.ownsRow_nil _ _ _ _,fun k s u h=>by simp at h⟩
theorem info_nd:(Tryz.prog.info? 66).map (fun i=>(i.zero,i.size,i.bytes))=some (some (.agg #[.int .i64 0,.int .i64 0,.bool false,.int .i64 0,.string { data:=#[] },.slice none 0 0,.int .i64 0,.int .i64 0]),8,88):=by kernel_rfl
theorem under_nd:Tryz.prog.underlying 22=some (.slice 66):=Tryz.underlying22
theorem one8 (a b c d e:Int) (t:Bool) (s:ByteArray) (A:Option Addr) (n k:Nat):∀ u ∈ (#[Value.int .i64 a,.int .i64 b,.bool t,.int .i64 c,.string s,.slice A n k,.int .i64 d,.int .i64 e]:Array Value).toList,u.oneCell'=true:=by
 intro u hu
 simp only[List.mem_cons,List.not_mem_nil,or_false]at hu
 rcases hu with rfl|rfl|rfl|rfl|rfl|rfl|rfl|rfl <;> rfl
theorem nd_snoc {w w':World} {base:Nat} {v v':Value} {h:List Nd} {us:List Value} {s:Nd} {u:Value} (h1:us.length=h.length) (h2:w.ownsRow base 66 8 v h.length (nds h us))
  (h3:∀ (k:Nat) (s:Nd) (u:Value),h[k]?=some s→us[k]?=some u→w.ownsRow base 64 3 u s.l.length (vls s.l)) (hu:w.ownsRow base 64 3 u s.l.length (vls s.l))
  (hn:w'.ownsRow base 66 8 v' (h.length+1) (nds h us++ndCells s u)) (hg:w.grownBy w' v.ownBlock):OwnNd w' base v' (h ++ [s]):=by
 refine ⟨us ++ [u],by simp[h1],by rw[List.length_append,nds_snoc h1];exact hn,fun k t x hk hx=>?_⟩
 have key:∀ {t:Nd} {x:Value},w.ownsRow base 64 3 x t.l.length (vls t.l)→w'.ownsRow base 64 3 x t.l.length (vls t.l):=fun ho=>own_grown ho hg (fun b hb e=>own_ne ho h2 (by decide) b hb e)
 by_cases hlt:k<h.length
 ·rw[List.getElem?_append_left hlt]at hk
  rw[List.getElem?_append_left (by omega)]at hx
  exact key (h3 k t x hk hx)
 ·rw[List.getElem?_append_right (by omega)]at hk
  rw[List.getElem?_append_right (by omega),h1]at hx
  rcases hkk:k - h.length with _|m
  ·rw[hkk]at hk hx;simp at hk hx;subst hk hx;exact key hu
  ·rw[hkk]at hk;simp at hk
structure Kp (S:Nat→Prop) (w w':World):Prop where
 os:w'.os=w.os
 tape:w'.tape=w.tape
 output:w'.output=w.output
 size:w.heap.size≤w'.heap.size
 block:∀ i,i<w.heap.size→¬ S i→w'.heap[i]?=w.heap[i]?
section
variable {S S':Nat→Prop} {w a b w':World}
theorem Kp.refl:Kp S w w:=⟨rfl,rfl,rfl,Nat.le_refl _,fun _ _ _=>rfl⟩
theorem Kp.trans (h:Kp S w a) (k:Kp S a b):Kp S w b :=
 ⟨k.os.trans h.os,k.tape.trans h.tape,k.output.trans h.output,Nat.le_trans h.size k.size,fun i hi hs=>(k.block i (Nat.lt_of_lt_of_le hi h.size) hs).trans (h.block i hi hs)⟩
theorem Kp.then' (h:Kp S w a) (k:Kp S' a b) (hs:∀ i,i<w.heap.size→S' i→S i):Kp S w b :=
 ⟨k.os.trans h.os,k.tape.trans h.tape,k.output.trans h.output,Nat.le_trans h.size k.size,fun i hi hn=>(k.block i (Nat.lt_of_lt_of_le hi h.size) (fun h'=>hn (hs i hi h'))).trans (h.block i hi hn)⟩
theorem Kp.grown {row:Option Nat} (h:Kp S w a) (k:a.grownBy b row) (hs:∀ i,row=some i→i<w.heap.size→S i):Kp S w b :=
 h.then' (S':=fun i=>row=some i) ⟨k.os,k.tape,k.output,k.size,fun i hi hn=>k.block i hi (fun e=>hn e.symm)⟩ (fun i hi h'=>hs i h' hi)
theorem Kp.only {g:Nat} (h:Kp S w a) (k:Only g a b) (hg:S g∨w.heap.size≤g):Kp S w b:=h.grown k (fun i e hi=>by injection e with e;subst e;rcases hg with h | h;exact h;omega)
theorem Kp.below (h:Kp S w a) (k:Below a.heap.size a b):Kp S w b:=h.then' (S':=fun _=>False) ⟨k.os,k.tape,k.output,k.size,fun i hi _=>k.block i hi⟩ (fun _ _ h=>h.elim)
theorem Kp.set {p:Addr} (h:Kp S w a) (hp:S p.block∨w.heap.size≤p.block) (u:Value):Kp S w (a.setCell p u):=h.grown (grownBy_set a p u) (fun i e hi=>by injection e with e;subst e;rcases hp with h | h;exact h;omega)
theorem Kp.alloc (h:Kp S w a) (o:Obj):Kp S w (a.alloc o):=h.below (below_new _ _)
theorem Kp.drewN (h:Kp S w a) (n:Nat):Kp S w (a.drewN n):=⟨h.os,h.tape,h.output,h.size,h.block⟩
theorem Kp.mono (h:Kp S w a) (hs:∀ i,i<w.heap.size→S i→S' i):Kp S' w a:=⟨h.os,h.tape,h.output,h.size,fun i hi hn=>h.block i hi (fun h'=>hn (hs i hi h'))⟩
theorem Blk.kp {g:Nat} {t:TypeId} {cs:Array Value} (h:Blk w g t cs) (k:Kp S w w') (hg:¬ S g):Blk w' g t cs:=(k.block g h.lt hg).trans h
theorem own_kp {base:Nat} {e:TypeId} {size n:Nat} {v:Value} {xs:List Value} (h:w.ownsRow base e size v n xs) (k:Kp S w w') (hv:∀ b,v.ownBlock=some b→¬ S b):w'.ownsRow base e size v n xs:=by
 refine ⟨h.1,?_⟩
 rcases h.2 with hn|⟨g,cap,cur,rfl,hb,hgg,rest⟩
 ·exact .inl hn
 ·refine .inr ⟨g,cap,cur,rfl,hb,?_,rest⟩
  rw[k.block g (Array.getElem?_eq_some_iff.1 hgg).1 (hv g rfl)]
  exact hgg
theorem below_kp {B:Nat} {z:World} (h:Below B z w) (k:Kp S w w') (hS:∀ i,S i→B≤i) (hB:B≤w.heap.size):Below B z w' :=
 ⟨k.os.trans h.os,k.tape.trans h.tape,k.output.trans h.output,Nat.le_trans h.size k.size,fun i hi=>(k.block i (Nat.lt_of_lt_of_le hi hB) (fun hs=>by have:=hS i hs;omega)).trans (h.block i hi)⟩
theorem OwnNd.kp {base:Nat} {v:Value} {l:List Nd} (h:OwnNd w base v l) (k:Kp S w w') (hv:∀ b,v.ownBlock=some b→¬ S b) (hl:∀ (u:Value) (n:Nat) (xs:List Value),w.ownsRow base 64 3 u n xs→∀ b,u.ownBlock=some b→¬ S b):OwnNd w' base v l:=by
 obtain ⟨us,h1,h2,h3⟩:=h
 exact ⟨us,h1,own_kp h2 k hv,fun j s u hk hu=>own_kp (h3 j s u hk hu) k (hl _ _ _ (h3 j s u hk hu))⟩
end
open Go.RowKit Go.Sort
theorem info_vl:(Tryz.prog.info? 64).map (fun i=>(i.zero,i.size,i.bytes))=some (some (.agg #[.bool false,.int .i64 0,.string { data:=#[] }]),3,32):=by kernel_rfl
theorem under_vl:Tryz.prog.underlying 46=some (.slice 64):=Tryz.underlying46
theorem one_val3 (t:Bool) (a:Int) (s:ByteArray):∀ u ∈ (#[Value.bool t,.int .i64 a,.string s]:Array Value).toList,u.oneCell'=true:=by
 intro u hu
 simp only[List.mem_cons,List.not_mem_nil,or_false]at hu
 rcases hu with rfl|rfl|rfl <;> rfl
end Go.Proofs.YtjnamjkdjcndiaaGreatDoor
