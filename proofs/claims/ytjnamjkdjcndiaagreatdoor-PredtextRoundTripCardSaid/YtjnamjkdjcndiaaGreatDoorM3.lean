/-
  Words, plain laws and contracts on which the walks lean, in one text.
-/
import Derived.Test.YtjnamjkdjcndiaaGreatDoorM1
import Derived.Test.YtjnamjkdjcndiaaGreatDoorM2
import Derived.Lib.SlicesS
import Derived.Lib.SmallJoins
namespace Go.Proofs.YtjnamjkdjcndiaaGreatDoor
open Go.RowKit
structure Col where
 nm:ByteArray
 ty:Int
 sc:Int
 nu:Bool
def Col.cells (c:Col):List Value:=[.string c.nm,.int .i64 c.ty,.int .i64 c.sc,.bool c.nu]
theorem Col.cells_length (c:Col):c.cells.length=4:=rfl
def cols (l:List Col):List Value:=l.flatMap Col.cells
theorem cols_length (l:List Col):(cols l).length=l.length * 4:=by
 induction l with
 | nil=>rfl
 | cons e r ih=>simp only[cols,List.flatMap_cons,List.length_append,Col.cells_length,List.length_cons]at ih ⊢;omega
theorem cols_cons (e:Col) (l:List Col):cols (e::l)=e.cells++cols l:=rfl
theorem cols_snoc (a:List Col) (e:Col):cols (a ++ [e])=cols a++e.cells:=by simp[cols]
theorem cols_get {l:List Col} {k j:Nat} {e:Col} (h:l[k]?=some e) (hj:j<4):(cols l)[k * 4+j]?=e.cells[j]?:=by
 induction l generalizing k with
 | nil=>simp at h
 | cons x r ih =>
  rw[cols_cons];cases k with
  | zero =>
   simp at h;subst h
   rw[List.getElem?_append_left (by rw[Col.cells_length];omega)];simp
  | succ k =>
   rw[List.getElem?_append_right (by rw[Col.cells_length];omega),Col.cells_length,show (k+1) * 4+j - 4=k * 4+j by omega];exact ih (by simpa using h)
structure ColAt (w:World) (p:Addr) (c:Col):Prop where
 lt:p.block<w.heap.size
 c0:w.cell? p=some (.string c.nm)
 c1:w.cell? ⟨p.block,p.off+1,none⟩=some (.int .i64 c.ty)
 c2:w.cell? ⟨p.block,p.off+2,none⟩=some (.int .i64 c.sc)
 c3:w.cell? ⟨p.block,p.off+3,none⟩=some (.bool c.nu)
theorem ColAt.below {w w':World} {p:Addr} {c:Col} (h:ColAt w p c) (hb:Below w.heap.size w w'):ColAt w' p c :=
 ⟨Nat.lt_of_lt_of_le h.lt hb.size,(hb.cell h.lt).trans h.c0,(hb.cell (p:=⟨p.block,p.off+1,none⟩) h.lt).trans h.c1,(hb.cell (p:=⟨p.block,p.off+2,none⟩) h.lt).trans h.c2,(hb.cell (p:=⟨p.block,p.off+3,none⟩) h.lt).trans h.c3⟩
theorem add_off4 (p:Addr) (k j:Nat) (hj:0<j):p.add (k+j)=⟨(p.add k).block,(p.add k).off+j,none⟩:=by
 rw[←add_of_add];generalize p.add k=q
 unfold Addr.add
 rw[if_neg (by omega)]
theorem Sl.col_load {w:World} {A:Option Addr} {c k:Nat} {l:List Col} {n:Nat} (h:Sl w 4 (.slice A n c) n (cols l)) (hn:n=l.length) (hk:k<n):∃ ad e p,A=some ad∧l[k]?=some e∧ad.add (k * 4)=p∧ColAt w p e:=by
 subst hn;obtain ⟨A',c',e,_,_,_,h4⟩:=h;injection e with e1 e2 e3
 subst e1;obtain ⟨ad,rfl,_,hc⟩:=h4 (by omega);have he:l[k]?=some l[k]:=List.getElem?_eq_getElem hk;refine ⟨ad,l[k],_,rfl,he,rfl,?_⟩
 have hj:∀ j u,l[k].cells[j]?=some u→j<4→w.cell? (ad.add (k * 4+j))=some u:=fun j u h1 h2=>hc _ u (by rw[cols_get he h2];exact h1)
 have h0:=hj 0 _ rfl (by omega);rw[Nat.add_zero]at h0;exact ⟨World.block_lt_of_cell? w _ h0,h0,by rw[←add_off4 _ _ _ (by omega)];exact hj 1 _ rfl (by omega),by rw[←add_off4 _ _ _ (by omega)];exact hj 2 _ rfl (by omega),by rw[←add_off4 _ _ _ (by omega)];exact hj 3 _ rfl (by omega)⟩
theorem ColAt.of_blk {w:World} {g:Nat} {T:TypeId} {c:Col} (h:Blk w g T c.cells.toArray):ColAt w ⟨g,0,none⟩ c :=
 ⟨h.lt,h.cell 0,h.cell 1,h.cell 2,h.cell 3⟩
def findC (l:List Col) (x:ByteArray):Int:=match l.findIdx? (fun c=>decide (c.nm=x)) with
 | some i=>(i:Int)
 | none=>-1
theorem findC_hit {l:List Col} {x:ByteArray} {k:Nat} {c:Col} (h:l[k]?=some c) (hc:c.nm=x) (hn:∀ (j:Nat) (d:Col),l[j]?=some d→j<k→d.nm≠x):findC l x=k:=by
 unfold findC
 have:l.findIdx? (fun c=>decide (c.nm=x))=some k:=by
  obtain ⟨hk,he⟩:=List.getElem?_eq_some_iff.1 h;rw[List.findIdx?_eq_some_iff_getElem];refine ⟨hk,by rw[he];simpa using hc,fun j hj=>?_⟩
  have:=hn j _ (List.getElem?_eq_getElem (by omega)) hj
  simpa using this
 rw[this]
theorem findC_miss {l:List Col} {x:ByteArray} (hn:∀ (j:Nat) (d:Col),l[j]?=some d→d.nm≠x):findC l x=-1:=by
 unfold findC
 have:l.findIdx? (fun c=>decide (c.nm=x))=none:=by
  rw[List.findIdx?_eq_none_iff];intro c hc
  obtain ⟨j,hj⟩:=List.mem_iff_getElem?.1 hc;simpa using hn j c hj
 rw[this]
theorem colq_ne {s t:ByteArray} (h:s≠t):(s.toList==t.toList)=false:=(Lib.bytes_beq_false_iff s t).2 h
theorem colq_eq {s t:ByteArray} (h:s=t):(s.toList==t.toList)=true:=(Lib.bytes_beq_iff s t).2 h
def RetBB (w:World) (b:Bool) (e:Ending) (w':World):Prop:=e=.returned (.bool b)∧Below w.heap.size w w'
theorem RetBB.mk_ {w w':World} {b b':Bool} (h:b=b') (hb:Below w.heap.size w w'):RetBB w b (.returned (.bool b')) w':=by subst h;exact ⟨rfl,hb⟩
set_option maxHeartbeats 1000000 in
theorem findLit_any (c:Col) (x:ByteArray) (q:Addr) (w:World) (hq:w.cell? q=some (.string x)):Calls Tryz.prog 67 #[.agg #[.string c.nm,.int .i64 c.ty,.int .i64 c.sc,.bool c.nu],.pointer (some q)] w (RetBB w (decide (c.nm=x))):=by
 have hq2:=cell_alloc hq (.cells #[.string c.nm,.int .i64 c.ty,.int .i64 c.sc,.bool c.nu] 56);by_cases h:c.nm=x
 ·have t1:=colq_eq h;have HF:=Lib.hid (show decide (c.nm=x)=true from decide_eq_true h);clear h hq;go_enter Tryz.func67,Tryz.ntmps67
  go_wp2;go_ret;exact RetBB.mk_ HF.out ((Below.refl _ _).alloc (Nat.le_refl _) _)
 ·have t1:=colq_ne h;have HF:=Lib.hid (show decide (c.nm=x)=false from decide_eq_false h);clear h hq;go_enter Tryz.func67,Tryz.ntmps67
  go_wp2;go_ret;exact RetBB.mk_ HF.out ((Below.refl _ _).alloc (Nat.le_refl _) _)
theorem retBB_at {P:Program} {f:FuncId} {args:Array Value} {w:World} {b b':Bool} (h:b=b') (hc:Calls P f args w (RetBB w b)):Calls P f args w fun e w'=>e=.returned (.bool b')∧Below w.heap.size w w':=by subst h;exact hc
set_option maxRecDepth 100000 in
set_option maxHeartbeats 1000000 in
theorem indexFunc_any (v:Value) (l:List Col) (x:ByteArray) (q:Addr) (w:World) (hs:Sl w 4 v l.length (cols l)) (hl:l.length≤9223372036854775807) (hq:w.cell? q=some (.string x)) :
  Calls Tryz.prog 66 #[v,.func (.func 67) #[] #[.pointer (some q)]] w (RetN w (findC l x)):=by
 obtain ⟨A,c,rfl,hc1,hc2⟩:=hs.form;have HQ:=Lib.hid (World.block_lt_of_cell? w q hq);go_enter Tryz.func66,Tryz.ntmps66
 go_wp2;go_loopw [8] (fun i wr=>∃ k:Nat,k≤l.length∧i=.int .i64 k∧Below w.heap.size w wr∧Hid (∀ (j:Nat) (d:Col),l[j]?=some d→j<k→d.nm≠x)) (fun i _=>l.length - (intOf i).toNat)
 case atStart=>exact ⟨0,by omega,rfl,Below.refl _ _,Lib.hid fun j d _ hj=>absurd hj (Nat.not_lt_zero _)⟩
 case round =>
  obtain ⟨k,hk,rfl,hbel,hno⟩:=hrel;by_cases hlt:k<l.length
  ·obtain ⟨ad,e,p,rfl,he,hp,hE⟩:=(hs.below hbel).col_load rfl hlt;obtain ⟨hplt,c0,c1,c2,c3⟩:=hE;have hqw:=(hbel.cell HQ.out).trans hq;have HE:=Lib.hid he;clear he;by_cases hn:e.nm=x
   ·have HC:=Lib.hid (retBB_at (decide_eq_true hn) (findLit_any e x q wr hqw));have HF:=Lib.hid (findC_hit HE.out hn hno.out);clear hn;go_wp2_with fail
    refine HC.out.mono ?_;rintro _ w2 ⟨rfl,hb2⟩;go_wp2;go_ret;exact RetN.mk_ HF.out (hbel.trans (hb2.mono hbel.size))
   ·have HC:=Lib.hid (retBB_at (decide_eq_false hn) (findLit_any e x q wr hqw));have HN:=Lib.hid (show ∀ (j:Nat) (d:Col),l[j]?=some d→j<k+1→d.nm≠x from fun j d hd hj=>by
     by_cases ej:j=k
     ·subst ej;rw[HE.out]at hd;injection hd with hd;rw[←hd];exact hn
     ·exact hno.out j d hd (by omega))
    clear hn;go_wp2_with fail
    refine HC.out.mono ?_;rintro _ w2 ⟨rfl,hb2⟩;have HB:=Lib.hid (hbel.trans (hb2.mono hbel.size));clear hb2 hbel;go_wp2;go_roundw
    case rel=>exact ⟨k+1,by omega,by go_num,HB.out,HN⟩
    case measure=>simp[intOf];omega
  ·have HF:=Lib.hid (findC_miss (l:=l) (x:=x) (fun j d hd=>hno.out j d hd (by have:=(List.getElem?_eq_some_iff.1 hd).1;omega)));go_wp2;go_ret;exact RetN.mk_ HF.out hbel
theorem retN_at {P:Program} {f:FuncId} {args:Array Value} {w:World} {x:Int} (hc:Calls P f args w (RetN w x)):Calls P f args w fun e w'=>e=.returned (.int .i64 x)∧Below w.heap.size w w':=hc
set_option maxRecDepth 100000 in
set_option maxHeartbeats 1000000 in
theorem find_any (v:Value) (l:List Col) (key:Int) (x:ByteArray) (w:World) (hs:Sl w 4 v l.length (cols l)) (hl:l.length≤9223372036854775807) :
  Calls Tryz.prog 42 #[.agg #[v,.int .i64 key],.string x] w (RetN w (findC l x)):=by
 obtain ⟨A,c,rfl,hc1,hc2⟩:=hs.form;obtain ⟨W,hW⟩:∃ W,W=(w.alloc (.cells #[.slice A l.length c,.int .i64 key] 28)).alloc (.cells #[.string x] 9):=⟨_,rfl⟩
 have hb:=Joins.below_alloc2 w (.cells #[.slice A l.length c,.int .i64 key] 28) (.cells #[.string x] 9);rw[←hW]at hb;have hq:W.cell? ⟨w.heap.size+1,0,none⟩=some (.string x):=by rw[hW];simp
 have HC:=Lib.hid (retN_at (indexFunc_any _ l x ⟨w.heap.size+1,0,none⟩ W (hs.below hb) hl hq));have HB:=Lib.hid hb;clear hq hb hs;go_enter Tryz.func42,Tryz.ntmps42
 go_wp2_with fail
 rw[←hW];clear hW;refine HC.out.mono ?_;rintro _ w2 ⟨rfl,hb2⟩;go_wp2;go_ret;exact RetN.mk_ rfl (bst HB.out hb2)
structure Vl where
 nu:Bool
 n:Int
 s:ByteArray
def Vl.cells (x:Vl):List Value:=[.bool x.nu,.int .i64 x.n,.string x.s]
def vls (l:List Vl):List Value:=l.flatMap Vl.cells
theorem vls_snoc (a:List Vl) (e:Vl):vls (a ++ [e])=vls a++e.cells:=by simp[vls]
theorem vls_get:∀ {l:List Vl} {k j:Nat} {e:Vl},l[k]?=some e→j<3→(vls l)[k * 3+j]?=e.cells[j]?
 | [],k,_,_,h,_=>by simp at h
 | a::r,0,j,e,h,hj=>by
  simp at h
  subst h;unfold vls
  rw[List.flatMap_cons,Nat.zero_mul,Nat.zero_add,List.getElem?_append_left (by rw[show a.cells.length=3 from rfl];exact hj)]
 | a::r,k+1,j,e,h,hj=>by
  have ih:=vls_get (l:=r) (k:=k) (j:=j) (e:=e) (by simpa using h) hj;unfold vls at ih ⊢
  rw[List.flatMap_cons,List.getElem?_append_right (by rw[show a.cells.length=3 from rfl];omega),←ih,show a.cells.length=3 from rfl];congr 1;omega
structure VlAt (w:World) (p:Addr) (x:Vl):Prop where
 lt:p.block<w.heap.size
 c0:w.cell? p=some (.bool x.nu)
 c1:w.cell? { block:=p.block,off:=p.off+1 }=some (.int .i64 x.n)
 c2:w.cell? { block:=p.block,off:=p.off+2 }=some (.string x.s)
theorem Sl.vl_load {w:World} {A:Option Addr} {c k:Nat} {l:List Vl} {n:Nat} (h:Sl w 3 (.slice A n c) n (vls l)) (hn:n=l.length) (hk:k<n):∃ ad e p,A=some ad∧l[k]?=some e∧ad.add (k * 3)=p∧VlAt w p e:=by
 obtain ⟨A',c',e0,h1,h2,h3,h4⟩:=h;injection e0 with e1 e2 e3
 subst e1;obtain ⟨ad,e,hb,hc⟩:=h4 (by omega);have hl:k<l.length:=by omega
 have he:=List.getElem?_eq_getElem hl;refine ⟨ad,l[k],_,e,he,rfl,?_⟩
 have hj:∀ j u,j<3→l[k].cells[j]?=some u→w.cell? (ad.add (k * 3+j))=some u:=fun j u h1 h2=>hc _ u ((vls_get he h1).trans h2)
 have h0:=hj 0 _ (by omega) rfl;rw[Nat.add_zero]at h0;have hj':∀ j u,0<j→j<3→l[k].cells[j]?=some u→w.cell? { block:=(ad.add (k * 3)).block,off:=(ad.add (k * 3)).off+j }=some u:=fun j u h1 h2 h3=>by rw[←add_off4 _ _ _ h1];exact hj j u h2 h3
 exact ⟨World.block_lt_of_cell? w _ h0,h0,hj' 1 _ (by omega) (by omega) rfl,hj' 2 _ (by omega) (by omega) rfl⟩
structure Nd where
 op:Int
 col:Int
 v:Vl
 l:List Vl
 a:Int
 b:Int
def ndCells (x:Nd) (u:Value):List Value:=[.int .i64 x.op,.int .i64 x.col,.bool x.v.nu,.int .i64 x.v.n,.string x.v.s,u,.int .i64 x.a,.int .i64 x.b]
def nds:List Nd→List Value→List Value
 | x::h,u::us=>ndCells x u++nds h us
 | _,_=>[]
theorem nds_length:∀ {h:List Nd} {us:List Value},us.length=h.length→(nds h us).length=h.length * 8
 | [],[],_=>rfl
 | [],u::us,e=>by simp at e
 | x::h,[],e=>by simp at e
 | x::h,u::us,e=>by
  have:=nds_length (h:=h) (us:=us) (by simpa using e)
  simp only[nds,List.length_append,this,List.length_cons];show 8+_=_;omega
theorem nds_get:∀ {h:List Nd} {us:List Value} {k j:Nat} {x:Nd} {u:Value},us.length=h.length→h[k]?=some x→us[k]?=some u→j<8→(nds h us)[k * 8+j]?=(ndCells x u)[j]?
 | [],us,k,j,x,u,_,h1,_,_=>by simp at h1
 | a::h,[],k,j,x,u,hl,_,_,_=>by simp at hl
 | a::h,b::us,0,j,x,u,hl,h1,h2,hj=>by
  simp at h1 h2;subst h1 h2
  simp only[nds];rw[Nat.zero_mul,Nat.zero_add,List.getElem?_append_left (by show j<8;exact hj)]
 | a::h,b::us,k+1,j,x,u,hl,h1,h2,hj=>by
  simp only[nds];rw[List.getElem?_append_right (by show 8≤_;omega),show (k+1) * 8+j - (ndCells a b).length=k * 8+j by show (k+1) * 8+j - 8=_;omega];exact nds_get (by simpa using hl) (by simpa using h1) (by simpa using h2) hj
structure NdAt (w:World) (p:Addr) (x:Nd) (u:Value):Prop where
 lt:p.block<w.heap.size
 c0:w.cell? p=some (.int .i64 x.op)
 c1:w.cell? { block:=p.block,off:=p.off+1 }=some (.int .i64 x.col)
 c2:w.cell? { block:=p.block,off:=p.off+2 }=some (.bool x.v.nu)
 c3:w.cell? { block:=p.block,off:=p.off+3 }=some (.int .i64 x.v.n)
 c4:w.cell? { block:=p.block,off:=p.off+4 }=some (.string x.v.s)
 c5:w.cell? { block:=p.block,off:=p.off+5 }=some u
 c6:w.cell? { block:=p.block,off:=p.off+6 }=some (.int .i64 x.a)
 c7:w.cell? { block:=p.block,off:=p.off+7 }=some (.int .i64 x.b)
def SlNd (w:World) (v:Value) (l:List Nd):Prop :=
 ∃ us:List Value,us.length=l.length∧Sl w 8 v l.length (nds l us)∧∀ (k:Nat) (x:Nd) (u:Value),l[k]?=some x→us[k]?=some u→Sl w 3 u x.l.length (vls x.l)
theorem SlNd.below {w w':World} {v:Value} {l:List Nd} (h:SlNd w v l) (hb:Below w.heap.size w w'):SlNd w' v l:=by
 obtain ⟨us,h1,h2,h3⟩:=h;exact ⟨us,h1,h2.below hb,fun k x u hk hu=>(h3 k x u hk hu).below hb⟩
theorem SlNd.form {w:World} {v:Value} {l:List Nd} (h:SlNd w v l):∃ A c,v=.slice A l.length c∧l.length≤c∧c≤maxLen:=by
 obtain ⟨us,h1,h2,h3⟩:=h;exact h2.form
theorem SlNd.nd_load {w:World} {A:Option Addr} {c k:Nat} {l:List Nd} {n:Nat} (h:SlNd w (.slice A n c) l) (hn:n=l.length) (hk:k<n):∃ ad x u p,A=some ad∧l[k]?=some x∧ad.add (k * 8)=p∧NdAt w p x u∧Sl w 3 u x.l.length (vls x.l):=by
 subst hn;obtain ⟨us,hus,h,h5⟩:=h;obtain ⟨A',c',e0,h1,h2,h3,h4⟩:=h;injection e0 with e1 e2 e3
 subst e1;obtain ⟨ad,e,hb,hc⟩:=h4 (by omega);have he:=List.getElem?_eq_getElem hk;have hu:=List.getElem?_eq_getElem (show k<us.length by omega);refine ⟨ad,l[k],us[k],_,e,he,rfl,?_,h5 k _ _ he hu⟩
 have hj:∀ j u,j<8→(ndCells l[k] us[k])[j]?=some u→w.cell? (ad.add (k * 8+j))=some u:=fun j u h1 h2=>hc _ u ((nds_get hus he hu h1).trans h2)
 have h0:=hj 0 _ (by omega) rfl;rw[Nat.add_zero]at h0;have hj':∀ j u,0<j→j<8→(ndCells l[k] us[k])[j]?=some u→w.cell? { block:=(ad.add (k * 8)).block,off:=(ad.add (k * 8)).off+j }=some u:=fun j u h1 h2 h3=>by rw[←add_off4 _ _ _ h1];exact hj j u h2 h3
 exact ⟨World.block_lt_of_cell? w _ h0,h0,hj' 1 _ (by omega) (by omega) rfl,hj' 2 _ (by omega) (by omega) rfl,hj' 3 _ (by omega) (by omega) rfl,hj' 4 _ (by omega) (by omega) rfl,hj' 5 _ (by omega) (by omega) rfl,hj' 6 _ (by omega) (by omega) rfl,hj' 7 _ (by omega) (by omega) rfl⟩
end Go.Proofs.YtjnamjkdjcndiaaGreatDoor
