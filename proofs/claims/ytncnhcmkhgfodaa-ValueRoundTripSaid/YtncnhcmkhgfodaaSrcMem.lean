/-
 Words for memory: a block that is known whole;a source of integers (keep.Source) that is being used up.
-/
import Derived.Test.YtncnhcmkhgfodaaM1
namespace Go.Proofs.Ytncnhcmkhgfodaa
open Go.RowKit
def Blk (w:World) (g:Nat) (t:TypeId) (cs:Array Value):Prop:=w.heap[g]?=some (.cells cs t (0,0))
section
variable {w w':World} {g:Nat} {t:TypeId} {cs:Array Value}
theorem Blk.lt (h:Blk w g t cs):g<w.heap.size:=by
 rcases Nat.lt_or_ge g w.heap.size with hlt|hge
 ·exact hlt
 ·unfold Blk at h;rw[Array.getElem?_eq_none hge]at h;cases h
theorem Blk.cell (h:Blk w g t cs) (i:Nat):w.cell? ⟨g,i,none⟩=cs[i]?:=cell_of_row w g i cs t (0,0) h
theorem Blk.frozen (h:Blk w g t cs) (i:Nat):w.frozen? ⟨g,i,none⟩=false:=by
 unfold Blk at h
 simp[World.frozen?,h]
theorem Blk.new (w:World) (t:TypeId) (cs:Array Value):Blk (w.alloc (.cells cs t)) w.heap.size t cs:=heap_alloc_new w _
theorem Blk.drewN (h:Blk w g t cs) (n:Nat):Blk (w.drewN n) g t cs:=h
theorem Blk.alloc (h:Blk w g t cs) (o:Obj):Blk (w.alloc o) g t cs:=(Below.heap_alloc w o g h.lt).trans h
theorem Blk.set_ (h:Blk w g t cs) (i:Nat) (u:Value):Blk (w.setCell ⟨g,i,none⟩ u) g t (cs.setIfInBounds i u):=by
 unfold Blk at h ⊢
 simp[World.setCell,Array.getElem?_modify,h]
theorem Blk.below {B:Nat} (h:Blk w g t cs) (hb:Below B w w') (hg:g<B):Blk w' g t cs:=(hb.block g hg).trans h
theorem Blk.grown {row:Option Nat} (h:Blk w g t cs) (hb:w.grownBy w' row) (hg:row≠some g):Blk w' g t cs:=(hb.block g h.lt (Ne.symm hg)).trans h
theorem own_blk_ne {base:Nat} {e:TypeId} {size n:Nat} {v:Value} {xs:List Value} (h:w.ownsRow base e size v n xs) (hg:Blk w g t cs) (hne:e≠t):v.ownBlock≠some g:=by
 rcases h.2 with ⟨rfl,_⟩|⟨g',cap,cur,rfl,_,hh,_⟩
 ·simp[Value.ownBlock]
 ·intro he
  have:g'=g:=by simpa [Value.ownBlock] using he
  subst this;unfold Blk at hg
  rw[hh]at hg;injection hg with hg
  injection hg with _ ht
  exact hne ht
end

def Src (w:World) (B:Nat) (t:TypeId) (g:Nat) (rest:List Int):Prop :=
 ∃ (A:Option Addr) (c:Nat) (zs:List Int) (i:Nat) (w0:World),Blk w g t #[.slice A zs.length c,.int .i64 i]∧Sl w0 1 (.slice A zs.length c) zs.length (ints zs)∧w0.heap.size=B∧Below B w0 w∧B≤g∧i≤zs.length∧rest=zs.drop i∧zs.length≤9223372036854775807∧(∀ x ∈ rest,-9223372036854775808≤x∧x≤9223372036854775807)

def Only (g:Nat) (w w':World):Prop:=w.grownBy w' (some g)
def raw (l:List Int):Int:=l.headD 0
section
variable {w w' w'':World} {B g:Nat} {t:TypeId} {rest:List Int}
theorem Only.refl (g:Nat) (w:World):Only g w w:=World.grownBy.refl _ _
theorem Only.trans (h:Only g w w') (k:Only g w' w''):Only g w w'':=grown_trans' h k
theorem Only.drewN (h:Only g w w') (_n:Nat):Only g w (w'.drewN _n):=⟨h.os,h.tape,h.output,h.size,h.block⟩
theorem Only.alloc (h:Only g w w') (o:Obj):Only g w (w'.alloc o):=h.trans (World.grownBy_alloc _ _ _)
theorem Only.set_ (h:Only g w w') (i:Nat) (u:Value):Only g w (w'.setCell ⟨g,i,none⟩ u) :=
 ⟨h.os,h.tape,h.output,by simpa [World.setCell] using h.size,fun k hk hne=>(Below.heap_setCell w' _ u k (by rintro rfl;exact hne rfl)).trans (h.block k hk hne)⟩
theorem Only.grown {row:Option Nat} (h:Only g w w') (hg:w'.grownBy w'' row) (hr:∀ k,row=some k→w.heap.size≤k∨k=g):Only g w w'' :=
 ⟨hg.os.trans h.os,hg.tape.trans h.tape,hg.output.trans h.output,Nat.le_trans h.size hg.size,fun i hi hne=>(hg.block i (Nat.lt_of_lt_of_le hi h.size) (fun e=>by
  rcases hr i e.symm with hk|hk
  ·omega
  ·subst hk;exact hne rfl)).trans (h.block i hi hne)⟩
theorem Only.below (h:Only g w w') {b:Nat} (hb:b≤g) (hs:b≤w.heap.size):Below b w w':=⟨h.os,h.tape,h.output,h.size,fun i hi=>h.block i (by omega) (by intro e;injection e;omega)⟩

theorem Src.lt (h:Src w B t g rest):g<w.heap.size:=by obtain ⟨A,c,zs,i,w0,hb,_⟩:=h;exact hb.lt
theorem Src.ge (h:Src w B t g rest):B≤g:=by obtain ⟨A,c,zs,i,w0,hb,_,_,_,hg,_⟩:=h;exact hg
theorem Src.drewN (h:Src w B t g rest) (n:Nat):Src (w.drewN n) B t g rest:=by
 obtain ⟨A,c,zs,i,w0,hb,hs,h0,hbel,r⟩:=h;exact ⟨A,c,zs,i,w0,hb,hs,h0,below_drewN hbel n,r⟩
theorem Src.grown {row:Option Nat} (h:Src w B t g rest) (hg:w.grownBy w' row) (hne:row≠some g) (hr:∀ k,row=some k→B≤k):Src w' B t g rest:=by
 obtain ⟨A,c,zs,i,w0,hb,hs,h0,hbel,hB,r⟩:=h;exact ⟨A,c,zs,i,w0,hb.grown hg hne,hs,h0,hbel.grown hg (by have:=hb.lt;omega) hr,hB,r⟩
theorem Src.below (h:Src w B t g rest) (hb:Below w.heap.size w w'):Src w' B t g rest :=
 h.grown (row:=none) ⟨hb.os,hb.tape,hb.output,hb.size,fun i hi _=>hb.block i hi⟩ (by simp) (by simp)
theorem Src.alloc (h:Src w B t g rest) (o:Obj):Src (w.alloc o) B t g rest:=h.grown (World.grownBy_alloc w o none) (by simp) (by simp)
theorem Src.new {zs:List Int} {A:Option Addr} {c:Nat} (hs:Sl w 1 (.slice A zs.length c) zs.length (ints zs)) (hl:zs.length≤9223372036854775807) (hr:∀ x ∈ zs,-9223372036854775808≤x∧x≤9223372036854775807):Src (w.alloc (.cells #[.slice A zs.length c,.int .i64 0] t)) w.heap.size t w.heap.size zs :=
 ⟨A,c,zs,0,w,Blk.new _ _ _,hs,rfl,(Below.refl _ _).alloc (Nat.le_refl _) _,Nat.le_refl _,by omega,rfl,hl,hr⟩
theorem Src.stepped {A:Option Addr} {c:Nat} {zs:List Int} {i:Nat} {w0:World} (hb:Blk w g t #[.slice A zs.length c,.int .i64 i]) (hs:Sl w0 1 (.slice A zs.length c) zs.length (ints zs)) (h0:w0.heap.size=B) (hbel:Below B w0 w) (hg:B≤g) (hi:i<zs.length) (hl:zs.length≤9223372036854775807) (hr:∀ x ∈ zs.drop i,-9223372036854775808≤x∧x≤9223372036854775807) :
  Src (w.setCell ⟨g,1,none⟩ (.int .i64 ((i:Int)+1))) B t g (zs.drop i).tail:=by
 refine ⟨A,c,zs,i+1,w0,?_,hs,h0,hbel.setCell hg _,hg,by omega,by simp,hl,fun x hx=>hr x (List.mem_of_mem_tail hx)⟩
 have:=hb.set_ 1 (.int .i64 ((i+1:Nat):Int))
 simpa using this
end

theorem Src.raw_bd {w:World} {B g:Nat} {t:TypeId} {rest:List Int} (h:Src w B t g rest):-9223372036854775808≤raw rest∧raw rest≤9223372036854775807:=by
 obtain ⟨A,c,zs,i,w0,_,_,_,_,_,_,_,_,hr⟩:=h;cases rest with
 | nil=>simp[raw]
 | cons x r=>exact hr x (by simp)
theorem Src.own_ne {w:World} {B g:Nat} {t:TypeId} {rest:List Int} {base:Nat} {e:TypeId} {size n:Nat} {v:Value} {xs:List Value} (h:Src w B t g rest) (ho:w.ownsRow base e size v n xs) (hne:e≠t):v.ownBlock≠some g:=by
 obtain ⟨A,c,zs,i,w0,hb,_⟩:=h;exact own_blk_ne ho hb hne
theorem below_only {B g:Nat} {a w w':World} (h:Below B a w) (hg:Only g w w') (hB:B≤g) (hs:B≤w.heap.size):Below B a w':=h.grown hg hs (fun k hk=>by injection hk;omega)

theorem grownBy_set (w:World) (p:Addr) (u:Value):w.grownBy (w.setCell p u) (some p.block) :=
 ⟨rfl,rfl,rfl,by simp[World.setCell],fun k _ hne=>Below.heap_setCell w p u k (by rintro rfl;exact hne rfl)⟩
theorem Only.setNew {g:Nat} {w w':World} (h:Only g w w') {p:Addr} (hp:w.heap.size≤p.block) (u:Value):Only g w (w'.setCell p u) :=
 h.grown (grownBy_set w' p u) (fun k hk=>by injection hk with hk;exact .inl (by omega))
theorem Src.set_ {w:World} {B g:Nat} {t:TypeId} {rest:List Int} (h:Src w B t g rest) {p:Addr} (hp:p.block≠g) (hB:B≤p.block) (u:Value):Src (w.setCell p u) B t g rest :=
 h.grown (grownBy_set w p u) (by intro e;injection e with e;exact hp e) (fun k hk=>by injection hk with hk;omega)

def nxt (m:Int):List Int→Int
 | []=>0
 | x::_=>(x % 18446744073709551616) % m
theorem nxt_lo (m:Int) (l:List Int) (h:0<m):0≤nxt m l:=by
 cases l with
 | nil=>simp[nxt]
 | cons x r=>exact Int.emod_nonneg _ (by omega)
theorem nxt_hi (m:Int) (l:List Int) (h:0<m):nxt m l<m:=by
 cases l with
 | nil=>simpa [nxt] using h
 | cons x r=>exact Int.emod_lt_of_pos _ h
end Go.Proofs.Ytncnhcmkhgfodaa
