/-
  Words, plain laws and contracts on which the walks lean, in one text.
-/
import Derived.Test.YtjnamjkdjcndiaaGreatDoorM3
import Derived.Test.YtjnamjkdjcndiaaGreatDoorM4
import Derived.Test.YtjnamjkdjcndiaaGreatDoorM5
import Derived.Deep.DeepCutAuto
import Derived.Deep.CutBlock
import Derived.Test.YtjnamjkdjcndiaaGreatDoorM2
namespace Go.Proofs.YtjnamjkdjcndiaaGreatDoor
open Go.RowKit
def firstE (f:Nat→Int):Nat→Int
 | 0=>0
 | k+1=>if firstE f k≠0 then firstE f k else f k
theorem firstE_hit {f:Nat→Int} {k:Nat} (h:firstE f k=0) (hk:f k≠0):∀ n,k<n→firstE f n=f k
 | 0,h'=>by omega
 | n+1,h'=>by
  simp only[firstE];by_cases e:n=k
  ·subst e;rw[if_neg (by rw[h];simp)]
  ·have:=firstE_hit h hk n (by omega)
   rw[this,if_pos hk]
theorem firstE_next {f:Nat→Int} {k:Nat} (h:firstE f k=0) (hk:f k=0):firstE f (k+1)=0:=by
 simp only[firstE];rw[if_neg (by rw[h];simp),hk]
def colErr (l:List Col) (i:Nat) (c:Col):Int :=
 if nameB c.nm.data.toList=false then 3 else if findC l c.nm<i then 5 else if c.ty<1∨5<c.ty then 11
 else if c.sc<0∨18<c.sc∨(c.ty≠5∧c.sc≠0) then 4 else 0
def colE (l:List Col) (i:Nat):Int:=match l[i]? with
 | some c=>colErr l i c
 | none=>0
def schkV (l:List Col) (key:Int):Int :=
 if l.length=0 then 1 else if 12<l.length then 7 else if firstE (colE l) l.length≠0 then firstE (colE l) l.length
 else if key<0∨(l.length:Int)≤key then 4 else 0
theorem colE_at {l:List Col} {i:Nat} {c:Col} (h:l[i]?=some c):colE l i=colErr l i c:=by unfold colE;rw[h]
theorem schk_err {l:List Col} {key x:Int} {k:Nat} {c:Col} (h1:0<l.length) (h2:l.length≤12) (h:firstE (colE l) k=0) (hc:l[k]?=some c) (hx:colErr l k c=x) (h0:x≠0):schkV l key=x:=by
 have hk:=(List.getElem?_eq_some_iff.1 hc).1;have e:firstE (colE l) l.length=x:=by rw[firstE_hit h (by rw[colE_at hc,hx];exact h0) _ hk,colE_at hc,hx]
 unfold schkV;rw[if_neg (by omega),if_neg (by omega),e,if_pos h0]
theorem schk_key {l:List Col} {key:Int} (h1:0<l.length) (h2:l.length≤12) (h:firstE (colE l) l.length=0):schkV l key=if key<0∨(l.length:Int)≤key then 4 else 0:=by
 unfold schkV;rw[if_neg (by omega),if_neg (by omega),if_neg (by rw[h];simp)]
theorem err_name {l:List Col} {k:Nat} {c:Col} (h:nameB c.nm.data.toList=false):colErr l k c=3:=by unfold colErr;rw[if_pos h]
theorem err_dup {l:List Col} {k:Nat} {c:Col} (h:nameB c.nm.data.toList=true) (h2:findC l c.nm<k):colErr l k c=5:=by unfold colErr;rw[if_neg (by rw[h];simp),if_pos h2]
theorem err_type {l:List Col} {k:Nat} {c:Col} (h:nameB c.nm.data.toList=true) (h2:(k:Int)≤findC l c.nm) (h3:c.ty<1∨5<c.ty):colErr l k c=11:=by unfold colErr;rw[if_neg (by rw[h];simp),if_neg (by omega),if_pos h3]
theorem err_scale {l:List Col} {k:Nat} {c:Col} (h:nameB c.nm.data.toList=true) (h2:(k:Int)≤findC l c.nm) (h3:¬(c.ty<1∨5<c.ty)) (h4:c.sc<0∨18<c.sc∨(c.ty≠5∧c.sc≠0)):colErr l k c=4:=by
 unfold colErr;rw[if_neg (by rw[h];simp),if_neg (by omega),if_neg h3,if_pos h4]
theorem err_none {l:List Col} {k:Nat} {c:Col} (h:nameB c.nm.data.toList=true) (h2:(k:Int)≤findC l c.nm) (h3:¬(c.ty<1∨5<c.ty)) (h4:¬(c.sc<0∨18<c.sc∨(c.ty≠5∧c.sc≠0))):colErr l k c=0:=by
 unfold colErr;rw[if_neg (by rw[h];simp),if_neg (by omega),if_neg h3,if_neg h4]
theorem ret0_at {P:Program} {f:FuncId} {args:Array Value} {w:World} {b b':Bool} (h:b=b') (hc:Calls P f args w (Ret0 w b)):Calls P f args w fun e w'=>e=.returned (.bool b')∧w=w':=by subst h;exact hc
set_option maxRecDepth 100000 in
set_option maxHeartbeats 4000000 in
theorem schk_any (v:Value) (l:List Col) (key:Int) (w:World) (hs:Sl w 4 v l.length (cols l)) (hl:l.length≤9223372036854775807) (hnm:∀ c ∈ l,c.nm.size≤9223372036854775807) :
  Calls Tryz.prog 22 #[.agg #[v,.int .i64 key]] w (RetN w (schkV l key)):=by
 obtain ⟨A,c,rfl,hc1,hc2⟩:=hs.form;have hb:=below_new w (.cells #[.slice A l.length c,.int .i64 key] 28);by_cases h0:l.length=0
 ·have HF:=Lib.hid (show schkV l key=1 by unfold schkV;rw[if_pos h0]);go_enter Tryz.func22,Tryz.ntmps22
  go_wp2;go_ret;exact RetN.mk_ HF.out (below_new _ _)
 by_cases h12:12<l.length
 ·have HF:=Lib.hid (show schkV l key=7 by unfold schkV;rw[if_neg h0,if_pos h12]);go_enter Tryz.func22,Tryz.ntmps22
  go_wp2;go_ret;exact RetN.mk_ HF.out hb
 have h1:0<l.length:=by omega
 have h2:l.length≤12:=by omega
 have z1:((l.length:Int)==0)=false:=by rw[beq_eq_false_iff_ne];omega
 clear h0 h12;have bs:=Blk.new w 28 #[.slice A l.length c,.int .i64 key];obtain ⟨W0,hW0⟩:∃ W,W=w.alloc (.cells #[.slice A l.length c,.int .i64 key] 28):=⟨_,rfl⟩
 rw[←hW0]at hb bs;have hs0:=hs.below hb;have i0:W0.cell? ⟨w.heap.size,0,none⟩=some (.slice A l.length c):=bs.cell 0;have i1:W0.cell? ⟨w.heap.size,1,none⟩=some (.int .i64 key):=bs.cell 1;have hwz:=bs.lt;have HB:=Lib.hid hb;clear hb bs;go_enter Tryz.func22,Tryz.ntmps22
 go_upto_region 1 with (fail)
 rw[←hW0];clear hW0;go_wp2_with fail
 go_loopw [18] (fun i wr=>∃ k:Nat,k≤l.length∧i=.int .i64 k∧Below W0.heap.size W0 wr∧Hid (firstE (colE l) k=0)) (fun i _=>l.length - (intOf i).toNat)
 case atStart=>exact ⟨0,by omega,rfl,Below.refl _ _,Lib.hid rfl⟩
 case round =>
  obtain ⟨k,hk,rfl,hbel,hz⟩:=hrel;have j0:=(hbel.cell (p:=⟨w.heap.size,0,none⟩) hwz).trans i0;have j1:=(hbel.cell (p:=⟨w.heap.size,1,none⟩) hwz).trans i1;by_cases hlt:k<l.length
  case neg =>
   obtain rfl:k=l.length:=by omega
   have HK:=Lib.hid (schk_key (key:=key) h1 h2 hz.out);have HBW:=Lib.hid (bst HB.out hbel);clear hbel hz;by_cases k1:key<0
   ·have HF:=Lib.hid (show schkV l key=4 by rw[HK.out,if_pos (.inl k1)]);go_wp2;go_ret;exact RetN.mk_ HF.out HBW.out
   ·by_cases k2:(l.length:Int)≤key
    ·have HF:=Lib.hid (show schkV l key=4 by rw[HK.out,if_pos (.inr k2)]);go_wp2;go_ret;exact RetN.mk_ HF.out HBW.out
    ·have HF:=Lib.hid (show schkV l key=0 by rw[HK.out,if_neg (by omega)]);go_wp2;go_ret;exact RetN.mk_ HF.out HBW.out
  case pos =>
  obtain ⟨ad,e,p,rfl,he,hp,hE⟩:=(hs0.below hbel).col_load rfl hlt;obtain ⟨hplt,c0,c1,c2,c3⟩:=hE;have hnm':=hnm e (List.mem_of_getElem? he);have HE:=Lib.hid he;have HER:=Lib.hid (fun (x:Int) (hx:colErr l k e=x) (hx0:x≠0)=>schk_err (key:=key) h1 h2 hz.out HE.out hx hx0);have HNX:=Lib.hid (fun (hx:colErr l k e=0)=>firstE_next hz.out (by rw[colE_at HE.out,hx]));clear he;have bx:=Blk.new wr 56 #[.string e.nm,.int .i64 e.ty,.int .i64 e.sc,.bool e.nu];have hbx:=below_new wr (.cells #[.string e.nm,.int .i64 e.ty,.int .i64 e.sc,.bool e.nu] 56);have HNM:=Lib.hid (name_any e.nm (wr.alloc (.cells #[.string e.nm,.int .i64 e.ty,.int .i64 e.sc,.bool e.nu] 56)) hnm');cases hnb:nameB e.nm.data.toList with
  | false =>
   have CN:=Lib.hid (ret0_at hnb HNM.out);have HF:=Lib.hid (HER.out 3 (err_name hnb) (by omega));have HBX:=Lib.hid (bst HB.out (hbel.trans (hbx.mono hbel.size)));clear hnb hbx bx;go_wp2_with fail
   refine CN.out.mono ?_;rintro _ _ ⟨rfl,rfl⟩;go_wp2;go_ret;exact RetN.mk_ HF.out HBX.out
  | true =>
   have CN:=Lib.hid (ret0_at hnb HNM.out);have HNB:=Lib.hid hnb;clear hnb HNM;go_wp2_with fail
   refine CN.out.mono ?_;rintro _ _ ⟨rfl,rfl⟩;clear CN;have j2:=cell_alloc j0 (.cells #[.string e.nm,.int .i64 e.ty,.int .i64 e.sc,.bool e.nu] 56);have j3:=cell_alloc j1 (.cells #[.string e.nm,.int .i64 e.ty,.int .i64 e.sc,.bool e.nu] 56);obtain ⟨WX,hWX⟩:∃ W,W=wr.alloc (.cells #[.string e.nm,.int .i64 e.ty,.int .i64 e.sc,.bool e.nu] 56):=⟨_,rfl⟩
   rw[←hWX]at bx hbx j2 j3 ⊢;clear hWX j0 j1 c0 c1 c2 c3;have d0:WX.cell? ⟨wr.heap.size,0,none⟩=some (.string e.nm):=bx.cell 0;have CF:=Lib.hid (retN_at (find_any _ l key e.nm WX ((hs0.below hbel).below hbx) hl));obtain ⟨F,hF⟩:∃ F,findC l e.nm=F:=⟨_,rfl⟩
   rw[hF]at CF;have HFF:=Lib.hid hF;clear hF;go_wp2_with fail
   refine CF.out.mono ?_;rintro _ w2 ⟨rfl,hb2⟩;have HBR:=Lib.hid ((hbel.trans (hbx.mono hbel.size)).trans (hb2.mono (hbel.trans (hbx.mono hbel.size)).size));have HBX:=Lib.hid (bst HB.out HBR.out);have bx2:=bx.below hb2 bx.lt;have d1:w2.cell? ⟨wr.heap.size,1,none⟩=some (.int .i64 e.ty):=bx2.cell 1;have d2:w2.cell? ⟨wr.heap.size,2,none⟩=some (.int .i64 e.sc):=bx2.cell 2;clear bx bx2 hbx hb2 d0 j2 j3 CF hbel hz;by_cases hdup:F<(k:Int)
   ·have HF:=Lib.hid (HER.out 5 (err_dup HNB.out (by rw[HFF.out];exact hdup)) (by omega));go_wp2;go_ret;exact RetN.mk_ HF.out HBX.out
   ·have hdup:(k:Int)≤findC l e.nm:=by rw[HFF.out];omega
    have HDN:=Lib.hid hdup;clear hdup;by_cases ht:e.ty<1∨5<e.ty
    ·have HF:=Lib.hid (HER.out 11 (err_type HNB.out HDN.out ht) (by omega));rcases ht with ht|ht
     all_goals
      go_wp2;go_ret;exact RetN.mk_ HF.out HBX.out
    have ht1:¬e.ty<1:=fun h=>ht (.inl h)
    have ht2:¬5<e.ty:=fun h=>ht (.inr h)
    have HTN:=Lib.hid ht;clear ht;by_cases s1:e.sc<0
    ·have HF:=Lib.hid (HER.out 4 (err_scale HNB.out HDN.out HTN.out (.inl s1)) (by omega));go_wp2;go_ret;exact RetN.mk_ HF.out HBX.out
    by_cases s2:18<e.sc
    ·have HF:=Lib.hid (HER.out 4 (err_scale HNB.out HDN.out HTN.out (.inr (.inl s2))) (by omega));go_wp2;go_ret;exact RetN.mk_ HF.out HBX.out
    by_cases s3:e.ty=5
    ·have HN:=Lib.hid (HNX.out (err_none HNB.out HDN.out HTN.out (by omega)));have q3:(e.ty != 5)=false:=by simp[s3]
     clear s3;go_wp2;go_roundw
     case rel=>exact ⟨k+1,by omega,by go_num,HBR.out,HN⟩
     case measure=>simp[intOf];omega
    ·have q3:(e.ty != 5)=true:=by simpa using s3
     by_cases s4:e.sc=0
     ·have HN:=Lib.hid (HNX.out (err_none HNB.out HDN.out HTN.out (by omega)));have q4:(e.sc != 0)=false:=by simp[s4]
      clear s3 s4;go_wp2;go_roundw
      case rel=>exact ⟨k+1,by omega,by go_num,HBR.out,HN⟩
      case measure=>simp[intOf];omega
     ·have HF:=Lib.hid (HER.out 4 (err_scale HNB.out HDN.out HTN.out (.inr (.inr ⟨s3,s4⟩))) (by omega));have q4:(e.sc != 0)=true:=by simpa using s4
      clear s3 s4;go_wp2;go_ret;exact RetN.mk_ HF.out HBX.out
theorem findC_le {l:List Col} {x:ByteArray} {j:Nat} {c:Col} (h:l[j]?=some c) (hc:c.nm=x):findC l x≤j:=by
 unfold findC
 cases hf:l.findIdx? (fun c=>decide (c.nm=x)) with
 | none=>simp only[];omega
 | some i =>
  simp only[];rw[List.findIdx?_eq_some_iff_getElem]at hf;obtain ⟨_,_,hmin⟩:=hf;by_cases hij:i≤j
  ·omega
  ·exfalso
   have:=hmin j (by omega)
   obtain ⟨hj,he⟩:=List.getElem?_eq_some_iff.1 h;rw[he]at this;simp[hc]at this
theorem findC_first {l:List Col} {x:ByteArray} {k:Nat} {c:Col} (h:l[k]?=some c) (hc:c.nm=x) (hn:∀ (j:Nat) (d:Col),l[j]?=some d→j<k→d.nm≠x):(k:Int)≤findC l x:=by
 rw[findC_hit h hc hn];exact Int.le_refl _
theorem take_sl {w:World} {A:Option Addr} {c n k:Nat} {l:List Col} (h:Sl w 4 (.slice A n c) n (cols l)) (hn:n=l.length) (hk:k≤n):Sl w 4 (.slice A k c) k (cols (l.take k)):=by
 subst hn;obtain ⟨A',c',e,h1,h2,h3,h4⟩:=h;injection e with e1 e2 e3
 subst e1 e3;have hl:(l.take k).length=k:=by rw[List.length_take];omega
 refine ⟨A,c,rfl,by omega,h2,by rw[cols_length,hl],fun hk0=>?_⟩
 obtain ⟨ad,rfl,hb,hc⟩:=h4 (by omega);refine ⟨ad,rfl,hb,fun j u hj=>hc j u ?_⟩
 have hj2:j<(cols (l.take k)).length:=(List.getElem?_eq_some_iff.1 hj).1;have:cols l=cols (l.take k)++cols (l.drop k):=by unfold cols;rw[←List.flatMap_append,List.take_append_drop]
 rw[this,List.getElem?_append_left hj2];exact hj
set_option maxRecDepth 100000 in
set_option maxHeartbeats 4000000 in
theorem rschk_any (v:Value) (l:List Col) (key:Int) (w:World) (hs:Sl w 4 v l.length (cols l)) (hl:l.length≤9223372036854775807) (hnm:∀ c ∈ l,c.nm.size≤9223372036854775807) :
  Calls Tryz.prog 52 #[.agg #[v,.int .i64 key]] w (RetN w (schkV l key)):=by
 obtain ⟨A,c,rfl,hc1,hc2⟩:=hs.form;have hb:=below_new w (.cells #[.slice A l.length c,.int .i64 key] 28);by_cases h0:l.length=0
 ·have HF:=Lib.hid (show schkV l key=1 by unfold schkV;rw[if_pos h0]);go_enter Tryz.func52,Tryz.ntmps52
  go_wp2;go_ret;exact RetN.mk_ HF.out (below_new _ _)
 by_cases h12:12<l.length
 ·have HF:=Lib.hid (show schkV l key=7 by unfold schkV;rw[if_neg h0,if_pos h12]);go_enter Tryz.func52,Tryz.ntmps52
  go_wp2;go_ret;exact RetN.mk_ HF.out hb
 have h1:0<l.length:=by omega
 have h2:l.length≤12:=by omega
 have z1:((l.length:Int)==0)=false:=by rw[beq_eq_false_iff_ne];omega
 clear h0 h12;have bs:=Blk.new w 28 #[.slice A l.length c,.int .i64 key];obtain ⟨W0,hW0⟩:∃ W,W=w.alloc (.cells #[.slice A l.length c,.int .i64 key] 28):=⟨_,rfl⟩
 rw[←hW0]at hb bs;have hs0:=hs.below hb;have i0:W0.cell? ⟨w.heap.size,0,none⟩=some (.slice A l.length c):=bs.cell 0;have i1:W0.cell? ⟨w.heap.size,1,none⟩=some (.int .i64 key):=bs.cell 1;have hwz:=bs.lt;have HB:=Lib.hid hb;clear hb bs;go_enter Tryz.func52,Tryz.ntmps52
 go_upto_region 1 with (fail)
 rw[←hW0];clear hW0;go_wp2_with fail
 go_loopw [18] (fun i wr=>∃ k:Nat,k≤l.length∧i=.int .i64 k∧Below W0.heap.size W0 wr∧Hid (firstE (colE l) k=0)) (fun i _=>l.length - (intOf i).toNat)
 case atStart=>exact ⟨0,by omega,rfl,Below.refl _ _,Lib.hid rfl⟩
 case round =>
  obtain ⟨k,hk,rfl,hbel,hz⟩:=hrel;have j0:=(hbel.cell (p:=⟨w.heap.size,0,none⟩) hwz).trans i0;have j1:=(hbel.cell (p:=⟨w.heap.size,1,none⟩) hwz).trans i1;by_cases hlt:k<l.length
  case neg =>
   obtain rfl:k=l.length:=by omega
   have HK:=Lib.hid (schk_key (key:=key) h1 h2 hz.out);have HBW:=Lib.hid (bst HB.out hbel);clear hbel hz;by_cases k1:key<0
   ·have HF:=Lib.hid (show schkV l key=4 by rw[HK.out,if_pos (.inl k1)]);go_wp2;go_ret;exact RetN.mk_ HF.out HBW.out
   ·by_cases k2:(l.length:Int)≤key
    ·have HF:=Lib.hid (show schkV l key=4 by rw[HK.out,if_pos (.inr k2)]);go_wp2;go_ret;exact RetN.mk_ HF.out HBW.out
    ·have HF:=Lib.hid (show schkV l key=0 by rw[HK.out,if_neg (by omega)]);go_wp2;go_ret;exact RetN.mk_ HF.out HBW.out
  case pos =>
  obtain ⟨ad,e,p,rfl,he,hp,hE⟩:=(hs0.below hbel).col_load rfl hlt;obtain ⟨hplt,c0,c1,c2,c3⟩:=hE;have hnm':=hnm e (List.mem_of_getElem? he);have HE:=Lib.hid he;have HER:=Lib.hid (fun (x:Int) (hx:colErr l k e=x) (hx0:x≠0)=>schk_err (key:=key) h1 h2 hz.out HE.out hx hx0);have HNX:=Lib.hid (fun (hx:colErr l k e=0)=>firstE_next hz.out (by rw[colE_at HE.out,hx]));clear he;have bx:=Blk.new wr 56 #[.string e.nm,.int .i64 e.ty,.int .i64 e.sc,.bool e.nu];have hbx:=below_new wr (.cells #[.string e.nm,.int .i64 e.ty,.int .i64 e.sc,.bool e.nu] 56);have HNM:=Lib.hid (rname_any e.nm (wr.alloc (.cells #[.string e.nm,.int .i64 e.ty,.int .i64 e.sc,.bool e.nu] 56)) hnm');cases hnb:nameB e.nm.data.toList with
  | false =>
   have CN:=Lib.hid (ret0_at hnb HNM.out);have HF:=Lib.hid (HER.out 3 (err_name hnb) (by omega));have HBX:=Lib.hid (bst HB.out (hbel.trans (hbx.mono hbel.size)));clear hnb hbx bx;go_wp2_with fail
   refine CN.out.mono ?_;rintro _ _ ⟨rfl,rfl⟩;go_wp2;go_ret;exact RetN.mk_ HF.out HBX.out
  | true =>
   have CN:=Lib.hid (ret0_at hnb HNM.out);have HNB:=Lib.hid hnb;clear hnb HNM;go_wp2_with fail
   refine CN.out.mono ?_;rintro _ _ ⟨rfl,rfl⟩;clear CN;have j2:=cell_alloc j0 (.cells #[.string e.nm,.int .i64 e.ty,.int .i64 e.sc,.bool e.nu] 56);obtain ⟨WX,hWX⟩:∃ W,W=wr.alloc (.cells #[.string e.nm,.int .i64 e.ty,.int .i64 e.sc,.bool e.nu] 56):=⟨_,rfl⟩
   rw[←hWX]at bx hbx j2 ⊢;clear hWX j0 j1 c0 c1 c2 c3;have hsX:=(hs0.below hbel).below hbx;have hsk:=take_sl hsX rfl (Nat.le_of_lt hlt);have BX:=Lib.hid bx;have HWX:=Lib.hid (hbel.trans (hbx.mono hbel.size));clear bx hbx hbel hz;obtain ⟨wo,rfl⟩:∃ wo:World,wo=wr:=⟨_,rfl⟩
   go_wp2_with fail
   go_loopw [32] (fun i wr2=>∃ j:Nat,j≤k∧i=.int .i64 j∧Below WX.heap.size WX wr2∧Hid (∀ (m:Nat) (d:Col),l[m]?=some d→m<j→d.nm≠e.nm)) (fun i _=>k - (intOf i).toNat)
   case atStart=>exact ⟨0,by omega,rfl,Below.refl _ _,Lib.hid fun m d _ hm=>absurd hm (Nat.not_lt_zero _)⟩
   case round =>
    obtain ⟨j,hj,rfl,hb2,hno⟩:=hrel;have bx2:=BX.out.below hb2 BX.out.lt;have d0:wr.cell? ⟨wo.heap.size,0,none⟩=some (.string e.nm):=bx2.cell 0;by_cases hjk:j<k
    case pos =>
     have htl:(l.take k).length=k:=by rw[List.length_take];omega
     obtain ⟨bd,d,p',hA',hd,hp',hD⟩:=(hsk.below hb2).col_load htl.symm hjk;cases hA'
     obtain ⟨hplt',g0,g1,g2,g3⟩:=hD;have HD:=Lib.hid (show l[j]?=some d by rw[List.getElem?_take,if_pos hjk]at hd;exact hd);have d0':=cell_alloc d0 (.cells #[.string d.nm,.int .i64 d.ty,.int .i64 d.sc,.bool d.nu] 56);clear hd htl;by_cases hn:d.nm=e.nm
     ·have t1:=colq_eq hn;have HF:=Lib.hid (HER.out 5 (err_dup HNB.out (by have:=findC_le HD.out hn;omega)) (by omega));have HBX:=Lib.hid (fun o=>bst HB.out (HWX.out.trans ((hb2.alloc hb2.size o).mono HWX.out.size)));clear hn;go_wp2;go_ret;exact RetN.mk_ HF.out (HBX.out _)
     ·have t1:=colq_ne hn;have HN:=Lib.hid (show ∀ (m:Nat) (d:Col),l[m]?=some d→m<j+1→d.nm≠e.nm from fun m d' hd' hm=>by
       by_cases ej:m=j
       ·subst ej;rw[HD.out]at hd';injection hd' with hd';rw[←hd'];exact hn
       ·exact hno.out m d' hd' (by omega))
      clear hn;go_wp2;go_roundw
      case rel=>exact ⟨j+1,by omega,by go_num,hb2.alloc hb2.size _,HN⟩
      case measure=>simp[intOf];omega
    case neg =>
    obtain rfl:j=k:=by omega
    have hdup:=findC_first HE.out rfl hno.out;have HBR:=Lib.hid (HWX.out.trans (hb2.mono HWX.out.size));have HBX:=Lib.hid (bst HB.out HBR.out);have d1:wr.cell? ⟨wo.heap.size,1,none⟩=some (.int .i64 e.ty):=bx2.cell 1;have d2:wr.cell? ⟨wo.heap.size,2,none⟩=some (.int .i64 e.sc):=bx2.cell 2;clear bx2 hb2 d0 j2 hno;have HDN:=Lib.hid hdup;clear hdup;by_cases ht:e.ty<1∨5<e.ty
    ·have HF:=Lib.hid (HER.out 11 (err_type HNB.out HDN.out ht) (by omega));have CT:=Lib.hid (fun X=>typed_any e.ty false (by symm;rw[decide_eq_false_iff_not];omega) X);clear ht;go_wp2_with fail
     refine (CT.out _).mono ?_;rintro _ _ ⟨rfl,rfl⟩;go_wp2;go_ret;exact RetN.mk_ HF.out HBX.out
    have CT:=Lib.hid (fun X=>typed_any e.ty true (by symm;rw[decide_eq_true_iff];omega) X);have HTN:=Lib.hid ht;clear ht;go_wp2_with fail
    refine (CT.out _).mono ?_;rintro _ _ ⟨rfl,rfl⟩;by_cases s1:e.sc<0
    ·have HF:=Lib.hid (HER.out 4 (err_scale HNB.out HDN.out HTN.out (.inl s1)) (by omega));go_wp2;go_ret;exact RetN.mk_ HF.out HBX.out
    by_cases s2:18<e.sc
    ·have HF:=Lib.hid (HER.out 4 (err_scale HNB.out HDN.out HTN.out (.inr (.inl s2))) (by omega));go_wp2;go_ret;exact RetN.mk_ HF.out HBX.out
    by_cases s3:e.ty=5
    ·have HN:=Lib.hid (HNX.out (err_none HNB.out HDN.out HTN.out (by omega)));have q3:(e.ty != 5)=false:=by simp[s3]
     clear s3;go_wp2;go_roundw
     case rel=>exact ⟨j+1,by omega,by go_num,HBR.out,HN⟩
     case measure=>simp[intOf];omega
    ·have q3:(e.ty != 5)=true:=by simpa using s3
     by_cases s4:e.sc=0
     ·have HN:=Lib.hid (HNX.out (err_none HNB.out HDN.out HTN.out (by omega)));have q4:(e.sc != 0)=false:=by simp[s4]
      clear s3 s4;go_wp2;go_roundw
      case rel=>exact ⟨j+1,by omega,by go_num,HBR.out,HN⟩
      case measure=>simp[intOf];omega
     ·have HF:=Lib.hid (HER.out 4 (err_scale HNB.out HDN.out HTN.out (.inr (.inr ⟨s3,s4⟩))) (by omega));have q4:(e.sc != 0)=true:=by simpa using s4
      clear s3 s4;go_wp2;go_ret;exact RetN.mk_ HF.out HBX.out
end Go.Proofs.YtjnamjkdjcndiaaGreatDoor
