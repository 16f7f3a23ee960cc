/-
 predtext's parser: rest.
-/
import Derived.Test.YtjnamjkdjcndiaaGreatDoorM21
import Derived.Test.YtjnamjkdjcndiaaGreatDoorPredPos
namespace Go.Proofs.YtjnamjkdjcndiaaGreatDoor
open Go.RowKit Go.Sort

def RetRestP (w:World) (g N:Nat) (sv:Value) (key wh e0:Int) (S:ByteArray) (base:Nat) (nv:Value) (r:Except (Nat×Int) (Nat×Nd×List Nd)) (e:Ending) (w':World):Prop :=
 Kp (fun i=>i=g∨i=N∨nv.ownBlock=some i) w w'∧match r with
 | .ok (j,x,l)=>e=.returned (.bool true)∧j≤S.size∧l.length≤64∧∃ nv' u,Blk w' g 54 #[sv,.int .i64 key,.string S,.int .i64 j,nv',.int .i64 wh,.int .i64 e0]∧OwnNd w' base nv' l∧(∀ b,nv'.ownBlock=some b→nv.ownBlock=some b∨w.heap.size≤b)∧Blk w' N 66 #[.int .i64 x.op,.int .i64 x.col,.bool x.v.nu,.int .i64 x.v.n,.string x.v.s,u,.int .i64 x.a,.int .i64 x.b]∧w'.ownsRow base 64 3 u x.l.length (vls x.l)
 | .error (k,er)=>e=.returned (.bool false)∧∃ (i n c:Nat) (A:Option Addr),n≤64∧Blk w' g 54 #[sv,.int .i64 key,.string S,.int .i64 i,.slice A n c,.int .i64 k,.int .i64 er]
section
variable {cs:List Col} {T:List UInt8} {rec:Nat→List Nd→Except (Nat×Int) (Nat×List Nd)} {op i j j2 K:Nat} {acc a2 a3:List Nd} {e:Nat×Int} {c:Col} {v:Vl} {l:List Vl}
theorem arg_e1 (h:op=9∨op=10) (h1:rec i acc=.error e):argP cs T rec op i acc=.error e:=by unfold argP;rw[if_pos h,h1]
theorem arg_e2 (h:op=9∨op=10) (h1:rec i acc=.ok (j,a2)) (h2:rec j a2=.error e):argP cs T rec op i acc=.error e:=by unfold argP;rw[if_pos h,h1];dsimp only;rw[h2]
theorem arg_o2 (h:op=9∨op=10) (h1:rec i acc=.ok (j,a2)) (h2:rec j a2=.ok (j2,a3)):argP cs T rec op i acc=.ok (j2,⟨op,0,v0,[],(a2.length:Int) - 1,(a3.length:Int) - 1⟩,a3):=by unfold argP;rw[if_pos h,h1];dsimp only;rw[h2]
theorem arg_n1 (h1:rec i acc=.error e):argP cs T rec 11 i acc=.error e:=by unfold argP;rw[if_neg (by decide),if_pos rfl,h1]
theorem arg_n2 (h1:rec i acc=.ok (j,a2)):argP cs T rec 11 i acc=.ok (j,⟨11,0,v0,[],(a2.length:Int) - 1,0⟩,a2):=by unfold argP;rw[if_neg (by decide),if_pos rfl,h1]
theorem arg_l1 (h:op≤8) (h1:colP cs T i=.error e):argP cs T rec op i acc=.error e:=by unfold argP leafR;rw[if_neg (by omega),if_neg (by omega),h1]
theorem arg_l8 (h1:colP cs T i=.ok (j,K)):argP cs T rec 8 i acc=.ok (j,⟨8,K,v0,[],0,0⟩,acc):=by unfold argP leafR;rw[if_neg (by decide),if_neg (by decide),h1];rfl
theorem leaf_l (h1:colP cs T i=.ok (j,K)) (hc:cs[K]?=some c):leafR cs T 7 i=(match lstP c T 17 j [] with
     | .error e=>.error e
     | .ok (i3,l)=>.ok (i3,⟨7,K,v0,l,0,0⟩)):=by
 unfold leafR;rw[h1]
 dsimp only;rw[hc];rfl
theorem leaf_v (h:op≤6) (h1:colP cs T i=.ok (j,K)) (hc:cs[K]?=some c):leafR cs T op i=(match valC c T j with
     | .error e=>.error e
     | .ok (i3,v)=>.ok (i3,⟨op,K,v,[],0,0⟩)):=by
 unfold leafR;rw[h1]
 show (if op=8 then _ else match cs[K]? with | none=>_ | some c=>_)=_
 rw[if_neg (by omega),hc];show (if op=7 then _ else _)=_
 rw[if_neg (by omega)];rfl
theorem arg_l7e (h1:colP cs T i=.ok (j,K)) (hc:cs[K]?=some c) (h2:lstP c T 17 j []=.error e):argP cs T rec 7 i acc=.error e:=by unfold argP;rw[if_neg (by decide),if_neg (by decide),leaf_l h1 hc,h2]
theorem arg_l7o (h1:colP cs T i=.ok (j,K)) (hc:cs[K]?=some c) (h2:lstP c T 17 j []=.ok (j2,l)):argP cs T rec 7 i acc=.ok (j2,⟨7,K,v0,l,0,0⟩,acc):=by unfold argP;rw[if_neg (by decide),if_neg (by decide),leaf_l h1 hc,h2]
theorem arg_lve (h:op≤6) (h1:colP cs T i=.ok (j,K)) (hc:cs[K]?=some c) (h2:valC c T j=.error e):argP cs T rec op i acc=.error e:=by unfold argP;rw[if_neg (by omega),if_neg (by omega),leaf_v h h1 hc,h2]
theorem arg_lvo (h:op≤6) (h1:colP cs T i=.ok (j,K)) (hc:cs[K]?=some c) (h2:valC c T j=.ok (j2,v)):argP cs T rec op i acc=.ok (j2,⟨op,K,v,[],0,0⟩,acc):=by unfold argP;rw[if_neg (by omega),if_neg (by omega),leaf_v h h1 hc,h2]
end
structure PCtx (w0:World) (g:Nat) (sv:Value) (S:ByteArray) (cs:List Col) (base:Nat):Prop where
 hS:S.size≤65536
 hcs:Sl w0 4 sv cs.length (cols cs)
 hE:Env w0
 hcl:cs.length≤1000
 hg:w0.heap.size≤g
 hb:w0.heap.size≤base
theorem OwnNd.ge {w:World} {base b:Nat} {v:Value} {l:List Nd} (h:OwnNd w base v l) (hb:v.ownBlock=some b):base≤b∧b<w.heap.size:=by
 obtain ⟨us,h1,h2,h3⟩:=h;exact h2.lt b hb
set_option maxRecDepth 100000 in
set_option maxHeartbeats 8000000 in
theorem prest9_any (w0:World) (g N i f base:Nat) (sv nv:Value) (l:List Nd) (key wh e0:Int) (S:ByteArray) (cs:List Col) (w:World) (hx:PCtx w0 g sv S cs base) (hrec:HNode w0 g sv key wh e0 S cs base f)
  (hB:Blk w g 54 #[sv,.int .i64 key,.string S,.int .i64 i,nv,.int .i64 wh,.int .i64 e0]) (hi:i≤S.size) (hf:S.size<i+f) (ho:OwnNd w base nv l) (hl:l.length≤64) (hb0:Below w0.heap.size w0 w) (hbase:base≤w.heap.size) (hN:Blk w N 66 #[.int .i64 9,.int .i64 0,.bool false,.int .i64 0,.string { data:=#[] },.slice none 0 0,.int .i64 0,.int .i64 0]) (hnv:nv.ownBlock≠some N) (hn0:w0.heap.size≤N) :
  Calls Tryz.prog 48 #[.pointer (some ⟨g,0,none⟩),.pointer (some ⟨N,0,none⟩)] w (RetRestP w g N sv key wh e0 S base nv (argP cs S.data.toList (parN cs S.data.toList f) 9 i l)):=by
 have hgN:g≠N:=by intro e;subst e;have:=hB.symm.trans hN;injection this with this;injection this with _ h;revert h;decide
 have HX:=Lib.hid hx;have HB0:=Lib.hid hb0;have HBS:=Lib.hid hbase;have HO:=Lib.hid ho;have HNN:=Lib.hid hN;have HB:=Lib.hid hB;have HNV:=Lib.hid hnv;have HI:=Lib.hid hi;have HF:=Lib.hid hf;have HREC:=Lib.hid hrec;have n0:=hN.cell 0;simp only[jA,jZ]at n0;clear hx hb0 hbase ho hN hB hnv hi hf hrec;have hpos:=par_pos cs S.data.toList f i l;cases hr:parN cs S.data.toList f i l with
 | error r =>
  obtain ⟨k,er⟩:=r;have HR1:=Lib.hid hr;have HR:=Lib.hid (arg_e1 (cs:=cs) (T:=S.data.toList) (op:=9) (by decide) hr);clear hr hpos;go_enter Tryz.func48,Tryz.ntmps48
  go_wp2_with fail
  refine (pchild_any w0 g N i f 6 base sv nv l key wh e0 0 S cs _ w HREC.out HB.out HI.out HF.out HO.out hl HB0.out HBS.out HNN.out rfl hgN HNV.out).mono ?_;rintro e w1 hret;rw[HR1.out]at hret;obtain ⟨hk,rfl,j0,n0,c0,A0,hn,hB⟩:=hret;have HK1:=Lib.hid (hk);have HB1:=Lib.hid hB;clear hk hB;go_wp2;go_ret;rw[HR.out];exact ⟨HK1.out,rfl,j0,n0,c0,A0,hn,HB1.out⟩
 | ok r =>
  obtain ⟨j,l1⟩:=r;rw[hr]at hpos;have hij:i+1≤j:=hpos;have HR1:=Lib.hid hr;cases hr2:parN cs S.data.toList f j l1 with
  | error r =>
   obtain ⟨k,er⟩:=r;have HR:=Lib.hid (arg_e2 (cs:=cs) (T:=S.data.toList) (op:=9) (by decide) hr hr2);have HR2:=Lib.hid hr2;clear hr hr2 hpos;go_enter Tryz.func48,Tryz.ntmps48
   go_wp2_with fail
   refine (pchild_any w0 g N i f 6 base sv nv l key wh e0 0 S cs _ w HREC.out HB.out HI.out HF.out HO.out hl HB0.out HBS.out HNN.out rfl hgN HNV.out).mono ?_;rintro e w1 hret;rw[HR1.out]at hret;obtain ⟨hk,rfl,hj,hl1,hl2,nv1,hB,hO,hob,hN⟩:=hret;simp only[jI,jY,jT]at hN;have HK1:=Lib.hid hk;have HB1:=Lib.hid hB;have HO1:=Lib.hid hO;have HOB1:=Lib.hid hob;have HN1:=Lib.hid hN;have HJ1:=Lib.hid hj;clear hk hB hO hob hN hj;have hb1:=Lib.hid (show Below w0.heap.size w0 w1 from below_kp HB0.out HK1.out (fun q h=>by
    rcases h with h|h|h
    ·have:=HX.out.hg;omega
    ·omega
    ·have:=(HO.out.ge h).1;have:=HX.out.hb;omega) HB0.out.size)
   have hnv1:=Lib.hid (show nv1.ownBlock≠some N by
    intro h
    rcases HOB1.out N h with h|h
    ·exact HNV.out h
    ·have:=HNN.out.lt;omega)
   clear n0;go_wp2_with fail
   refine (pchild_any w0 g N j f 7 base sv nv1 l1 key wh e0 0 S cs _ w1 HREC.out HB1.out HJ1.out (by have:=HF.out;omega) HO1.out hl2 hb1.out (Nat.le_trans HBS.out HK1.out.size) HN1.out rfl hgN hnv1.out).mono ?_;rintro e w2 hret;rw[HR2.out]at hret;obtain ⟨hk,rfl,j0,n0,c0,A0,hn,hB⟩:=hret;have HK2:=Lib.hid (HK1.out.then' hk (fun q hq h=>by rcases h with h | h | h;exact .inl h;exact .inr (.inl h);rcases HOB1.out q h with h | h;exact .inr (.inr h);exact absurd h (by omega)));have HB2:=Lib.hid hB;clear hk hB;go_wp2;go_ret;rw[HR.out];exact ⟨HK2.out,rfl,j0,n0,c0,A0,hn,HB2.out⟩
  | ok r =>
   obtain ⟨j2,l2⟩:=r;have HR:=Lib.hid (arg_o2 (cs:=cs) (T:=S.data.toList) (op:=9) (by decide) hr hr2);have HR2:=Lib.hid hr2;clear hr hr2 hpos;go_enter Tryz.func48,Tryz.ntmps48
   go_wp2_with fail
   refine (pchild_any w0 g N i f 6 base sv nv l key wh e0 0 S cs _ w HREC.out HB.out HI.out HF.out HO.out hl HB0.out HBS.out HNN.out rfl hgN HNV.out).mono ?_;rintro e w1 hret;rw[HR1.out]at hret;obtain ⟨hk,rfl,hj,hl1,hl2,nv1,hB,hO,hob,hN⟩:=hret;simp only[jI,jY,jT]at hN;have HK1:=Lib.hid hk;have HB1:=Lib.hid hB;have HO1:=Lib.hid hO;have HOB1:=Lib.hid hob;have HN1:=Lib.hid hN;have HJ1:=Lib.hid hj;clear hk hB hO hob hN hj;have hb1:=Lib.hid (show Below w0.heap.size w0 w1 from below_kp HB0.out HK1.out (fun q h=>by
    rcases h with h|h|h
    ·have:=HX.out.hg;omega
    ·omega
    ·have:=(HO.out.ge h).1;have:=HX.out.hb;omega) HB0.out.size)
   have hnv1:=Lib.hid (show nv1.ownBlock≠some N by
    intro h
    rcases HOB1.out N h with h|h
    ·exact HNV.out h
    ·have:=HNN.out.lt;omega)
   clear n0;go_wp2_with fail
   refine (pchild_any w0 g N j f 7 base sv nv1 l1 key wh e0 0 S cs _ w1 HREC.out HB1.out HJ1.out (by have:=HF.out;omega) HO1.out hl2 hb1.out (Nat.le_trans HBS.out HK1.out.size) HN1.out rfl hgN hnv1.out).mono ?_;rintro e w2 hret;rw[HR2.out]at hret;obtain ⟨hk,rfl,hj2,hl3,hl4,nv2,hB,hO,hob,hN⟩:=hret;simp only[jI,jY,jT]at hN;have HK2:=Lib.hid (HK1.out.then' hk (fun q hq h=>by rcases h with h | h | h;exact .inl h;exact .inr (.inl h);rcases HOB1.out q h with h | h;exact .inr (.inr h);exact absurd h (by omega)));have HB2:=Lib.hid hB;have HO2:=Lib.hid hO;have HOB2:=Lib.hid (show ∀ b,nv2.ownBlock=some b→nv.ownBlock=some b∨w.heap.size≤b from fun b h=>by
    rcases hob b h with h|h
    ·exact HOB1.out b h
    ·exact .inr (Nat.le_trans HK1.out.size h))
   have HN2:=Lib.hid hN;clear hk hB hO hob hN;go_wp2;go_ret;rw[HR.out];exact ⟨HK2.out,rfl,hj2,hl4,nv2,_,HB2.out,HO2.out,HOB2.out,HN2.out,World.ownsRow_nil _ _ _ _⟩
set_option maxRecDepth 100000 in
set_option maxHeartbeats 8000000 in
theorem prest10_any (w0:World) (g N i f base:Nat) (sv nv:Value) (l:List Nd) (key wh e0:Int) (S:ByteArray) (cs:List Col) (w:World) (hx:PCtx w0 g sv S cs base) (hrec:HNode w0 g sv key wh e0 S cs base f)
  (hB:Blk w g 54 #[sv,.int .i64 key,.string S,.int .i64 i,nv,.int .i64 wh,.int .i64 e0]) (hi:i≤S.size) (hf:S.size<i+f) (ho:OwnNd w base nv l) (hl:l.length≤64) (hb0:Below w0.heap.size w0 w) (hbase:base≤w.heap.size) (hN:Blk w N 66 #[.int .i64 10,.int .i64 0,.bool false,.int .i64 0,.string { data:=#[] },.slice none 0 0,.int .i64 0,.int .i64 0]) (hnv:nv.ownBlock≠some N) (hn0:w0.heap.size≤N) :
  Calls Tryz.prog 48 #[.pointer (some ⟨g,0,none⟩),.pointer (some ⟨N,0,none⟩)] w (RetRestP w g N sv key wh e0 S base nv (argP cs S.data.toList (parN cs S.data.toList f) 10 i l)):=by
 have hgN:g≠N:=by intro e;subst e;have:=hB.symm.trans hN;injection this with this;injection this with _ h;revert h;decide
 have HX:=Lib.hid hx;have HB0:=Lib.hid hb0;have HBS:=Lib.hid hbase;have HO:=Lib.hid ho;have HNN:=Lib.hid hN;have HB:=Lib.hid hB;have HNV:=Lib.hid hnv;have HI:=Lib.hid hi;have HF:=Lib.hid hf;have HREC:=Lib.hid hrec;have n0:=hN.cell 0;simp only[jA,jZ]at n0;clear hx hb0 hbase ho hN hB hnv hi hf hrec;have hpos:=par_pos cs S.data.toList f i l;cases hr:parN cs S.data.toList f i l with
 | error r =>
  obtain ⟨k,er⟩:=r;have HR1:=Lib.hid hr;have HR:=Lib.hid (arg_e1 (cs:=cs) (T:=S.data.toList) (op:=10) (by decide) hr);clear hr hpos;go_enter Tryz.func48,Tryz.ntmps48
  go_wp2_with fail
  refine (pchild_any w0 g N i f 6 base sv nv l key wh e0 0 S cs _ w HREC.out HB.out HI.out HF.out HO.out hl HB0.out HBS.out HNN.out rfl hgN HNV.out).mono ?_;rintro e w1 hret;rw[HR1.out]at hret;obtain ⟨hk,rfl,j0,n0,c0,A0,hn,hB⟩:=hret;have HK1:=Lib.hid (hk);have HB1:=Lib.hid hB;clear hk hB;go_wp2;go_ret;rw[HR.out];exact ⟨HK1.out,rfl,j0,n0,c0,A0,hn,HB1.out⟩
 | ok r =>
  obtain ⟨j,l1⟩:=r;rw[hr]at hpos;have hij:i+1≤j:=hpos;have HR1:=Lib.hid hr;cases hr2:parN cs S.data.toList f j l1 with
  | error r =>
   obtain ⟨k,er⟩:=r;have HR:=Lib.hid (arg_e2 (cs:=cs) (T:=S.data.toList) (op:=10) (by decide) hr hr2);have HR2:=Lib.hid hr2;clear hr hr2 hpos;go_enter Tryz.func48,Tryz.ntmps48
   go_wp2_with fail
   refine (pchild_any w0 g N i f 6 base sv nv l key wh e0 0 S cs _ w HREC.out HB.out HI.out HF.out HO.out hl HB0.out HBS.out HNN.out rfl hgN HNV.out).mono ?_;rintro e w1 hret;rw[HR1.out]at hret;obtain ⟨hk,rfl,hj,hl1,hl2,nv1,hB,hO,hob,hN⟩:=hret;simp only[jI,jY,jT]at hN;have HK1:=Lib.hid hk;have HB1:=Lib.hid hB;have HO1:=Lib.hid hO;have HOB1:=Lib.hid hob;have HN1:=Lib.hid hN;have HJ1:=Lib.hid hj;clear hk hB hO hob hN hj;have hb1:=Lib.hid (show Below w0.heap.size w0 w1 from below_kp HB0.out HK1.out (fun q h=>by
    rcases h with h|h|h
    ·have:=HX.out.hg;omega
    ·omega
    ·have:=(HO.out.ge h).1;have:=HX.out.hb;omega) HB0.out.size)
   have hnv1:=Lib.hid (show nv1.ownBlock≠some N by
    intro h
    rcases HOB1.out N h with h|h
    ·exact HNV.out h
    ·have:=HNN.out.lt;omega)
   clear n0;go_wp2_with fail
   refine (pchild_any w0 g N j f 7 base sv nv1 l1 key wh e0 0 S cs _ w1 HREC.out HB1.out HJ1.out (by have:=HF.out;omega) HO1.out hl2 hb1.out (Nat.le_trans HBS.out HK1.out.size) HN1.out rfl hgN hnv1.out).mono ?_;rintro e w2 hret;rw[HR2.out]at hret;obtain ⟨hk,rfl,j0,n0,c0,A0,hn,hB⟩:=hret;have HK2:=Lib.hid (HK1.out.then' hk (fun q hq h=>by rcases h with h | h | h;exact .inl h;exact .inr (.inl h);rcases HOB1.out q h with h | h;exact .inr (.inr h);exact absurd h (by omega)));have HB2:=Lib.hid hB;clear hk hB;go_wp2;go_ret;rw[HR.out];exact ⟨HK2.out,rfl,j0,n0,c0,A0,hn,HB2.out⟩
  | ok r =>
   obtain ⟨j2,l2⟩:=r;have HR:=Lib.hid (arg_o2 (cs:=cs) (T:=S.data.toList) (op:=10) (by decide) hr hr2);have HR2:=Lib.hid hr2;clear hr hr2 hpos;go_enter Tryz.func48,Tryz.ntmps48
   go_wp2_with fail
   refine (pchild_any w0 g N i f 6 base sv nv l key wh e0 0 S cs _ w HREC.out HB.out HI.out HF.out HO.out hl HB0.out HBS.out HNN.out rfl hgN HNV.out).mono ?_;rintro e w1 hret;rw[HR1.out]at hret;obtain ⟨hk,rfl,hj,hl1,hl2,nv1,hB,hO,hob,hN⟩:=hret;simp only[jI,jY,jT]at hN;have HK1:=Lib.hid hk;have HB1:=Lib.hid hB;have HO1:=Lib.hid hO;have HOB1:=Lib.hid hob;have HN1:=Lib.hid hN;have HJ1:=Lib.hid hj;clear hk hB hO hob hN hj;have hb1:=Lib.hid (show Below w0.heap.size w0 w1 from below_kp HB0.out HK1.out (fun q h=>by
    rcases h with h|h|h
    ·have:=HX.out.hg;omega
    ·omega
    ·have:=(HO.out.ge h).1;have:=HX.out.hb;omega) HB0.out.size)
   have hnv1:=Lib.hid (show nv1.ownBlock≠some N by
    intro h
    rcases HOB1.out N h with h|h
    ·exact HNV.out h
    ·have:=HNN.out.lt;omega)
   clear n0;go_wp2_with fail
   refine (pchild_any w0 g N j f 7 base sv nv1 l1 key wh e0 0 S cs _ w1 HREC.out HB1.out HJ1.out (by have:=HF.out;omega) HO1.out hl2 hb1.out (Nat.le_trans HBS.out HK1.out.size) HN1.out rfl hgN hnv1.out).mono ?_;rintro e w2 hret;rw[HR2.out]at hret;obtain ⟨hk,rfl,hj2,hl3,hl4,nv2,hB,hO,hob,hN⟩:=hret;simp only[jI,jY,jT]at hN;have HK2:=Lib.hid (HK1.out.then' hk (fun q hq h=>by rcases h with h | h | h;exact .inl h;exact .inr (.inl h);rcases HOB1.out q h with h | h;exact .inr (.inr h);exact absurd h (by omega)));have HB2:=Lib.hid hB;have HO2:=Lib.hid hO;have HOB2:=Lib.hid (show ∀ b,nv2.ownBlock=some b→nv.ownBlock=some b∨w.heap.size≤b from fun b h=>by
    rcases hob b h with h|h
    ·exact HOB1.out b h
    ·exact .inr (Nat.le_trans HK1.out.size h))
   have HN2:=Lib.hid hN;clear hk hB hO hob hN;go_wp2;go_ret;rw[HR.out];exact ⟨HK2.out,rfl,hj2,hl4,nv2,_,HB2.out,HO2.out,HOB2.out,HN2.out,World.ownsRow_nil _ _ _ _⟩
set_option maxRecDepth 100000 in
set_option maxHeartbeats 8000000 in
theorem prest11_any (w0:World) (g N i f base:Nat) (sv nv:Value) (l:List Nd) (key wh e0:Int) (S:ByteArray) (cs:List Col) (w:World) (hx:PCtx w0 g sv S cs base) (hrec:HNode w0 g sv key wh e0 S cs base f)
  (hB:Blk w g 54 #[sv,.int .i64 key,.string S,.int .i64 i,nv,.int .i64 wh,.int .i64 e0]) (hi:i≤S.size) (hf:S.size<i+f) (ho:OwnNd w base nv l) (hl:l.length≤64) (hb0:Below w0.heap.size w0 w) (hbase:base≤w.heap.size) (hN:Blk w N 66 #[.int .i64 11,.int .i64 0,.bool false,.int .i64 0,.string { data:=#[] },.slice none 0 0,.int .i64 0,.int .i64 0]) (hnv:nv.ownBlock≠some N) (hn0:w0.heap.size≤N) :
  Calls Tryz.prog 48 #[.pointer (some ⟨g,0,none⟩),.pointer (some ⟨N,0,none⟩)] w (RetRestP w g N sv key wh e0 S base nv (argP cs S.data.toList (parN cs S.data.toList f) 11 i l)):=by
 have hgN:g≠N:=by intro e;subst e;have:=hB.symm.trans hN;injection this with this;injection this with _ h;revert h;decide
 have HX:=Lib.hid hx;have HB0:=Lib.hid hb0;have HBS:=Lib.hid hbase;have HO:=Lib.hid ho;have HNN:=Lib.hid hN;have HB:=Lib.hid hB;have HNV:=Lib.hid hnv;have HI:=Lib.hid hi;have HF:=Lib.hid hf;have HREC:=Lib.hid hrec;have n0:=hN.cell 0;simp only[jA,jZ]at n0;clear hx hb0 hbase ho hN hB hnv hi hf hrec;cases hr:parN cs S.data.toList f i l with
 | error r =>
  obtain ⟨k,er⟩:=r;have HR1:=Lib.hid hr;have HR:=Lib.hid (arg_n1 (cs:=cs) (T:=S.data.toList) hr);clear hr;go_enter Tryz.func48,Tryz.ntmps48
  go_wp2_with fail
  refine (pchild_any w0 g N i f 6 base sv nv l key wh e0 0 S cs _ w HREC.out HB.out HI.out HF.out HO.out hl HB0.out HBS.out HNN.out rfl hgN HNV.out).mono ?_;rintro e w1 hret;rw[HR1.out]at hret;obtain ⟨hk,rfl,j0,n0,c0,A0,hn,hB⟩:=hret;have HK1:=Lib.hid (hk);have HB1:=Lib.hid hB;clear hk hB;go_wp2;go_ret;rw[HR.out];exact ⟨HK1.out,rfl,j0,n0,c0,A0,hn,HB1.out⟩
 | ok r =>
  obtain ⟨j,l1⟩:=r;have HR1:=Lib.hid hr;have HR:=Lib.hid (arg_n2 (cs:=cs) (T:=S.data.toList) hr);clear hr;go_enter Tryz.func48,Tryz.ntmps48
  go_wp2_with fail
  refine (pchild_any w0 g N i f 6 base sv nv l key wh e0 0 S cs _ w HREC.out HB.out HI.out HF.out HO.out hl HB0.out HBS.out HNN.out rfl hgN HNV.out).mono ?_;rintro e w1 hret;rw[HR1.out]at hret;obtain ⟨hk,rfl,hj,hl1,hl2,nv1,hB,hO,hob,hN⟩:=hret;simp only[jI,jY,jT]at hN;have HK1:=Lib.hid hk;have HB1:=Lib.hid hB;have HO1:=Lib.hid hO;have HOB1:=Lib.hid hob;have HN1:=Lib.hid hN;have HJ1:=Lib.hid hj;clear hk hB hO hob hN hj;clear n0;go_wp2;go_ret;rw[HR.out];exact ⟨HK1.out,rfl,HJ1.out,hl2,nv1,_,HB1.out,HO1.out,HOB1.out,HN1.out,World.ownsRow_nil _ _ _ _⟩
set_option maxRecDepth 100000 in
set_option maxHeartbeats 8000000 in
theorem prest8_any (w0:World) (g N i f base:Nat) (sv nv:Value) (l:List Nd) (key wh e0:Int) (S:ByteArray) (cs:List Col) (w:World) (hx:PCtx w0 g sv S cs base) (hrec:HNode w0 g sv key wh e0 S cs base f)
  (hB:Blk w g 54 #[sv,.int .i64 key,.string S,.int .i64 i,nv,.int .i64 wh,.int .i64 e0]) (hi:i≤S.size) (hf:S.size<i+f) (ho:OwnNd w base nv l) (hl:l.length≤64) (hb0:Below w0.heap.size w0 w) (hbase:base≤w.heap.size) (hN:Blk w N 66 #[.int .i64 8,.int .i64 0,.bool false,.int .i64 0,.string { data:=#[] },.slice none 0 0,.int .i64 0,.int .i64 0]) (hnv:nv.ownBlock≠some N) (hn0:w0.heap.size≤N) :
  Calls Tryz.prog 48 #[.pointer (some ⟨g,0,none⟩),.pointer (some ⟨N,0,none⟩)] w (RetRestP w g N sv key wh e0 S base nv (argP cs S.data.toList (parN cs S.data.toList f) 8 i l)):=by
 have hgN:g≠N:=by intro e;subst e;have:=hB.symm.trans hN;injection this with this;injection this with _ h;revert h;decide
 have HX:=Lib.hid hx;have HB0:=Lib.hid hb0;have HBS:=Lib.hid hbase;have HO:=Lib.hid ho;have HNN:=Lib.hid hN;have HB:=Lib.hid hB;have HNV:=Lib.hid hnv;have HI:=Lib.hid hi;have HF:=Lib.hid hf;have HREC:=Lib.hid hrec;have n0:=hN.cell 0;simp only[jA,jZ]at n0;clear hx hb0 hbase ho hN hB hnv hi hf hrec;have HT:=Lib.hid (show i≤S.data.toList.length by rw[size_data];exact HI.out);cases hr:colP cs S.data.toList i with
 | error r =>
  obtain ⟨k,er⟩:=r;have HR1:=Lib.hid hr;have HR:=Lib.hid (arg_l1 (cs:=cs) (T:=S.data.toList) (op:=8) (i:=i) (rec:=parN cs S.data.toList f) (acc:=l) (by omega) hr);clear hr;go_enter Tryz.func48,Tryz.ntmps48
  go_wp2_with fail
  refine (pcol_any w0 g N i sv nv (.slice none 0 0) key wh e0 8 0 0 0 0 false { data:=#[] } S cs w HB.out HNN.out HI.out HX.out.hS HX.out.hcs HB0.out HX.out.hg hn0 HX.out.hcl).mono ?_;rintro e w1 hret;rw[HR1.out]at hret;obtain ⟨hk,rfl,j0,hB⟩:=hret;have HK1:=Lib.hid ((hk).mono (S':=fun i=>i=g∨i=N∨nv.ownBlock=some i) (fun q _ h=>by rcases h with h | h;exact .inl h;exact .inr (.inl h)));have HB1:=Lib.hid hB;clear hk hB;go_wp2;go_ret;rw[HR.out];obtain ⟨A,cA,hnv,_,_⟩:=HO.out.form;subst hnv;exact ⟨HK1.out,rfl,j0,_,cA,A,hl,HB1.out⟩
 | ok r =>
  obtain ⟨j,K⟩:=r;have HR1:=Lib.hid hr;obtain ⟨c,hc⟩:=col_has hr;have HC:=Lib.hid hc;have hju:=col_upt (cs:=cs) HT.out;rw[hr]at hju;have HJ:=Lib.hid (show j≤S.size by rw[←size_data];exact hju);clear hju;have HR:=Lib.hid (arg_l8 (cs:=cs) (T:=S.data.toList) (i:=i) (rec:=parN cs S.data.toList f) (acc:=l) hr);clear hr hc;go_enter Tryz.func48,Tryz.ntmps48
  go_wp2_with fail
  refine (pcol_any w0 g N i sv nv (.slice none 0 0) key wh e0 8 0 0 0 0 false { data:=#[] } S cs w HB.out HNN.out HI.out HX.out.hS HX.out.hcs HB0.out HX.out.hg hn0 HX.out.hcl).mono ?_;rintro e w1 hret;rw[HR1.out]at hret;obtain ⟨hk,rfl,hB,hN⟩:=hret;have HK1:=Lib.hid hk;have HB1:=Lib.hid hB;have HN1:=Lib.hid hN;have HOA:=Lib.hid (HO.out.kp hk (fun b hb h=>by rcases h with h | h;exact HO.out.ne HB.out (by decide) (by rw[hb,h]);exact HNV.out (by rw[hb,h])) (fun u n xs hu b hb h=>by rcases h with h | h;exact own_blk_ne hu HB.out (by decide) (by rw[hb,h]);exact own_blk_ne hu HNN.out (by decide) (by rw[hb,h])));clear hk hB hN;clear n0;go_wp2;go_ret;rw[HR.out];exact ⟨(HK1.out).mono (S':=fun i=>i=g∨i=N∨nv.ownBlock=some i) (fun q _ h=>by rcases h with h | h;exact .inl h;exact .inr (.inl h)),rfl,HJ.out,hl,nv,_,HB1.out,HOA.out,fun b h=>.inl h,HN1.out,World.ownsRow_nil _ _ _ _⟩
set_option maxRecDepth 100000 in
set_option maxHeartbeats 8000000 in
theorem prest7_any (w0:World) (g N i f base:Nat) (sv nv:Value) (l:List Nd) (key wh e0:Int) (S:ByteArray) (cs:List Col) (w:World) (hx:PCtx w0 g sv S cs base) (hrec:HNode w0 g sv key wh e0 S cs base f)
  (hB:Blk w g 54 #[sv,.int .i64 key,.string S,.int .i64 i,nv,.int .i64 wh,.int .i64 e0]) (hi:i≤S.size) (hf:S.size<i+f) (ho:OwnNd w base nv l) (hl:l.length≤64) (hb0:Below w0.heap.size w0 w) (hbase:base≤w.heap.size) (hN:Blk w N 66 #[.int .i64 7,.int .i64 0,.bool false,.int .i64 0,.string { data:=#[] },.slice none 0 0,.int .i64 0,.int .i64 0]) (hnv:nv.ownBlock≠some N) (hn0:w0.heap.size≤N) :
  Calls Tryz.prog 48 #[.pointer (some ⟨g,0,none⟩),.pointer (some ⟨N,0,none⟩)] w (RetRestP w g N sv key wh e0 S base nv (argP cs S.data.toList (parN cs S.data.toList f) 7 i l)):=by
 have hgN:g≠N:=by intro e;subst e;have:=hB.symm.trans hN;injection this with this;injection this with _ h;revert h;decide
 have HX:=Lib.hid hx;have HB0:=Lib.hid hb0;have HBS:=Lib.hid hbase;have HO:=Lib.hid ho;have HNN:=Lib.hid hN;have HB:=Lib.hid hB;have HNV:=Lib.hid hnv;have HI:=Lib.hid hi;have HF:=Lib.hid hf;have HREC:=Lib.hid hrec;have n0:=hN.cell 0;simp only[jA,jZ]at n0;clear hx hb0 hbase ho hN hB hnv hi hf hrec;have HT:=Lib.hid (show i≤S.data.toList.length by rw[size_data];exact HI.out);cases hr:colP cs S.data.toList i with
 | error r =>
  obtain ⟨k,er⟩:=r;have HR1:=Lib.hid hr;have HR:=Lib.hid (arg_l1 (cs:=cs) (T:=S.data.toList) (op:=7) (i:=i) (rec:=parN cs S.data.toList f) (acc:=l) (by omega) hr);clear hr;go_enter Tryz.func48,Tryz.ntmps48
  go_wp2_with fail
  refine (pcol_any w0 g N i sv nv (.slice none 0 0) key wh e0 7 0 0 0 0 false { data:=#[] } S cs w HB.out HNN.out HI.out HX.out.hS HX.out.hcs HB0.out HX.out.hg hn0 HX.out.hcl).mono ?_;rintro e w1 hret;rw[HR1.out]at hret;obtain ⟨hk,rfl,j0,hB⟩:=hret;have HK1:=Lib.hid ((hk).mono (S':=fun i=>i=g∨i=N∨nv.ownBlock=some i) (fun q _ h=>by rcases h with h | h;exact .inl h;exact .inr (.inl h)));have HB1:=Lib.hid hB;clear hk hB;go_wp2;go_ret;rw[HR.out];obtain ⟨A,cA,hnv,_,_⟩:=HO.out.form;subst hnv;exact ⟨HK1.out,rfl,j0,_,cA,A,hl,HB1.out⟩
 | ok r =>
  obtain ⟨j,K⟩:=r;have HR1:=Lib.hid hr;obtain ⟨c,hc⟩:=col_has hr;have HC:=Lib.hid hc;have hju:=col_upt (cs:=cs) HT.out;rw[hr]at hju;have HJ:=Lib.hid (show j≤S.size by rw[←size_data];exact hju);clear hju;cases hr2:lstP c S.data.toList 17 j [] with
  | error r =>
   obtain ⟨k,er⟩:=r;have HR:=Lib.hid (arg_l7e (cs:=cs) (T:=S.data.toList) (i:=i) (rec:=parN cs S.data.toList f) (acc:=l) hr hc hr2);have HR2:=Lib.hid hr2;clear hr hr2 hc;go_enter Tryz.func48,Tryz.ntmps48
   go_wp2_with fail
   refine (pcol_any w0 g N i sv nv (.slice none 0 0) key wh e0 7 0 0 0 0 false { data:=#[] } S cs w HB.out HNN.out HI.out HX.out.hS HX.out.hcs HB0.out HX.out.hg hn0 HX.out.hcl).mono ?_;rintro e w1 hret;rw[HR1.out]at hret;obtain ⟨hk,rfl,hB,hN⟩:=hret;have HK1:=Lib.hid hk;have HB1:=Lib.hid hB;have HN1:=Lib.hid hN;have HOA:=Lib.hid (HO.out.kp hk (fun b hb h=>by rcases h with h | h;exact HO.out.ne HB.out (by decide) (by rw[hb,h]);exact HNV.out (by rw[hb,h])) (fun u n xs hu b hb h=>by rcases h with h | h;exact own_blk_ne hu HB.out (by decide) (by rw[hb,h]);exact own_blk_ne hu HNN.out (by decide) (by rw[hb,h])));clear hk hB hN;have hb1:=Lib.hid (show Below w0.heap.size w0 w1 from below_kp HB0.out HK1.out (fun q h=>by
    rcases h with h|h
    ·have:=HX.out.hg;omega
    ·omega) HB0.out.size)
   clear n0;go_wp2_with fail
   refine (plist_any w0 g N j K sv nv key wh e0 7 0 0 0 false { data:=#[] } S cs c w1 HB1.out HN1.out HJ.out HX.out.hS HX.out.hcs HX.out.hE hb1.out HX.out.hg hn0 HX.out.hcl HC.out).mono ?_;rintro e w2 hret;rw[HR2.out]at hret;obtain ⟨hk,rfl,j0,hB⟩:=hret;have HK2:=Lib.hid ((HK1.out.trans hk).mono (S':=fun i=>i=g∨i=N∨nv.ownBlock=some i) (fun q _ h=>by rcases h with h | h;exact .inl h;exact .inr (.inl h)));have HB2:=Lib.hid hB;clear hk hB;go_wp2;go_ret;rw[HR.out];obtain ⟨A,cA,hnv,_,_⟩:=HO.out.form;subst hnv;exact ⟨HK2.out,rfl,j0,_,cA,A,hl,HB2.out⟩
  | ok r =>
   obtain ⟨j2,y⟩:=r;have HR:=Lib.hid (arg_l7o (cs:=cs) (T:=S.data.toList) (i:=i) (rec:=parN cs S.data.toList f) (acc:=l) hr hc hr2);have HR2:=Lib.hid hr2;have hju:=lst_upt (c:=c) (T:=S.data.toList) 17 j [] (by rw[size_data];exact HJ.out);rw[hr2]at hju;have HJ2:=Lib.hid (show j2≤S.size by rw[←size_data];exact hju);clear hju;clear hr hr2 hc;go_enter Tryz.func48,Tryz.ntmps48
   go_wp2_with fail
   refine (pcol_any w0 g N i sv nv (.slice none 0 0) key wh e0 7 0 0 0 0 false { data:=#[] } S cs w HB.out HNN.out HI.out HX.out.hS HX.out.hcs HB0.out HX.out.hg hn0 HX.out.hcl).mono ?_;rintro e w1 hret;rw[HR1.out]at hret;obtain ⟨hk,rfl,hB,hN⟩:=hret;have HK1:=Lib.hid hk;have HB1:=Lib.hid hB;have HN1:=Lib.hid hN;have HOA:=Lib.hid (HO.out.kp hk (fun b hb h=>by rcases h with h | h;exact HO.out.ne HB.out (by decide) (by rw[hb,h]);exact HNV.out (by rw[hb,h])) (fun u n xs hu b hb h=>by rcases h with h | h;exact own_blk_ne hu HB.out (by decide) (by rw[hb,h]);exact own_blk_ne hu HNN.out (by decide) (by rw[hb,h])));clear hk hB hN;have hb1:=Lib.hid (show Below w0.heap.size w0 w1 from below_kp HB0.out HK1.out (fun q h=>by
    rcases h with h|h
    ·have:=HX.out.hg;omega
    ·omega) HB0.out.size)
   clear n0;go_wp2_with fail
   refine (plist_any w0 g N j K sv nv key wh e0 7 0 0 0 false { data:=#[] } S cs c w1 HB1.out HN1.out HJ.out HX.out.hS HX.out.hcs HX.out.hE hb1.out HX.out.hg hn0 HX.out.hcl HC.out).mono ?_;rintro e w2 hret;rw[HR2.out]at hret;obtain ⟨hk,rfl,hB,lu,hN,hrow⟩:=hret;have HK2:=Lib.hid (HK1.out.trans hk);have HB2:=Lib.hid hB;have HN2:=Lib.hid hN;have HRW:=Lib.hid hrow;have HOB:=Lib.hid (HOA.out.kp hk (fun b hb h=>by rcases h with h | h;exact HO.out.ne HB.out (by decide) (by rw[hb,h]);exact HNV.out (by rw[hb,h])) (fun u n xs hu b hb h=>by rcases h with h | h;exact own_blk_ne hu HB1.out (by decide) (by rw[hb,h]);exact own_blk_ne hu HN1.out (by decide) (by rw[hb,h])));clear hk hB hN hrow;go_wp2;go_ret;rw[HR.out];exact ⟨(HK2.out).mono (S':=fun i=>i=g∨i=N∨nv.ownBlock=some i) (fun q _ h=>by rcases h with h | h;exact .inl h;exact .inr (.inl h)),rfl,HJ2.out,hl,nv,_,HB2.out,HOB.out,fun b h=>.inl h,HN2.out,own_mono HRW.out (Nat.le_trans HBS.out HK1.out.size)⟩
set_option maxRecDepth 100000 in
set_option maxHeartbeats 8000000 in
theorem prestV_any (w0:World) (g N i f base o:Nat) (sv nv:Value) (l:List Nd) (key wh e0:Int) (S:ByteArray) (cs:List Col) (w:World) (hx:PCtx w0 g sv S cs base) (hrec:HNode w0 g sv key wh e0 S cs base f)
  (hB:Blk w g 54 #[sv,.int .i64 key,.string S,.int .i64 i,nv,.int .i64 wh,.int .i64 e0]) (hi:i≤S.size) (hf:S.size<i+f) (ho:OwnNd w base nv l) (hl:l.length≤64) (hb0:Below w0.heap.size w0 w) (hbase:base≤w.heap.size) (hN:Blk w N 66 #[.int .i64 (o:Int),.int .i64 0,.bool false,.int .i64 0,.string { data:=#[] },.slice none 0 0,.int .i64 0,.int .i64 0]) (hnv:nv.ownBlock≠some N) (hn0:w0.heap.size≤N) (h1:1≤o) (h6:o≤6) :
  Calls Tryz.prog 48 #[.pointer (some ⟨g,0,none⟩),.pointer (some ⟨N,0,none⟩)] w (RetRestP w g N sv key wh e0 S base nv (argP cs S.data.toList (parN cs S.data.toList f) o i l)):=by
 have hgN:g≠N:=by intro e;subst e;have:=hB.symm.trans hN;injection this with this;injection this with _ h;revert h;decide
 have HX:=Lib.hid hx;have HB0:=Lib.hid hb0;have HBS:=Lib.hid hbase;have HO:=Lib.hid ho;have HNN:=Lib.hid hN;have HB:=Lib.hid hB;have HNV:=Lib.hid hnv;have HI:=Lib.hid hi;have HF:=Lib.hid hf;have HREC:=Lib.hid hrec;have n0:=hN.cell 0;simp only[jA,jZ]at n0;clear hx hb0 hbase ho hN hB hnv hi hf hrec;have q7:((o:Int)==7)=false:=by rw[beq_eq_false_iff_ne];omega
 have q8:((o:Int)==8)=false:=by rw[beq_eq_false_iff_ne];omega
 have q9:((o:Int)==9)=false:=by rw[beq_eq_false_iff_ne];omega
 have q10:((o:Int)==10)=false:=by rw[beq_eq_false_iff_ne];omega
 have q11:((o:Int)==11)=false:=by rw[beq_eq_false_iff_ne];omega
 have HT:=Lib.hid (show i≤S.data.toList.length by rw[size_data];exact HI.out);cases hr:colP cs S.data.toList i with
 | error r =>
  obtain ⟨k,er⟩:=r;have HR1:=Lib.hid hr;have HR:=Lib.hid (arg_l1 (cs:=cs) (T:=S.data.toList) (op:=o) (i:=i) (rec:=parN cs S.data.toList f) (acc:=l) (by omega) hr);clear hr;go_enter Tryz.func48,Tryz.ntmps48
  go_wp2_with fail
  refine (pcol_any w0 g N i sv nv (.slice none 0 0) key wh e0 (o:Int) 0 0 0 0 false { data:=#[] } S cs w HB.out HNN.out HI.out HX.out.hS HX.out.hcs HB0.out HX.out.hg hn0 HX.out.hcl).mono ?_;rintro e w1 hret;rw[HR1.out]at hret;obtain ⟨hk,rfl,j0,hB⟩:=hret;have HK1:=Lib.hid ((hk).mono (S':=fun i=>i=g∨i=N∨nv.ownBlock=some i) (fun q _ h=>by rcases h with h | h;exact .inl h;exact .inr (.inl h)));have HB1:=Lib.hid hB;clear hk hB;go_wp2;go_ret;rw[HR.out];obtain ⟨A,cA,hnv,_,_⟩:=HO.out.form;subst hnv;exact ⟨HK1.out,rfl,j0,_,cA,A,hl,HB1.out⟩
 | ok r =>
  obtain ⟨j,K⟩:=r;have HR1:=Lib.hid hr;obtain ⟨c,hc⟩:=col_has hr;have HC:=Lib.hid hc;have hju:=col_upt (cs:=cs) HT.out;rw[hr]at hju;have HJ:=Lib.hid (show j≤S.size by rw[←size_data];exact hju);clear hju;cases hr2:valC c S.data.toList j with
  | error r =>
   obtain ⟨k,er⟩:=r;have HR:=Lib.hid (arg_lve (cs:=cs) (T:=S.data.toList) (i:=i) (rec:=parN cs S.data.toList f) (acc:=l) h6 hr hc hr2);have HR2:=Lib.hid hr2;clear hr hr2 hc;go_enter Tryz.func48,Tryz.ntmps48
   go_wp2_with fail
   refine (pcol_any w0 g N i sv nv (.slice none 0 0) key wh e0 (o:Int) 0 0 0 0 false { data:=#[] } S cs w HB.out HNN.out HI.out HX.out.hS HX.out.hcs HB0.out HX.out.hg hn0 HX.out.hcl).mono ?_;rintro e w1 hret;rw[HR1.out]at hret;obtain ⟨hk,rfl,hB,hN⟩:=hret;have HK1:=Lib.hid hk;have HB1:=Lib.hid hB;have HN1:=Lib.hid hN;have HOA:=Lib.hid (HO.out.kp hk (fun b hb h=>by rcases h with h | h;exact HO.out.ne HB.out (by decide) (by rw[hb,h]);exact HNV.out (by rw[hb,h])) (fun u n xs hu b hb h=>by rcases h with h | h;exact own_blk_ne hu HB.out (by decide) (by rw[hb,h]);exact own_blk_ne hu HNN.out (by decide) (by rw[hb,h])));clear hk hB hN;have hb1:=Lib.hid (show Below w0.heap.size w0 w1 from below_kp HB0.out HK1.out (fun q h=>by
    rcases h with h|h
    ·have:=HX.out.hg;omega
    ·omega) HB0.out.size)
   clear n0;go_wp2_with fail
   refine (pval_any w0 g N j K sv nv (.slice none 0 0) key wh e0 (o:Int) 0 0 0 false { data:=#[] } S cs c w1 HB1.out HN1.out HJ.out HX.out.hS HX.out.hcs HX.out.hE hb1.out HX.out.hg hn0 HX.out.hcl HC.out).mono ?_;rintro e w2 hret;rw[HR2.out]at hret;obtain ⟨hk,rfl,j0,hB⟩:=hret;have HK2:=Lib.hid ((HK1.out.trans hk).mono (S':=fun i=>i=g∨i=N∨nv.ownBlock=some i) (fun q _ h=>by rcases h with h | h;exact .inl h;exact .inr (.inl h)));have HB2:=Lib.hid hB;clear hk hB;go_wp2;go_ret;rw[HR.out];obtain ⟨A,cA,hnv,_,_⟩:=HO.out.form;subst hnv;exact ⟨HK2.out,rfl,j0,_,cA,A,hl,HB2.out⟩
  | ok r =>
   obtain ⟨j2,y⟩:=r;have HR:=Lib.hid (arg_lvo (cs:=cs) (T:=S.data.toList) (i:=i) (rec:=parN cs S.data.toList f) (acc:=l) h6 hr hc hr2);have HR2:=Lib.hid hr2;have hju:=val_upt (c:=c) (T:=S.data.toList) (i:=j) (by rw[size_data];exact HJ.out);rw[hr2]at hju;have HJ2:=Lib.hid (show j2≤S.size by rw[←size_data];exact hju);clear hju;clear hr hr2 hc;go_enter Tryz.func48,Tryz.ntmps48
   go_wp2_with fail
   refine (pcol_any w0 g N i sv nv (.slice none 0 0) key wh e0 (o:Int) 0 0 0 0 false { data:=#[] } S cs w HB.out HNN.out HI.out HX.out.hS HX.out.hcs HB0.out HX.out.hg hn0 HX.out.hcl).mono ?_;rintro e w1 hret;rw[HR1.out]at hret;obtain ⟨hk,rfl,hB,hN⟩:=hret;have HK1:=Lib.hid hk;have HB1:=Lib.hid hB;have HN1:=Lib.hid hN;have HOA:=Lib.hid (HO.out.kp hk (fun b hb h=>by rcases h with h | h;exact HO.out.ne HB.out (by decide) (by rw[hb,h]);exact HNV.out (by rw[hb,h])) (fun u n xs hu b hb h=>by rcases h with h | h;exact own_blk_ne hu HB.out (by decide) (by rw[hb,h]);exact own_blk_ne hu HNN.out (by decide) (by rw[hb,h])));clear hk hB hN;have hb1:=Lib.hid (show Below w0.heap.size w0 w1 from below_kp HB0.out HK1.out (fun q h=>by
    rcases h with h|h
    ·have:=HX.out.hg;omega
    ·omega) HB0.out.size)
   clear n0;go_wp2_with fail
   refine (pval_any w0 g N j K sv nv (.slice none 0 0) key wh e0 (o:Int) 0 0 0 false { data:=#[] } S cs c w1 HB1.out HN1.out HJ.out HX.out.hS HX.out.hcs HX.out.hE hb1.out HX.out.hg hn0 HX.out.hcl HC.out).mono ?_;rintro e w2 hret;rw[HR2.out]at hret;obtain ⟨hk,rfl,hB,hN⟩:=hret;have HK2:=Lib.hid (HK1.out.trans hk);have HB2:=Lib.hid hB;have HN2:=Lib.hid hN;have HOB:=Lib.hid (HOA.out.kp hk (fun b hb h=>by rcases h with h | h;exact HO.out.ne HB.out (by decide) (by rw[hb,h]);exact HNV.out (by rw[hb,h])) (fun u n xs hu b hb h=>by rcases h with h | h;exact own_blk_ne hu HB1.out (by decide) (by rw[hb,h]);exact own_blk_ne hu HN1.out (by decide) (by rw[hb,h])));clear hk hB hN;go_wp2;go_ret;rw[HR.out];exact ⟨(HK2.out).mono (S':=fun i=>i=g∨i=N∨nv.ownBlock=some i) (fun q _ h=>by rcases h with h | h;exact .inl h;exact .inr (.inl h)),rfl,HJ2.out,hl,nv,_,HB2.out,HOB.out,fun b h=>.inl h,HN2.out,World.ownsRow_nil _ _ _ _⟩
end Go.Proofs.YtjnamjkdjcndiaaGreatDoor
