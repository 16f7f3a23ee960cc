/-
  Words, plain laws and contracts on which the walks lean, in one text.
-/
import Derived.Test.YtjnamjkdjcndiaaGreatDoorM20
namespace Go.Proofs.YtjnamjkdjcndiaaGreatDoor
open Go.RowKit Go.Sort

def RetRestP (w:World) (g N:Nat) (sv:Value) (key wh e0:Int) (S:ByteArray) (base:Nat) (nv:Value) (r:Except (Nat×Int) (Nat×Nd×List Nd)) (e:Ending) (w':World):Prop :=
 Kp (fun i=>i=g∨i=N∨nv.ownBlock=some i) w w'∧match r with
 | .ok (j,x,l)=>e=.returned (.bool true)∧j≤S.size∧l.length≤64∧∃ nv' u,Blk w' g 54 #[sv,.int .i64 key,.string S,.int .i64 j,nv',.int .i64 wh,.int .i64 e0]∧OwnNd w' base nv' l∧(∀ b,nv'.ownBlock=some b→nv.ownBlock=some b∨w.heap.size≤b)∧Blk w' N 66 #[.int .i64 x.op,.int .i64 x.col,.bool x.v.nu,.int .i64 x.v.n,.string x.v.s,u,.int .i64 x.a,.int .i64 x.b]∧w'.ownsRow base 64 3 u x.l.length (vls x.l)
 | .error (k,er)=>e=.returned (.bool false)∧∃ (i n c:Nat) (A:Option Addr),n≤64∧Blk w' g 54 #[sv,.int .i64 key,.string S,.int .i64 i,.slice A n c,.int .i64 k,.int .i64 er]
section
variable {cs:List Col} {T:List UInt8} {rec:Nat→List Nd→Except (Nat×Int) (Nat×List Nd)} {op i j j2 K:Nat} {acc a2 a3:List Nd} {e:Nat×Int} {c:Col} {v:Vl} {l:List Vl}
theorem arg_e1 (h:op=9∨op=10) (h1:rec i acc=.error e):argP cs T rec op i acc=.error e:=by unfold argP;rw[if_pos h,h1]
theorem arg_e2 (h:op=9∨op=10) (h1:rec i acc=.ok (j,a2)) (h2:rec j a2=.error e):argP cs T rec op i acc=.error e:=by unfold argP;rw[if_pos h,h1];dsimp only;rw[h2]
theorem arg_o2 (h:op=9∨op=10) (h1:rec i acc=.ok (j,a2)) (h2:rec j a2=.ok (j2,a3)):argP cs T rec op i acc=.ok (j2,⟨op,0,v0,[],(a2.length:Int) - 1,(a3.length:Int) - 1⟩,a3):=by unfold argP;rw[if_pos h,h1];dsimp only;rw[h2]
theorem arg_n1 (h1:rec i acc=.error e):argP cs T rec 11 i acc=.error e:=by unfold argP;rw[if_neg (by decide),if_pos rfl,h1]
theorem arg_n2 (h1:rec i acc=.ok (j,a2)):argP cs T rec 11 i acc=.ok (j,⟨11,0,v0,[],(a2.length:Int) - 1,0⟩,a2):=by unfold argP;rw[if_neg (by decide),if_pos rfl,h1]
theorem arg_l1 (h:op≤8) (h1:colP cs T i=.error e):argP cs T rec op i acc=.error e:=by unfold argP leafR;rw[if_neg (by omega),if_neg (by omega),h1]
theorem arg_l8 (h1:colP cs T i=.ok (j,K)):argP cs T rec 8 i acc=.ok (j,⟨8,K,v0,[],0,0⟩,acc):=by unfold argP leafR;rw[if_neg (by decide),if_neg (by decide),h1];rfl
theorem leaf_l (h1:colP cs T i=.ok (j,K)) (hc:cs[K]?=some c):leafR cs T 7 i=(match lstP c T 17 j [] with
     | .error e=>.error e
     | .ok (i3,l)=>.ok (i3,⟨7,K,v0,l,0,0⟩)):=by
 unfold leafR;rw[h1]
 dsimp only;rw[hc];rfl
theorem leaf_v (h:op≤6) (h1:colP cs T i=.ok (j,K)) (hc:cs[K]?=some c):leafR cs T op i=(match valC c T j with
     | .error e=>.error e
     | .ok (i3,v)=>.ok (i3,⟨op,K,v,[],0,0⟩)):=by
 unfold leafR;rw[h1]
 show (if op=8 then _ else match cs[K]? with | none=>_ | some c=>_)=_
 rw[if_neg (by omega),hc];show (if op=7 then _ else _)=_
 rw[if_neg (by omega)];rfl
theorem arg_l7e (h1:colP cs T i=.ok (j,K)) (hc:cs[K]?=some c) (h2:lstP c T 17 j []=.error e):argP cs T rec 7 i acc=.error e:=by unfold argP;rw[if_neg (by decide),if_neg (by decide),leaf_l h1 hc,h2]
theorem arg_l7o (h1:colP cs T i=.ok (j,K)) (hc:cs[K]?=some c) (h2:lstP c T 17 j []=.ok (j2,l)):argP cs T rec 7 i acc=.ok (j2,⟨7,K,v0,l,0,0⟩,acc):=by unfold argP;rw[if_neg (by decide),if_neg (by decide),leaf_l h1 hc,h2]
theorem arg_lve (h:op≤6) (h1:colP cs T i=.ok (j,K)) (hc:cs[K]?=some c) (h2:valC c T j=.error e):argP cs T rec op i acc=.error e:=by unfold argP;rw[if_neg (by omega),if_neg (by omega),leaf_v h h1 hc,h2]
theorem arg_lvo (h:op≤6) (h1:colP cs T i=.ok (j,K)) (hc:cs[K]?=some c) (h2:valC c T j=.ok (j2,v)):argP cs T rec op i acc=.ok (j2,⟨op,K,v,[],0,0⟩,acc):=by unfold argP;rw[if_neg (by omega),if_neg (by omega),leaf_v h h1 hc,h2]
end
structure PCtx (w0:World) (g:Nat) (sv:Value) (S:ByteArray) (cs:List Col) (base:Nat):Prop where
 hS:S.size≤65536
 hcs:Sl w0 4 sv cs.length (cols cs)
 hE:Env w0
 hcl:cs.length≤1000
 hg:w0.heap.size≤g
 hb:w0.heap.size≤base
theorem OwnNd.ge {w:World} {base b:Nat} {v:Value} {l:List Nd} (h:OwnNd w base v l) (hb:v.ownBlock=some b):base≤b∧b<w.heap.size:=by
 obtain ⟨us,h1,h2,h3⟩:=h;exact h2.lt b hb
set_option maxRecDepth 100000 in
set_option maxHeartbeats 8000000 in
theorem prest9_any (w0:World) (g N i f base:Nat) (sv nv:Value) (l:List Nd) (key wh e0:Int) (S:ByteArray) (cs:List Col) (w:World) (hx:PCtx w0 g sv S cs base) (hrec:HNode w0 g sv key wh e0 S cs base f)
  (hB:Blk w g 54 #[sv,.int .i64 key,.string S,.int .i64 i,nv,.int .i64 wh,.int .i64 e0]) (hi:i≤S.size) (hf:S.size<i+f) (ho:OwnNd w base nv l) (hl:l.length≤64) (hb0:Below w0.heap.size w0 w) (hbase:base≤w.heap.size) (hN:Blk w N 66 #[.int .i64 9,.int .i64 0,.bool false,.int .i64 0,.string { data:=#[] },.slice none 0 0,.int .i64 0,.int .i64 0]) (hnv:nv.ownBlock≠some N) (hn0:w0.heap.size≤N) :
  Calls Tryz.prog 48 #[.pointer (some ⟨g,0,none⟩),.pointer (some ⟨N,0,none⟩)] w (RetRestP w g N sv key wh e0 S base nv (argP cs S.data.toList (parN cs S.data.toList f) 9 i l)):=by
 have hgN:g≠N:=by intro e;subst e;have:=hB.symm.trans hN;injection this with this;injection this with _ h;revert h;decide
 have HX:=Lib.hid hx;have HB0:=Lib.hid hb0;have HBS:=Lib.hid hbase;have HO:=Lib.hid ho;have HNN:=Lib.hid hN;have HB:=Lib.hid hB;have HNV:=Lib.hid hnv;have HI:=Lib.hid hi;have HF:=Lib.hid hf;have HREC:=Lib.hid hrec;have n0:=hN.cell 0;simp only[jA,jZ]at n0;clear hx hb0 hbase ho hN hB hnv hi hf hrec;have hpos:=par_pos cs S.data.toList f i l;cases hr:parN cs S.data.toList f i l with
 | error r =>
  obtain ⟨k,er⟩:=r;have HR1:=Lib.hid hr;have HR:=Lib.hid (arg_e1 (cs:=cs) (T:=S.data.toList) (op:=9) (by decide) hr);clear hr hpos;go_enter Tryz.func48,Tryz.ntmps48
  go_wp2_with fail
  refine (pchild_any w0 g N i f 6 base sv nv l key wh e0 0 S cs _ w HREC.out HB.out HI.out HF.out HO.out hl HB0.out HBS.out HNN.out rfl hgN HNV.out).mono ?_;rintro e w1 hret;rw[HR1.out]at hret;obtain ⟨hk,rfl,j0,n0,c0,A0,hn,hB⟩:=hret;have HK1:=Lib.hid (hk);have HB1:=Lib.hid hB;clear hk hB;go_wp2;go_ret;rw[HR.out];exact ⟨HK1.out,rfl,j0,n0,c0,A0,hn,HB1.out⟩
 | ok r =>
  obtain ⟨j,l1⟩:=r;rw[hr]at hpos;have hij:i+1≤j:=hpos;have HR1:=Lib.hid hr;cases hr2:parN cs S.data.toList f j l1 with
  | error r =>
   obtain ⟨k,er⟩:=r;have HR:=Lib.hid (arg_e2 (cs:=cs) (T:=S.data.toList) (op:=9) (by decide) hr hr2);have HR2:=Lib.hid hr2;clear hr hr2 hpos;go_enter Tryz.func48,Tryz.ntmps48
   go_wp2_with fail
   refine (pchild_any w0 g N i f 6 base sv nv l key wh e0 0 S cs _ w HREC.out HB.out HI.out HF.out HO.out hl HB0.out HBS.out HNN.out rfl hgN HNV.out).mono ?_;rintro e w1 hret;rw[HR1.out]at hret;obtain ⟨hk,rfl,hj,hl1,hl2,nv1,hB,hO,hob,hN⟩:=hret;simp only[jI,jY,jT]at hN;have HK1:=Lib.hid hk;have HB1:=Lib.hid hB;have HO1:=Lib.hid hO;have HOB1:=Lib.hid hob;have HN1:=Lib.hid hN;have HJ1:=Lib.hid hj;clear hk hB hO hob hN hj;have hb1:=Lib.hid (show Below w0.heap.size w0 w1 from below_kp HB0.out HK1.out (fun q h=>by
    rcases h with h|h|h
    ·have:=HX.out.hg;omega
    ·omega
    ·have:=(HO.out.ge h).1;have:=HX.out.hb;omega) HB0.out.size)
   have hnv1:=Lib.hid (show nv1.ownBlock≠some N by
    intro h
    rcases HOB1.out N h with h|h
    ·exact HNV.out h
    ·have:=HNN.out.lt;omega)
   clear n0;go_wp2_with fail
   refine (pchild_any w0 g N j f 7 base sv nv1 l1 key wh e0 0 S cs _ w1 HREC.out HB1.out HJ1.out (by have:=HF.out;omega) HO1.out hl2 hb1.out (Nat.le_trans HBS.out HK1.out.size) HN1.out rfl hgN hnv1.out).mono ?_;rintro e w2 hret;rw[HR2.out]at hret;obtain ⟨hk,rfl,j0,n0,c0,A0,hn,hB⟩:=hret;have HK2:=Lib.hid (HK1.out.then' hk (fun q hq h=>by rcases h with h | h | h;exact .inl h;exact .inr (.inl h);rcases HOB1.out q h with h | h;exact .inr (.inr h);exact absurd h (by omega)));have HB2:=Lib.hid hB;clear hk hB;go_wp2;go_ret;rw[HR.out];exact ⟨HK2.out,rfl,j0,n0,c0,A0,hn,HB2.out⟩
  | ok r =>
   obtain ⟨j2,l2⟩:=r;have HR:=Lib.hid (arg_o2 (cs:=cs) (T:=S.data.toList) (op:=9) (by decide) hr hr2);have HR2:=Lib.hid hr2;clear hr hr2 hpos;go_enter Tryz.func48,Tryz.ntmps48
   go_wp2_with fail
   refine (pchild_any w0 g N i f 6 base sv nv l key wh e0 0 S cs _ w HREC.out HB.out HI.out HF.out HO.out hl HB0.out HBS.out HNN.out rfl hgN HNV.out).mono ?_;rintro e w1 hret;rw[HR1.out]at hret;obtain ⟨hk,rfl,hj,hl1,hl2,nv1,hB,hO,hob,hN⟩:=hret;simp only[jI,jY,jT]at hN;have HK1:=Lib.hid hk;have HB1:=Lib.hid hB;have HO1:=Lib.hid hO;have HOB1:=Lib.hid hob;have HN1:=Lib.hid hN;have HJ1:=Lib.hid hj;clear hk hB hO hob hN hj;have hb1:=Lib.hid (show Below w0.heap.size w0 w1 from below_kp HB0.out HK1.out (fun q h=>by
    rcases h with h|h|h
    ·have:=HX.out.hg;omega
    ·omega
    ·have:=(HO.out.ge h).1;have:=HX.out.hb;omega) HB0.out.size)
   have hnv1:=Lib.hid (show nv1.ownBlock≠some N by
    intro h
    rcases HOB1.out N h with h|h
    ·exact HNV.out h
    ·have:=HNN.out.lt;omega)
   clear n0;go_wp2_with fail
   refine (pchild_any w0 g N j f 7 base sv nv1 l1 key wh e0 0 S cs _ w1 HREC.out HB1.out HJ1.out (by have:=HF.out;omega) HO1.out hl2 hb1.out (Nat.le_trans HBS.out HK1.out.size) HN1.out rfl hgN hnv1.out).mono ?_;rintro e w2 hret;rw[HR2.out]at hret;obtain ⟨hk,rfl,hj2,hl3,hl4,nv2,hB,hO,hob,hN⟩:=hret;simp only[jI,jY,jT]at hN;have HK2:=Lib.hid (HK1.out.then' hk (fun q hq h=>by rcases h with h | h | h;exact .inl h;exact .inr (.inl h);rcases HOB1.out q h with h | h;exact .inr (.inr h);exact absurd h (by omega)));have HB2:=Lib.hid hB;have HO2:=Lib.hid hO;have HOB2:=Lib.hid (show ∀ b,nv2.ownBlock=some b→nv.ownBlock=some b∨w.heap.size≤b from fun b h=>by
    rcases hob b h with h|h
    ·exact HOB1.out b h
    ·exact .inr (Nat.le_trans HK1.out.size h))
   have HN2:=Lib.hid hN;clear hk hB hO hob hN;go_wp2;go_ret;rw[HR.out];exact ⟨HK2.out,rfl,hj2,hl4,nv2,_,HB2.out,HO2.out,HOB2.out,HN2.out,World.ownsRow_nil _ _ _ _⟩
set_option maxRecDepth 100000 in
set_option maxHeartbeats 8000000 in
theorem prest10_any (w0:World) (g N i f base:Nat) (sv nv:Value) (l:List Nd) (key wh e0:Int) (S:ByteArray) (cs:List Col) (w:World) (hx:PCtx w0 g sv S cs base) (hrec:HNode w0 g sv key wh e0 S cs base f)
  (hB:Blk w g 54 #[sv,.int .i64 key,.string S,.int .i64 i,nv,.int .i64 wh,.int .i64 e0]) (hi:i≤S.size) (hf:S.size<i+f) (ho:OwnNd w base nv l) (hl:l.length≤64) (hb0:Below w0.heap.size w0 w) (hbase:base≤w.heap.size) (hN:Blk w N 66 #[.int .i64 10,.int .i64 0,.bool false,.int .i64 0,.string { data:=#[] },.slice none 0 0,.int .i64 0,.int .i64 0]) (hnv:nv.ownBlock≠some N) (hn0:w0.heap.size≤N) :
  Calls Tryz.prog 48 #[.pointer (some ⟨g,0,none⟩),.pointer (some ⟨N,0,none⟩)] w (RetRestP w g N sv key wh e0 S base nv (argP cs S.data.toList (parN cs S.data.toList f) 10 i l)):=by
 have hgN:g≠N:=by intro e;subst e;have:=hB.symm.trans hN;injection this with this;injection this with _ h;revert h;decide
 have HX:=Lib.hid hx;have HB0:=Lib.hid hb0;have HBS:=Lib.hid hbase;have HO:=Lib.hid ho;have HNN:=Lib.hid hN;have HB:=Lib.hid hB;have HNV:=Lib.hid hnv;have HI:=Lib.hid hi;have HF:=Lib.hid hf;have HREC:=Lib.hid hrec;have n0:=hN.cell 0;simp only[jA,jZ]at n0;clear hx hb0 hbase ho hN hB hnv hi hf hrec;have hpos:=par_pos cs S.data.toList f i l;cases hr:parN cs S.data.toList f i l with
 | error r =>
  obtain ⟨k,er⟩:=r;have HR1:=Lib.hid hr;have HR:=Lib.hid (arg_e1 (cs:=cs) (T:=S.data.toList) (op:=10) (by decide) hr);clear hr hpos;go_enter Tryz.func48,Tryz.ntmps48
  go_wp2_with fail
  refine (pchild_any w0 g N i f 6 base sv nv l key wh e0 0 S cs _ w HREC.out HB.out HI.out HF.out HO.out hl HB0.out HBS.out HNN.out rfl hgN HNV.out).mono ?_;rintro e w1 hret;rw[HR1.out]at hret;obtain ⟨hk,rfl,j0,n0,c0,A0,hn,hB⟩:=hret;have HK1:=Lib.hid (hk);have HB1:=Lib.hid hB;clear hk hB;go_wp2;go_ret;rw[HR.out];exact ⟨HK1.out,rfl,j0,n0,c0,A0,hn,HB1.out⟩
 | ok r =>
  obtain ⟨j,l1⟩:=r;rw[hr]at hpos;have hij:i+1≤j:=hpos;have HR1:=Lib.hid hr;cases hr2:parN cs S.data.toList f j l1 with
  | error r =>
   obtain ⟨k,er⟩:=r;have HR:=Lib.hid (arg_e2 (cs:=cs) (T:=S.data.toList) (op:=10) (by decide) hr hr2);have HR2:=Lib.hid hr2;clear hr hr2 hpos;go_enter Tryz.func48,Tryz.ntmps48
   go_wp2_with fail
   refine (pchild_any w0 g N i f 6 base sv nv l key wh e0 0 S cs _ w HREC.out HB.out HI.out HF.out HO.out hl HB0.out HBS.out HNN.out rfl hgN HNV.out).mono ?_;rintro e w1 hret;rw[HR1.out]at hret;obtain ⟨hk,rfl,hj,hl1,hl2,nv1,hB,hO,hob,hN⟩:=hret;simp only[jI,jY,jT]at hN;have HK1:=Lib.hid hk;have HB1:=Lib.hid hB;have HO1:=Lib.hid hO;have HOB1:=Lib.hid hob;have HN1:=Lib.hid hN;have HJ1:=Lib.hid hj;clear hk hB hO hob hN hj;have hb1:=Lib.hid (show Below w0.heap.size w0 w1 from below_kp HB0.out HK1.out (fun q h=>by
    rcases h with h|h|h
    ·have:=HX.out.hg;omega
    ·omega
    ·have:=(HO.out.ge h).1;have:=HX.out.hb;omega) HB0.out.size)
   have hnv1:=Lib.hid (show nv1.ownBlock≠some N by
    intro h
    rcases HOB1.out N h with h|h
    ·exact HNV.out h
    ·have:=HNN.out.lt;omega)
   clear n0;go_wp2_with fail
   refine (pchild_any w0 g N j f 7 base sv nv1 l1 key wh e0 0 S cs _ w1 HREC.out HB1.out HJ1.out (by have:=HF.out;omega) HO1.out hl2 hb1.out (Nat.le_trans HBS.out HK1.out.size) HN1.out rfl hgN hnv1.out).mono ?_;rintro e w2 hret;rw[HR2.out]at hret;obtain ⟨hk,rfl,j0,n0,c0,A0,hn,hB⟩:=hret;have HK2:=Lib.hid (HK1.out.then' hk (fun q hq h=>by rcases h with h | h | h;exact .inl h;exact .inr (.inl h);rcases HOB1.out q h with h | h;exact .inr (.inr h);exact absurd h (by omega)));have HB2:=Lib.hid hB;clear hk hB;go_wp2;go_ret;rw[HR.out];exact ⟨HK2.out,rfl,j0,n0,c0,A0,hn,HB2.out⟩
  | ok r =>
   obtain ⟨j2,l2⟩:=r;have HR:=Lib.hid (arg_o2 (cs:=cs) (T:=S.data.toList) (op:=10) (by decide) hr hr2);have HR2:=Lib.hid hr2;clear hr hr2 hpos;go_enter Tryz.func48,Tryz.ntmps48
   go_wp2_with fail
   refine (pchild_any w0 g N i f 6 base sv nv l key wh e0 0 S cs _ w HREC.out HB.out HI.out HF.out HO.out hl HB0.out HBS.out HNN.out rfl hgN HNV.out).mono ?_;rintro e w1 hret;rw[HR1.out]at hret;obtain ⟨hk,rfl,hj,hl1,hl2,nv1,hB,hO,hob,hN⟩:=hret;simp only[jI,jY,jT]at hN;have HK1:=Lib.hid hk;have HB1:=Lib.hid hB;have HO1:=Lib.hid hO;have HOB1:=Lib.hid hob;have HN1:=Lib.hid hN;have HJ1:=Lib.hid hj;clear hk hB hO hob hN hj;have hb1:=Lib.hid (show Below w0.heap.size w0 w1 from below_kp HB0.out HK1.out (fun q h=>by
    rcases h with h|h|h
    ·have:=HX.out.hg;omega
    ·omega
    ·have:=(HO.out.ge h).1;have:=HX.out.hb;omega) HB0.out.size)
   have hnv1:=Lib.hid (show nv1.ownBlock≠some N by
    intro h
    rcases HOB1.out N h with h|h
    ·exact HNV.out h
    ·have:=HNN.out.lt;omega)
   clear n0;go_wp2_with fail
   refine (pchild_any w0 g N j f 7 base sv nv1 l1 key wh e0 0 S cs _ w1 HREC.out HB1.out HJ1.out (by have:=HF.out;omega) HO1.out hl2 hb1.out (Nat.le_trans HBS.out HK1.out.size) HN1.out rfl hgN hnv1.out).mono ?_;rintro e w2 hret;rw[HR2.out]at hret;obtain ⟨hk,rfl,hj2,hl3,hl4,nv2,hB,hO,hob,hN⟩:=hret;simp only[jI,jY,jT]at hN;have HK2:=Lib.hid (HK1.out.then' hk (fun q hq h=>by rcases h with h | h | h;exact .inl h;exact .inr (.inl h);rcases HOB1.out q h with h | h;exact .inr (.inr h);exact absurd h (by omega)));have HB2:=Lib.hid hB;have HO2:=Lib.hid hO;have HOB2:=Lib.hid (show ∀ b,nv2.ownBlock=some b→nv.ownBlock=some b∨w.heap.size≤b from fun b h=>by
    rcases hob b h with h|h
    ·exact HOB1.out b h
    ·exact .inr (Nat.le_trans HK1.out.size h))
   have HN2:=Lib.hid hN;clear hk hB hO hob hN;go_wp2;go_ret;rw[HR.out];exact ⟨HK2.out,rfl,hj2,hl4,nv2,_,HB2.out,HO2.out,HOB2.out,HN2.out,World.ownsRow_nil _ _ _ _⟩
set_option maxRecDepth 100000 in
set_option maxHeartbeats 8000000 in
theorem prest11_any (w0:World) (g N i f base:Nat) (sv nv:Value) (l:List Nd) (key wh e0:Int) (S:ByteArray) (cs:List Col) (w:World) (hx:PCtx w0 g sv S cs base) (hrec:HNode w0 g sv key wh e0 S cs base f)
  (hB:Blk w g 54 #[sv,.int .i64 key,.string S,.int .i64 i,nv,.int .i64 wh,.int .i64 e0]) (hi:i≤S.size) (hf:S.size<i+f) (ho:OwnNd w base nv l) (hl:l.length≤64) (hb0:Below w0.heap.size w0 w) (hbase:base≤w.heap.size) (hN:Blk w N 66 #[.int .i64 11,.int .i64 0,.bool false,.int .i64 0,.string { data:=#[] },.slice none 0 0,.int .i64 0,.int .i64 0]) (hnv:nv.ownBlock≠some N) (hn0:w0.heap.size≤N) :
  Calls Tryz.prog 48 #[.pointer (some ⟨g,0,none⟩),.pointer (some ⟨N,0,none⟩)] w (RetRestP w g N sv key wh e0 S base nv (argP cs S.data.toList (parN cs S.data.toList f) 11 i l)):=by
 have hgN:g≠N:=by intro e;subst e;have:=hB.symm.trans hN;injection this with this;injection this with _ h;revert h;decide
 have HX:=Lib.hid hx;have HB0:=Lib.hid hb0;have HBS:=Lib.hid hbase;have HO:=Lib.hid ho;have HNN:=Lib.hid hN;have HB:=Lib.hid hB;have HNV:=Lib.hid hnv;have HI:=Lib.hid hi;have HF:=Lib.hid hf;have HREC:=Lib.hid hrec;have n0:=hN.cell 0;simp only[jA,jZ]at n0;clear hx hb0 hbase ho hN hB hnv hi hf hrec;cases hr:parN cs S.data.toList f i l with
 | error r =>
  obtain ⟨k,er⟩:=r;have HR1:=Lib.hid hr;have HR:=Lib.hid (arg_n1 (cs:=cs) (T:=S.data.toList) hr);clear hr;go_enter Tryz.func48,Tryz.ntmps48
  go_wp2_with fail
  refine (pchild_any w0 g N i f 6 base sv nv l key wh e0 0 S cs _ w HREC.out HB.out HI.out HF.out HO.out hl HB0.out HBS.out HNN.out rfl hgN HNV.out).mono ?_;rintro e w1 hret;rw[HR1.out]at hret;obtain ⟨hk,rfl,j0,n0,c0,A0,hn,hB⟩:=hret;have HK1:=Lib.hid (hk);have HB1:=Lib.hid hB;clear hk hB;go_wp2;go_ret;rw[HR.out];exact ⟨HK1.out,rfl,j0,n0,c0,A0,hn,HB1.out⟩
 | ok r =>
  obtain ⟨j,l1⟩:=r;have HR1:=Lib.hid hr;have HR:=Lib.hid (arg_n2 (cs:=cs) (T:=S.data.toList) hr);clear hr;go_enter Tryz.func48,Tryz.ntmps48
  go_wp2_with fail
  refine (pchild_any w0 g N i f 6 base sv nv l key wh e0 0 S cs _ w HREC.out HB.out HI.out HF.out HO.out hl HB0.out HBS.out HNN.out rfl hgN HNV.out).mono ?_;rintro e w1 hret;rw[HR1.out]at hret;obtain ⟨hk,rfl,hj,hl1,hl2,nv1,hB,hO,hob,hN⟩:=hret;simp only[jI,jY,jT]at hN;have HK1:=Lib.hid hk;have HB1:=Lib.hid hB;have HO1:=Lib.hid hO;have HOB1:=Lib.hid hob;have HN1:=Lib.hid hN;have HJ1:=Lib.hid hj;clear hk hB hO hob hN hj;clear n0;go_wp2;go_ret;rw[HR.out];exact ⟨HK1.out,rfl,HJ1.out,hl2,nv1,_,HB1.out,HO1.out,HOB1.out,HN1.out,World.ownsRow_nil _ _ _ _⟩
set_option maxRecDepth 100000 in
set_option maxHeartbeats 8000000 in
theorem prest8_any (w0:World) (g N i f base:Nat) (sv nv:Value) (l:List Nd) (key wh e0:Int) (S:ByteArray) (cs:List Col) (w:World) (hx:PCtx w0 g sv S cs base) (hrec:HNode w0 g sv key wh e0 S cs base f)
  (hB:Blk w g 54 #[sv,.int .i64 key,.string S,.int .i64 i,nv,.int .i64 wh,.int .i64 e0]) (hi:i≤S.size) (hf:S.size<i+f) (ho:OwnNd w base nv l) (hl:l.length≤64) (hb0:Below w0.heap.size w0 w) (hbase:base≤w.heap.size) (hN:Blk w N 66 #[.int .i64 8,.int .i64 0,.bool false,.int .i64 0,.string { data:=#[] },.slice none 0 0,.int .i64 0,.int .i64 0]) (hnv:nv.ownBlock≠some N) (hn0:w0.heap.size≤N) :
  Calls Tryz.prog 48 #[.pointer (some ⟨g,0,none⟩),.pointer (some ⟨N,0,none⟩)] w (RetRestP w g N sv key wh e0 S base nv (argP cs S.data.toList (parN cs S.data.toList f) 8 i l)):=by
 have hgN:g≠N:=by intro e;subst e;have:=hB.symm.trans hN;injection this with this;injection this with _ h;revert h;decide
 have HX:=Lib.hid hx;have HB0:=Lib.hid hb0;have HBS:=Lib.hid hbase;have HO:=Lib.hid ho;have HNN:=Lib.hid hN;have HB:=Lib.hid hB;have HNV:=Lib.hid hnv;have HI:=Lib.hid hi;have HF:=Lib.hid hf;have HREC:=Lib.hid hrec;have n0:=hN.cell 0;simp only[jA,jZ]at n0;clear hx hb0 hbase ho hN hB hnv hi hf hrec;have HT:=Lib.hid (show i≤S.data.toList.length by rw[size_data];exact HI.out);cases hr:colP cs S.data.toList i with
 | error r =>
  obtain ⟨k,er⟩:=r;have HR1:=Lib.hid hr;have HR:=Lib.hid (arg_l1 (cs:=cs) (T:=S.data.toList) (op:=8) (i:=i) (rec:=parN cs S.data.toList f) (acc:=l) (by omega) hr);clear hr;go_enter Tryz.func48,Tryz.ntmps48
  go_wp2_with fail
  refine (pcol_any w0 g N i sv nv (.slice none 0 0) key wh e0 8 0 0 0 0 false { data:=#[] } S cs w HB.out HNN.out HI.out HX.out.hS HX.out.hcs HB0.out HX.out.hg hn0 HX.out.hcl).mono ?_;rintro e w1 hret;rw[HR1.out]at hret;obtain ⟨hk,rfl,j0,hB⟩:=hret;have HK1:=Lib.hid ((hk).mono (S':=fun i=>i=g∨i=N∨nv.ownBlock=some i) (fun q _ h=>by rcases h with h | h;exact .inl h;exact .inr (.inl h)));have HB1:=Lib.hid hB;clear hk hB;go_wp2;go_ret;rw[HR.out];obtain ⟨A,cA,hnv,_,_⟩:=HO.out.form;subst hnv;exact ⟨HK1.out,rfl,j0,_,cA,A,hl,HB1.out⟩
 | ok r =>
  obtain ⟨j,K⟩:=r;have HR1:=Lib.hid hr;obtain ⟨c,hc⟩:=col_has hr;have HC:=Lib.hid hc;have hju:=col_upt (cs:=cs) HT.out;rw[hr]at hju;have HJ:=Lib.hid (show j≤S.size by rw[←size_data];exact hju);clear hju;have HR:=Lib.hid (arg_l8 (cs:=cs) (T:=S.data.toList) (i:=i) (rec:=parN cs S.data.toList f) (acc:=l) hr);clear hr hc;go_enter Tryz.func48,Tryz.ntmps48
  go_wp2_with fail
  refine (pcol_any w0 g N i sv nv (.slice none 0 0) key wh e0 8 0 0 0 0 false { data:=#[] } S cs w HB.out HNN.out HI.out HX.out.hS HX.out.hcs HB0.out HX.out.hg hn0 HX.out.hcl).mono ?_;rintro e w1 hret;rw[HR1.out]at hret;obtain ⟨hk,rfl,hB,hN⟩:=hret;have HK1:=Lib.hid hk;have HB1:=Lib.hid hB;have HN1:=Lib.hid hN;have HOA:=Lib.hid (HO.out.kp hk (fun b hb h=>by rcases h with h | h;exact HO.out.ne HB.out (by decide) (by rw[hb,h]);exact HNV.out (by rw[hb,h])) (fun u n xs hu b hb h=>by rcases h with h | h;exact own_blk_ne hu HB.out (by decide) (by rw[hb,h]);exact own_blk_ne hu HNN.out (by decide) (by rw[hb,h])));clear hk hB hN;clear n0;go_wp2;go_ret;rw[HR.out];exact ⟨(HK1.out).mono (S':=fun i=>i=g∨i=N∨nv.ownBlock=some i) (fun q _ h=>by rcases h with h | h;exact .inl h;exact .inr (.inl h)),rfl,HJ.out,hl,nv,_,HB1.out,HOA.out,fun b h=>.inl h,HN1.out,World.ownsRow_nil _ _ _ _⟩
set_option maxRecDepth 100000 in
set_option maxHeartbeats 8000000 in
theorem prest7_any (w0:World) (g N i f base:Nat) (sv nv:Value) (l:List Nd) (key wh e0:Int) (S:ByteArray) (cs:List Col) (w:World) (hx:PCtx w0 g sv S cs base) (hrec:HNode w0 g sv key wh e0 S cs base f)
  (hB:Blk w g 54 #[sv,.int .i64 key,.string S,.int .i64 i,nv,.int .i64 wh,.int .i64 e0]) (hi:i≤S.size) (hf:S.size<i+f) (ho:OwnNd w base nv l) (hl:l.length≤64) (hb0:Below w0.heap.size w0 w) (hbase:base≤w.heap.size) (hN:Blk w N 66 #[.int .i64 7,.int .i64 0,.bool false,.int .i64 0,.string { data:=#[] },.slice none 0 0,.int .i64 0,.int .i64 0]) (hnv:nv.ownBlock≠some N) (hn0:w0.heap.size≤N) :
  Calls Tryz.prog 48 #[.pointer (some ⟨g,0,none⟩),.pointer (some ⟨N,0,none⟩)] w (RetRestP w g N sv key wh e0 S base nv (argP cs S.data.toList (parN cs S.data.toList f) 7 i l)):=by
 have hgN:g≠N:=by intro e;subst e;have:=hB.symm.trans hN;injection this with this;injection this with _ h;revert h;decide
 have HX:=Lib.hid hx;have HB0:=Lib.hid hb0;have HBS:=Lib.hid hbase;have HO:=Lib.hid ho;have HNN:=Lib.hid hN;have HB:=Lib.hid hB;have HNV:=Lib.hid hnv;have HI:=Lib.hid hi;have HF:=Lib.hid hf;have HREC:=Lib.hid hrec;have n0:=hN.cell 0;simp only[jA,jZ]at n0;clear hx hb0 hbase ho hN hB hnv hi hf hrec;have HT:=Lib.hid (show i≤S.data.toList.length by rw[size_data];exact HI.out);cases hr:colP cs S.data.toList i with
 | error r =>
  obtain ⟨k,er⟩:=r;have HR1:=Lib.hid hr;have HR:=Lib.hid (arg_l1 (cs:=cs) (T:=S.data.toList) (op:=7) (i:=i) (rec:=parN cs S.data.toList f) (acc:=l) (by omega) hr);clear hr;go_enter Tryz.func48,Tryz.ntmps48
  go_wp2_with fail
  refine (pcol_any w0 g N i sv nv (.slice none 0 0) key wh e0 7 0 0 0 0 false { data:=#[] } S cs w HB.out HNN.out HI.out HX.out.hS HX.out.hcs HB0.out HX.out.hg hn0 HX.out.hcl).mono ?_;rintro e w1 hret;rw[HR1.out]at hret;obtain ⟨hk,rfl,j0,hB⟩:=hret;have HK1:=Lib.hid ((hk).mono (S':=fun i=>i=g∨i=N∨nv.ownBlock=some i) (fun q _ h=>by rcases h with h | h;exact .inl h;exact .inr (.inl h)));have HB1:=Lib.hid hB;clear hk hB;go_wp2;go_ret;rw[HR.out];obtain ⟨A,cA,hnv,_,_⟩:=HO.out.form;subst hnv;exact ⟨HK1.out,rfl,j0,_,cA,A,hl,HB1.out⟩
 | ok r =>
  obtain ⟨j,K⟩:=r;have HR1:=Lib.hid hr;obtain ⟨c,hc⟩:=col_has hr;have HC:=Lib.hid hc;have hju:=col_upt (cs:=cs) HT.out;rw[hr]at hju;have HJ:=Lib.hid (show j≤S.size by rw[←size_data];exact hju);clear hju;cases hr2:lstP c S.data.toList 17 j [] with
  | error r =>
   obtain ⟨k,er⟩:=r;have HR:=Lib.hid (arg_l7e (cs:=cs) (T:=S.data.toList) (i:=i) (rec:=parN cs S.data.toList f) (acc:=l) hr hc hr2);have HR2:=Lib.hid hr2;clear hr hr2 hc;go_enter Tryz.func48,Tryz.ntmps48
   go_wp2_with fail
   refine (pcol_any w0 g N i sv nv (.slice none 0 0) key wh e0 7 0 0 0 0 false { data:=#[] } S cs w HB.out HNN.out HI.out HX.out.hS HX.out.hcs HB0.out HX.out.hg hn0 HX.out.hcl).mono ?_;rintro e w1 hret;rw[HR1.out]at hret;obtain ⟨hk,rfl,hB,hN⟩:=hret;have HK1:=Lib.hid hk;have HB1:=Lib.hid hB;have HN1:=Lib.hid hN;have HOA:=Lib.hid (HO.out.kp hk (fun b hb h=>by rcases h with h | h;exact HO.out.ne HB.out (by decide) (by rw[hb,h]);exact HNV.out (by rw[hb,h])) (fun u n xs hu b hb h=>by rcases h with h | h;exact own_blk_ne hu HB.out (by decide) (by rw[hb,h]);exact own_blk_ne hu HNN.out (by decide) (by rw[hb,h])));clear hk hB hN;have hb1:=Lib.hid (show Below w0.heap.size w0 w1 from below_kp HB0.out HK1.out (fun q h=>by
    rcases h with h|h
    ·have:=HX.out.hg;omega
    ·omega) HB0.out.size)
   clear n0;go_wp2_with fail
   refine (plist_any w0 g N j K sv nv key wh e0 7 0 0 0 false { data:=#[] } S cs c w1 HB1.out HN1.out HJ.out HX.out.hS HX.out.hcs HX.out.hE hb1.out HX.out.hg hn0 HX.out.hcl HC.out).mono ?_;rintro e w2 hret;rw[HR2.out]at hret;obtain ⟨hk,rfl,j0,hB⟩:=hret;have HK2:=Lib.hid ((HK1.out.trans hk).mono (S':=fun i=>i=g∨i=N∨nv.ownBlock=some i) (fun q _ h=>by rcases h with h | h;exact .inl h;exact .inr (.inl h)));have HB2:=Lib.hid hB;clear hk hB;go_wp2;go_ret;rw[HR.out];obtain ⟨A,cA,hnv,_,_⟩:=HO.out.form;subst hnv;exact ⟨HK2.out,rfl,j0,_,cA,A,hl,HB2.out⟩
  | ok r =>
   obtain ⟨j2,y⟩:=r;have HR:=Lib.hid (arg_l7o (cs:=cs) (T:=S.data.toList) (i:=i) (rec:=parN cs S.data.toList f) (acc:=l) hr hc hr2);have HR2:=Lib.hid hr2;have hju:=lst_upt (c:=c) (T:=S.data.toList) 17 j [] (by rw[size_data];exact HJ.out);rw[hr2]at hju;have HJ2:=Lib.hid (show j2≤S.size by rw[←size_data];exact hju);clear hju;clear hr hr2 hc;go_enter Tryz.func48,Tryz.ntmps48
   go_wp2_with fail
   refine (pcol_any w0 g N i sv nv (.slice none 0 0) key wh e0 7 0 0 0 0 false { data:=#[] } S cs w HB.out HNN.out HI.out HX.out.hS HX.out.hcs HB0.out HX.out.hg hn0 HX.out.hcl).mono ?_;rintro e w1 hret;rw[HR1.out]at hret;obtain ⟨hk,rfl,hB,hN⟩:=hret;have HK1:=Lib.hid hk;have HB1:=Lib.hid hB;have HN1:=Lib.hid hN;have HOA:=Lib.hid (HO.out.kp hk (fun b hb h=>by rcases h with h | h;exact HO.out.ne HB.out (by decide) (by rw[hb,h]);exact HNV.out (by rw[hb,h])) (fun u n xs hu b hb h=>by rcases h with h | h;exact own_blk_ne hu HB.out (by decide) (by rw[hb,h]);exact own_blk_ne hu HNN.out (by decide) (by rw[hb,h])));clear hk hB hN;have hb1:=Lib.hid (show Below w0.heap.size w0 w1 from below_kp HB0.out HK1.out (fun q h=>by
    rcases h with h|h
    ·have:=HX.out.hg;omega
    ·omega) HB0.out.size)
   clear n0;go_wp2_with fail
   refine (plist_any w0 g N j K sv nv key wh e0 7 0 0 0 false { data:=#[] } S cs c w1 HB1.out HN1.out HJ.out HX.out.hS HX.out.hcs HX.out.hE hb1.out HX.out.hg hn0 HX.out.hcl HC.out).mono ?_;rintro e w2 hret;rw[HR2.out]at hret;obtain ⟨hk,rfl,hB,lu,hN,hrow⟩:=hret;have HK2:=Lib.hid (HK1.out.trans hk);have HB2:=Lib.hid hB;have HN2:=Lib.hid hN;have HRW:=Lib.hid hrow;have HOB:=Lib.hid (HOA.out.kp hk (fun b hb h=>by rcases h with h | h;exact HO.out.ne HB.out (by decide) (by rw[hb,h]);exact HNV.out (by rw[hb,h])) (fun u n xs hu b hb h=>by rcases h with h | h;exact own_blk_ne hu HB1.out (by decide) (by rw[hb,h]);exact own_blk_ne hu HN1.out (by decide) (by rw[hb,h])));clear hk hB hN hrow;go_wp2;go_ret;rw[HR.out];exact ⟨(HK2.out).mono (S':=fun i=>i=g∨i=N∨nv.ownBlock=some i) (fun q _ h=>by rcases h with h | h;exact .inl h;exact .inr (.inl h)),rfl,HJ2.out,hl,nv,_,HB2.out,HOB.out,fun b h=>.inl h,HN2.out,own_mono HRW.out (Nat.le_trans HBS.out HK1.out.size)⟩
set_option maxRecDepth 100000 in
set_option maxHeartbeats 8000000 in
theorem prestV_any (w0:World) (g N i f base o:Nat) (sv nv:Value) (l:List Nd) (key wh e0:Int) (S:ByteArray) (cs:List Col) (w:World) (hx:PCtx w0 g sv S cs base) (hrec:HNode w0 g sv key wh e0 S cs base f)
  (hB:Blk w g 54 #[sv,.int .i64 key,.string S,.int .i64 i,nv,.int .i64 wh,.int .i64 e0]) (hi:i≤S.size) (hf:S.size<i+f) (ho:OwnNd w base nv l) (hl:l.length≤64) (hb0:Below w0.heap.size w0 w) (hbase:base≤w.heap.size) (hN:Blk w N 66 #[.int .i64 (o:Int),.int .i64 0,.bool false,.int .i64 0,.string { data:=#[] },.slice none 0 0,.int .i64 0,.int .i64 0]) (hnv:nv.ownBlock≠some N) (hn0:w0.heap.size≤N) (h1:1≤o) (h6:o≤6) :
  Calls Tryz.prog 48 #[.pointer (some ⟨g,0,none⟩),.pointer (some ⟨N,0,none⟩)] w (RetRestP w g N sv key wh e0 S base nv (argP cs S.data.toList (parN cs S.data.toList f) o i l)):=by
 have hgN:g≠N:=by intro e;subst e;have:=hB.symm.trans hN;injection this with this;injection this with _ h;revert h;decide
 have HX:=Lib.hid hx;have HB0:=Lib.hid hb0;have HBS:=Lib.hid hbase;have HO:=Lib.hid ho;have HNN:=Lib.hid hN;have HB:=Lib.hid hB;have HNV:=Lib.hid hnv;have HI:=Lib.hid hi;have HF:=Lib.hid hf;have HREC:=Lib.hid hrec;have n0:=hN.cell 0;simp only[jA,jZ]at n0;clear hx hb0 hbase ho hN hB hnv hi hf hrec;have q7:((o:Int)==7)=false:=by rw[beq_eq_false_iff_ne];omega
 have q8:((o:Int)==8)=false:=by rw[beq_eq_false_iff_ne];omega
 have q9:((o:Int)==9)=false:=by rw[beq_eq_false_iff_ne];omega
 have q10:((o:Int)==10)=false:=by rw[beq_eq_false_iff_ne];omega
 have q11:((o:Int)==11)=false:=by rw[beq_eq_false_iff_ne];omega
 have HT:=Lib.hid (show i≤S.data.toList.length by rw[size_data];exact HI.out);cases hr:colP cs S.data.toList i with
 | error r =>
  obtain ⟨k,er⟩:=r;have HR1:=Lib.hid hr;have HR:=Lib.hid (arg_l1 (cs:=cs) (T:=S.data.toList) (op:=o) (i:=i) (rec:=parN cs S.data.toList f) (acc:=l) (by omega) hr);clear hr;go_enter Tryz.func48,Tryz.ntmps48
  go_wp2_with fail
  refine (pcol_any w0 g N i sv nv (.slice none 0 0) key wh e0 (o:Int) 0 0 0 0 false { data:=#[] } S cs w HB.out HNN.out HI.out HX.out.hS HX.out.hcs HB0.out HX.out.hg hn0 HX.out.hcl).mono ?_;rintro e w1 hret;rw[HR1.out]at hret;obtain ⟨hk,rfl,j0,hB⟩:=hret;have HK1:=Lib.hid ((hk).mono (S':=fun i=>i=g∨i=N∨nv.ownBlock=some i) (fun q _ h=>by rcases h with h | h;exact .inl h;exact .inr (.inl h)));have HB1:=Lib.hid hB;clear hk hB;go_wp2;go_ret;rw[HR.out];obtain ⟨A,cA,hnv,_,_⟩:=HO.out.form;subst hnv;exact ⟨HK1.out,rfl,j0,_,cA,A,hl,HB1.out⟩
 | ok r =>
  obtain ⟨j,K⟩:=r;have HR1:=Lib.hid hr;obtain ⟨c,hc⟩:=col_has hr;have HC:=Lib.hid hc;have hju:=col_upt (cs:=cs) HT.out;rw[hr]at hju;have HJ:=Lib.hid (show j≤S.size by rw[←size_data];exact hju);clear hju;cases hr2:valC c S.data.toList j with
  | error r =>
   obtain ⟨k,er⟩:=r;have HR:=Lib.hid (arg_lve (cs:=cs) (T:=S.data.toList) (i:=i) (rec:=parN cs S.data.toList f) (acc:=l) h6 hr hc hr2);have HR2:=Lib.hid hr2;clear hr hr2 hc;go_enter Tryz.func48,Tryz.ntmps48
   go_wp2_with fail
   refine (pcol_any w0 g N i sv nv (.slice none 0 0) key wh e0 (o:Int) 0 0 0 0 false { data:=#[] } S cs w HB.out HNN.out HI.out HX.out.hS HX.out.hcs HB0.out HX.out.hg hn0 HX.out.hcl).mono ?_;rintro e w1 hret;rw[HR1.out]at hret;obtain ⟨hk,rfl,hB,hN⟩:=hret;have HK1:=Lib.hid hk;have HB1:=Lib.hid hB;have HN1:=Lib.hid hN;have HOA:=Lib.hid (HO.out.kp hk (fun b hb h=>by rcases h with h | h;exact HO.out.ne HB.out (by decide) (by rw[hb,h]);exact HNV.out (by rw[hb,h])) (fun u n xs hu b hb h=>by rcases h with h | h;exact own_blk_ne hu HB.out (by decide) (by rw[hb,h]);exact own_blk_ne hu HNN.out (by decide) (by rw[hb,h])));clear hk hB hN;have hb1:=Lib.hid (show Below w0.heap.size w0 w1 from below_kp HB0.out HK1.out (fun q h=>by
    rcases h with h|h
    ·have:=HX.out.hg;omega
    ·omega) HB0.out.size)
   clear n0;go_wp2_with fail
   refine (pval_any w0 g N j K sv nv (.slice none 0 0) key wh e0 (o:Int) 0 0 0 false { data:=#[] } S cs c w1 HB1.out HN1.out HJ.out HX.out.hS HX.out.hcs HX.out.hE hb1.out HX.out.hg hn0 HX.out.hcl HC.out).mono ?_;rintro e w2 hret;rw[HR2.out]at hret;obtain ⟨hk,rfl,j0,hB⟩:=hret;have HK2:=Lib.hid ((HK1.out.trans hk).mono (S':=fun i=>i=g∨i=N∨nv.ownBlock=some i) (fun q _ h=>by rcases h with h | h;exact .inl h;exact .inr (.inl h)));have HB2:=Lib.hid hB;clear hk hB;go_wp2;go_ret;rw[HR.out];obtain ⟨A,cA,hnv,_,_⟩:=HO.out.form;subst hnv;exact ⟨HK2.out,rfl,j0,_,cA,A,hl,HB2.out⟩
  | ok r =>
   obtain ⟨j2,y⟩:=r;have HR:=Lib.hid (arg_lvo (cs:=cs) (T:=S.data.toList) (i:=i) (rec:=parN cs S.data.toList f) (acc:=l) h6 hr hc hr2);have HR2:=Lib.hid hr2;have hju:=val_upt (c:=c) (T:=S.data.toList) (i:=j) (by rw[size_data];exact HJ.out);rw[hr2]at hju;have HJ2:=Lib.hid (show j2≤S.size by rw[←size_data];exact hju);clear hju;clear hr hr2 hc;go_enter Tryz.func48,Tryz.ntmps48
   go_wp2_with fail
   refine (pcol_any w0 g N i sv nv (.slice none 0 0) key wh e0 (o:Int) 0 0 0 0 false { data:=#[] } S cs w HB.out HNN.out HI.out HX.out.hS HX.out.hcs HB0.out HX.out.hg hn0 HX.out.hcl).mono ?_;rintro e w1 hret;rw[HR1.out]at hret;obtain ⟨hk,rfl,hB,hN⟩:=hret;have HK1:=Lib.hid hk;have HB1:=Lib.hid hB;have HN1:=Lib.hid hN;have HOA:=Lib.hid (HO.out.kp hk (fun b hb h=>by rcases h with h | h;exact HO.out.ne HB.out (by decide) (by rw[hb,h]);exact HNV.out (by rw[hb,h])) (fun u n xs hu b hb h=>by rcases h with h | h;exact own_blk_ne hu HB.out (by decide) (by rw[hb,h]);exact own_blk_ne hu HNN.out (by decide) (by rw[hb,h])));clear hk hB hN;have hb1:=Lib.hid (show Below w0.heap.size w0 w1 from below_kp HB0.out HK1.out (fun q h=>by
    rcases h with h|h
    ·have:=HX.out.hg;omega
    ·omega) HB0.out.size)
   clear n0;go_wp2_with fail
   refine (pval_any w0 g N j K sv nv (.slice none 0 0) key wh e0 (o:Int) 0 0 0 false { data:=#[] } S cs c w1 HB1.out HN1.out HJ.out HX.out.hS HX.out.hcs HX.out.hE hb1.out HX.out.hg hn0 HX.out.hcl HC.out).mono ?_;rintro e w2 hret;rw[HR2.out]at hret;obtain ⟨hk,rfl,hB,hN⟩:=hret;have HK2:=Lib.hid (HK1.out.trans hk);have HB2:=Lib.hid hB;have HN2:=Lib.hid hN;have HOB:=Lib.hid (HOA.out.kp hk (fun b hb h=>by rcases h with h | h;exact HO.out.ne HB.out (by decide) (by rw[hb,h]);exact HNV.out (by rw[hb,h])) (fun u n xs hu b hb h=>by rcases h with h | h;exact own_blk_ne hu HB1.out (by decide) (by rw[hb,h]);exact own_blk_ne hu HN1.out (by decide) (by rw[hb,h])));clear hk hB hN;go_wp2;go_ret;rw[HR.out];exact ⟨(HK2.out).mono (S':=fun i=>i=g∨i=N∨nv.ownBlock=some i) (fun q _ h=>by rcases h with h | h;exact .inl h;exact .inr (.inl h)),rfl,HJ2.out,hl,nv,_,HB2.out,HOB.out,fun b h=>.inl h,HN2.out,World.ownsRow_nil _ _ _ _⟩
open Go.RowKit Go.Sort

section
variable {cs:List Col} {T:List UInt8} {f i i1 i2 i3:Nat} {acc a2:List Nd} {e:Nat×Int} {x:Nd}
theorem par_e1 (h1:expP T 40 i=.error e):parN cs T (f+1) i acc=.error e:=by unfold parN;rw[h1]
theorem par_w0 (h1:expP T 40 i=.ok i1) (h2:opW (wd T (sk T i1))=0):parN cs T (f+1) i acc=.error (sk T i1,2):=by
 unfold parN;rw[h1]
 show (if opW (wd T (sk T i1))=0 then _ else _)=_
 rw[if_pos h2]
theorem par_go (h1:expP T 40 i=.ok i1) (h2:opW (wd T (sk T i1))≠0):parN cs T (f+1) i acc=(match argP cs T (parN cs T f) (opW (wd T (sk T i1))) (we T (sk T i1)) acc with
    | .error e=>.error e
    | .ok (i2,x,a2)=>match expP T 41 i2 with
     | .error e=>.error e
     | .ok i3=>if a2.length=64 then .error (i3 - 1,7) else .ok (i3,a2 ++ [x])):=by
 rw[parN,h1];show (if opW (wd T (sk T i1))=0 then _ else _)=_
 rw[if_neg h2];rfl
theorem par_a (h1:expP T 40 i=.ok i1) (h2:opW (wd T (sk T i1))≠0) (h3:argP cs T (parN cs T f) (opW (wd T (sk T i1))) (we T (sk T i1)) acc=.error e):parN cs T (f+1) i acc=.error e:=by rw[par_go h1 h2,h3]
theorem par_c (h1:expP T 40 i=.ok i1) (h2:opW (wd T (sk T i1))≠0) (h3:argP cs T (parN cs T f) (opW (wd T (sk T i1))) (we T (sk T i1)) acc=.ok (i2,x,a2)) (h4:expP T 41 i2=.error e):parN cs T (f+1) i acc=.error e:=by
 rw[par_go h1 h2,h3];dsimp only;rw[h4]
theorem par_f (h1:expP T 40 i=.ok i1) (h2:opW (wd T (sk T i1))≠0) (h3:argP cs T (parN cs T f) (opW (wd T (sk T i1))) (we T (sk T i1)) acc=.ok (i2,x,a2)) (h4:expP T 41 i2=.ok i3) (h5:a2.length=64):parN cs T (f+1) i acc=.error (i3 - 1,7):=by
 rw[par_go h1 h2,h3];dsimp only;rw[h4];show (if a2.length=64 then _ else _)=_
 rw[if_pos h5]
theorem par_o (h1:expP T 40 i=.ok i1) (h2:opW (wd T (sk T i1))≠0) (h3:argP cs T (parN cs T f) (opW (wd T (sk T i1))) (we T (sk T i1)) acc=.ok (i2,x,a2)) (h4:expP T 41 i2=.ok i3) (h5:a2.length≠64):parN cs T (f+1) i acc=.ok (i3,a2 ++ [x]):=by
 rw[par_go h1 h2,h3];dsimp only;rw[h4];show (if a2.length=64 then _ else _)=_
 rw[if_neg h5]
end
theorem prest_any (w0:World) (g N i f base o:Nat) (sv nv:Value) (l:List Nd) (key wh e0:Int) (S:ByteArray) (cs:List Col) (w:World) (hx:PCtx w0 g sv S cs base) (hrec:HNode w0 g sv key wh e0 S cs base f)
  (hB:Blk w g 54 #[sv,.int .i64 key,.string S,.int .i64 i,nv,.int .i64 wh,.int .i64 e0]) (hi:i≤S.size) (hf:S.size<i+f) (ho:OwnNd w base nv l) (hl:l.length≤64) (hb0:Below w0.heap.size w0 w) (hbase:base≤w.heap.size) (hN:Blk w N 66 #[.int .i64 (o:Int),.int .i64 0,.bool false,.int .i64 0,.string { data:=#[] },.slice none 0 0,.int .i64 0,.int .i64 0]) (hnv:nv.ownBlock≠some N) (hn0:w0.heap.size≤N) (h1:o≠0) (h11:o≤11) :
  Calls Tryz.prog 48 #[.pointer (some ⟨g,0,none⟩),.pointer (some ⟨N,0,none⟩)] w (RetRestP w g N sv key wh e0 S base nv (argP cs S.data.toList (parN cs S.data.toList f) o i l)):=by
 by_cases h6:o≤6
 ·exact prestV_any w0 g N i f base o sv nv l key wh e0 S cs w hx hrec hB hi hf ho hl hb0 hbase hN hnv hn0 (by omega) h6
 ·obtain rfl | rfl | rfl | rfl | rfl:o=7∨o=8∨o=9∨o=10∨o=11:=by omega
  ·exact prest7_any w0 g N i f base sv nv l key wh e0 S cs w hx hrec hB hi hf ho hl hb0 hbase hN hnv hn0
  ·exact prest8_any w0 g N i f base sv nv l key wh e0 S cs w hx hrec hB hi hf ho hl hb0 hbase hN hnv hn0
  ·exact prest9_any w0 g N i f base sv nv l key wh e0 S cs w hx hrec hB hi hf ho hl hb0 hbase hN hnv hn0
  ·exact prest10_any w0 g N i f base sv nv l key wh e0 S cs w hx hrec hB hi hf ho hl hb0 hbase hN hnv hn0
  ·exact prest11_any w0 g N i f base sv nv l key wh e0 S cs w hx hrec hB hi hf ho hl hb0 hbase hN hnv hn0
theorem exp_le {T:List UInt8} {b:UInt8} {i j:Nat} (h:expP T b i=.ok j):i<j∧j≤T.length:=⟨(expP_ok h).2.2.1,(expP_ok h).2.2.2⟩
theorem Kp.one {g:Nat} {nv:Value} {w a b:World} (h:Kp (fun i=>i=g∨nv.ownBlock=some i) w a) (k:Only g a b):Kp (fun i=>i=g∨nv.ownBlock=some i) w b:=h.only k (.inl (.inl rfl))
theorem OwnNd.onlyP {w w':World} {base g:Nat} {v:Value} {l:List Nd} {cs:Array Value} (h:OwnNd w base v l) (hb:Blk w g 54 cs) (k:Only g w w'):OwnNd w' base v l:=h.turn k (h.ne hb (by decide)) hb (by decide)
set_option maxRecDepth 100000 in
set_option maxHeartbeats 8000000 in
theorem pnode_step (w0:World) (g f base:Nat) (sv:Value) (key wh e0:Int) (S:ByteArray) (cs:List Col) (hx:PCtx w0 g sv S cs base) (hrec:HNode w0 g sv key wh e0 S cs base f):HNode w0 g sv key wh e0 S cs base (f+1):=by
 intro i nv l w hB hi hf ho hl hb0 hbase
 have HX:=Lib.hid hx;have HREC:=Lib.hid hrec;have HB:=Lib.hid hB;have HO:=Lib.hid ho;have HB0:=Lib.hid hb0;have HBS:=Lib.hid hbase;have HF:=Lib.hid hf;have HI:=Lib.hid hi;clear hx hrec hB ho hb0 hbase hf hi;cases h1:expP S.data.toList 40 i with
 | error r =>
  obtain ⟨k,er⟩:=r;have HE1:=Lib.hid h1;have HR:=Lib.hid (par_e1 (cs:=cs) (f:=f) (acc:=l) h1);clear h1;go_enter Tryz.func23,Tryz.ntmps23
  go_wp2_with fail
  refine (pexp_any g i sv nv key wh e0 S 40 w HB.out HI.out HX.out.hS).mono ?_;rintro e w1 hret;unfold RetExp at hret
  rw[HE1.out]at hret;obtain ⟨ho,rfl,j0,hB⟩:=hret;have HO1:=Lib.hid ho;have HB1:=Lib.hid hB;clear ho hB;go_wp2;go_ret;rw[HR.out];obtain ⟨A,cA,hnv,_,_⟩:=HO.out.form;subst hnv;exact ⟨Kp.refl.one HO1.out,rfl,j0,_,cA,A,hl,HB1.out⟩
 | ok i1 =>
  have HE1:=Lib.hid h1;obtain ⟨hi1,hi2⟩:=exp_le h1;rw[size_data]at hi2;obtain ⟨k,hk⟩:∃ k,sk S.data.toList i1=k:=⟨_,rfl⟩
  obtain ⟨m,hm⟩:∃ m,we S.data.toList k=m:=⟨_,rfl⟩
  have hkS:k≤S.size:=by rw[←hk,←size_data];exact sk_le (by rw[size_data];exact hi2)
  have hmS:m≤S.size:=by rw[←hm,←size_data];exact we_le (by rw[size_data];exact hkS)
  have hkm:i1≤m:=by have:=sk_ge S.data.toList i1;have:=we_ge S.data.toList k;omega
  obtain ⟨o,ho⟩:∃ o,opW (wd S.data.toList k)=o:=⟨_,rfl⟩
  have ho11:o≤11:=by rw[←ho];exact opW_le _
  have HP0:=Lib.hid (par_w0 (cs:=cs) (f:=f) (acc:=l) h1);have HPA:=Lib.hid (fun e=>par_a (cs:=cs) (f:=f) (acc:=l) (e:=e) h1);have HPC:=Lib.hid (fun i2 x a2 e=>par_c (cs:=cs) (f:=f) (acc:=l) (i2:=i2) (x:=x) (a2:=a2) (e:=e) h1);have HPF:=Lib.hid (fun i2 x a2 i3=>par_f (cs:=cs) (f:=f) (acc:=l) (i2:=i2) (x:=x) (a2:=a2) (i3:=i3) h1);have HPO:=Lib.hid (fun i2 x a2 i3=>par_o (cs:=cs) (f:=f) (acc:=l) (i2:=i2) (x:=x) (a2:=a2) (i3:=i3) h1);have HWD:=Lib.hid (fun (w:World) (hB:Blk w g 54 #[sv,.int .i64 key,.string S,.int .i64 i1,nv,.int .i64 wh,.int .i64 e0])=>pword_any g i1 sv nv key wh e0 S w hB hi2 HX.out.hS);unfold RetWord at HWD
  rw[hk,hm]at HWD;rw[hk,ho]at HP0;rw[hk,ho,hm]at HPA HPC HPF HPO;have HOP:=Lib.hid ho;clear h1 hk hm ho;go_enter Tryz.func23,Tryz.ntmps23
  go_wp2_with fail
  refine (pexp_any g i sv nv key wh e0 S 40 w HB.out HI.out HX.out.hS).mono ?_;rintro e w1 hret;unfold RetExp at hret
  rw[HE1.out]at hret;obtain ⟨ho,rfl,hB⟩:=hret;have HK1:=Lib.hid ((Kp.refl (S:=fun i=>i=g∨nv.ownBlock=some i) (w:=w)).one ho);have HO1:=Lib.hid (HO.out.onlyP HB.out ho);have HB1:=Lib.hid hB;clear ho hB;go_wp2_with fail
  refine (HWD.out w1 HB1.out).mono ?_;rintro _ w2 ⟨W,hW,rfl,hB,ho⟩;have HK2:=Lib.hid (HK1.out.one ho);have HO2:=Lib.hid (HO1.out.onlyP HB1.out ho);have HB2:=Lib.hid hB;have HW:=Lib.hid (show opW W.data.toList=o by rw[hW];exact HOP.out);clear ho hB hW HWD HOP HO1 HK1 HB1;go_wp2_with fail
  refine (pwords_any w2).mono ?_;rintro _ w3 ⟨q,rfl,hq,hQ,hb3⟩;have HK3:=Lib.hid (HK2.out.below hb3);have HO3:=Lib.hid (HO2.out.below hb3);have HB3:=Lib.hid (HB2.out.below hb3 HB2.out.lt);have HQ:=Lib.hid hQ;clear hq hQ hb3 HK2 HO2 HB2;go_wp2_with fail
  refine (pidx_any q W w3 HQ.out).mono ?_;rintro _ w4 ⟨rfl,hb4⟩;have HK4:=Lib.hid (HK3.out.below hb4);have HO4:=Lib.hid (HO3.out.below hb4);have HB4:=Lib.hid (HB3.out.below hb4 HB3.out.lt);clear hb4 HQ HK3 HO3 HB3;rw[HW.out];have wo:IntKind.i64.wrap ((o:Int) - 1+1)=(o:Int):=by rw[show (o:Int) - 1+1=(o:Int) by omega];exact IntWalk.i64_in _ (by omega)
  obtain ⟨W5,hW5⟩:∃ W5,W5=w4.alloc (.cells #[.int .i64 (o:Int),.int .i64 0,.bool false,.int .i64 0,.string { data:=#[] },.slice none 0 0,.int .i64 0,.int .i64 0] 66):=⟨_,rfl⟩
  obtain ⟨N,hN⟩:∃ N,w4.heap.size=N:=⟨_,rfl⟩
  have hwN:w.heap.size≤N:=by rw[←hN];exact HK4.out.size
  have HN5:=Lib.hid (show Blk W5 N 66 #[.int .i64 (o:Int),.int .i64 0,.bool false,.int .i64 0,.string { data:=#[] },.slice none 0 0,.int .i64 0,.int .i64 0] by rw[hW5,←hN];exact Blk.new _ _ _);have HK5:=Lib.hid (show Kp (fun i=>i=g∨nv.ownBlock=some i) w W5 by rw[hW5];exact HK4.out.alloc _);have HO5:=Lib.hid (show OwnNd W5 base nv l by rw[hW5];exact HO4.out.below (below_new _ _));have HB5:=Lib.hid (show Blk W5 g 54 #[sv,.int .i64 key,.string S,.int .i64 m,nv,.int .i64 wh,.int .i64 e0] by rw[hW5];exact HB4.out.alloc _);have hnvN:=Lib.hid (show nv.ownBlock≠some N by intro h;have:=(HO4.out.ge h).2;omega);have hgN:g≠N:=by have:=HB4.out.lt;omega
  have HBL5:=Lib.hid (show Below w0.heap.size w0 W5 from below_kp HB0.out HK5.out (fun q h=>by
   rcases h with h|h
   ·have:=HX.out.hg;omega
   ·have:=(HO.out.ge h).1;have:=HX.out.hb;omega) HB0.out.size)
  have hn0:w0.heap.size≤N:=by have:=HB0.out.size;omega
  go_upto_region 5 with (fail)
  rw[←hW5];try simp only[hN]
  clear hW5 hN HK4 HO4 HB4;have n0:=HN5.out.cell 0;simp only[jA,jZ]at n0;by_cases ho0:o=0
  ·have q0:((o:Int)==0)=true:=by rw[beq_iff_eq];omega
   have HR:=Lib.hid (HP0.out ho0);clear HP0 HPA HPC HPF HPO;go_wp2_with fail
   refine (pfail_any g m sv nv key wh e0 _ _ S W5 HB5.out).mono ?_;rintro _ w6 ⟨rfl,hB,ho⟩;have HB6:=Lib.hid hB;have HK6:=Lib.hid (HK5.out.one ho);clear hB ho;go_wp2;go_ret;rw[HR.out];obtain ⟨A,cA,hnv,_,_⟩:=HO.out.form;subst hnv;exact ⟨HK6.out,rfl,m,_,cA,A,hl,HB6.out⟩
  ·have q0:((o:Int)==0)=false:=by rw[beq_eq_false_iff_ne];omega
   have HRS:=Lib.hid (prest_any w0 g N m f base o sv nv l key wh e0 S cs W5 HX.out HREC.out HB5.out hmS (by have:=HF.out;omega) HO5.out hl HBL5.out (Nat.le_trans HBS.out HK5.out.size) HN5.out hnvN.out hn0 ho0 ho11);clear HP0;cases ha:argP cs S.data.toList (parN cs S.data.toList f) o m l with
   | error r =>
    obtain ⟨k2,er⟩:=r;have HA:=Lib.hid ha;have HR:=Lib.hid (HPA.out (k2,er) ho0 ha);clear ha HPA HPC HPF HPO;go_wp2_with fail
    refine HRS.out.mono ?_;rintro e w6 hret;rw[HA.out]at hret;obtain ⟨hk,rfl,j0,n1,c1,A1,hn1,hB⟩:=hret;have HB6:=Lib.hid hB;have HK6:=Lib.hid (HK5.out.then' hk (fun q hq h=>by rcases h with h | h | h;exact .inl h;exact absurd h (by omega);exact .inr h));clear hk hB n0;go_wp2;go_ret;rw[HR.out];exact ⟨HK6.out,rfl,j0,n1,c1,A1,hn1,HB6.out⟩
   | ok r =>
    obtain ⟨i2,x,a2⟩:=r;have HA:=Lib.hid ha;have hA2:=ha;have HPC:=Lib.hid (fun e=>HPC.out i2 x a2 e ho0 hA2);have HPF:=Lib.hid (fun i3=>HPF.out i2 x a2 i3 ho0 hA2);have HPO:=Lib.hid (fun i3=>HPO.out i2 x a2 i3 ho0 hA2);clear ha hA2 HPA;go_wp2_with fail
    refine HRS.out.mono ?_;rintro e w6 hret;rw[HA.out]at hret;obtain ⟨hk,rfl,hi2S,ha2,nv6,u,hB,hO,hob,hN,hu⟩:=hret;have HK6:=Lib.hid (HK5.out.then' hk (fun q hq h=>by rcases h with h | h | h;exact .inl h;exact absurd h (by omega);exact .inr h));have HB6:=Lib.hid hB;have HO6:=Lib.hid hO;have HOB6:=Lib.hid (show ∀ b,nv6.ownBlock=some b→nv.ownBlock=some b∨w.heap.size≤b from fun b h=>by
     rcases hob b h with h|h
     ·exact .inl h
     ·exact .inr (Nat.le_trans HK5.out.size h))
    have HN6:=Lib.hid hN;have HU6:=Lib.hid hu;have HNV6:=Lib.hid (show nv6.ownBlock≠some N from fun h=>by
     rcases hob N h with h|h
     ·exact hnvN.out h
     ·have:=HN5.out.lt;omega)
    obtain ⟨A6,c6,rfl,hc61,hc62⟩:=hO.form;obtain ⟨AU,cU,rfl,hcu1,hcu2⟩:=(Sl.of_own hu).form;clear hk hB hO hob hN hu n0 HRS HA;go_wp2_with fail
    refine (pexp_any g i2 sv _ key wh e0 S 41 w6 HB6.out hi2S HX.out.hS).mono ?_;rintro e w7 hret;unfold RetExp at hret
    cases h3:expP S.data.toList 41 i2 with
    | error r =>
     obtain ⟨k3,er⟩:=r;rw[h3]at hret;have HR:=Lib.hid (HPC.out (k3,er) h3);obtain ⟨ho,rfl,j0,hB⟩:=hret;have HK7:=Lib.hid (HK6.out.one ho);have HB7:=Lib.hid hB;clear ho hB h3 HPC HPF HPO;go_wp2;go_ret;rw[HR.out];exact ⟨HK7.out,rfl,j0,_,_,_,ha2,HB7.out⟩
    | ok i3 =>
     rw[h3]at hret;obtain ⟨hi3,hi4⟩:=exp_le h3;rw[size_data]at hi4;obtain ⟨ho,rfl,hB⟩:=hret;have HK7:=Lib.hid (HK6.out.one ho);have HB7:=Lib.hid hB;have HO7:=Lib.hid (HO6.out.onlyP HB6.out ho);have HN7:=Lib.hid (HN6.out.row ho (fun e=>hgN e.symm));have HU7:=Lib.hid (own_grown HU6.out ho (fun b hb e=>own_blk_ne HU6.out HB6.out (by decide) (by rw[hb,e])));have HPF:=Lib.hid (HPF.out i3 h3);have HPO:=Lib.hid (HPO.out i3 h3);have c4:=hB.cell 4;have c3:=hB.cell 3;simp only[jA,jZ,jS]at c3 c4;clear ho hB h3 HPC HK6 HB6 HO6 HN6 HU6;by_cases h64:a2.length=64
     ·have q64:((a2.length:Int)==64)=true:=by rw[beq_iff_eq];omega
      have HR:=Lib.hid (HPF.out h64);have w3:IntKind.i64.wrap ((i3:Int) - 1)=((i3 - 1:Nat):Int):=by have:=HX.out.hS;rw[show ((i3 - 1:Nat):Int)=(i3:Int) - 1 by omega];exact IntWalk.i64_in _ (by omega)
      clear HPF HPO h64;go_wp2_with fail
      refine (pfail_any g i3 sv _ key wh e0 _ _ S w7 HB7.out).mono ?_;rintro _ w8 ⟨rfl,hB,ho⟩;have HB8:=Lib.hid hB;have HK8:=Lib.hid (HK7.out.one ho);clear hB ho c3 c4;go_wp2;go_ret;rw[HR.out];exact ⟨HK8.out,rfl,i3,_,_,_,ha2,HB8.out⟩
     ·have q64:((a2.length:Int)==64)=false:=by rw[beq_eq_false_iff_ne];omega
      have HR:=Lib.hid (HPO.out h64);have ha3:a2.length<64:=by omega
      clear HPF HPO h64;go_upto_region 11 with (fail)
      clear c3 c4;refine wp_region_inv (by kernel_rfl) (by kernel_rfl) (fun L a w'=>∃ u46 u47 u48 u49 u50 u51 u52 u53 u54 u55:Value,a=⟨#[.pointer (some ⟨g,0,none⟩),undef,.bool false,.int .i64 k,.string W,.pointer (some ⟨N,0,none⟩),.pointer (some ⟨g,0,none⟩),.bool true,.bool false,.tuple #[.int .i64 k,.string W],.pointer (some ⟨g,0,none⟩),.tuple #[.int .i64 k,.string W],.int .i64 k,.string W,.slice (some ⟨q,0,none⟩) 11 11,.string W,.int .i64 (o - 1),.int .i64 o,.agg #[.int .i64 o,.int .i64 0,.bool false,.int .i64 0,.string { data:=#[] },.slice none 0 0,.int .i64 0,.int .i64 0],.pointer (some ⟨N,0,none⟩),.int .i64 o,.bool false,undef,undef,undef,.pointer (some ⟨g,0,none⟩),.bool true,.bool false,.bool false,.pointer (some ⟨g,0,none⟩),.bool true,.bool false,.bool false,.pointer (some ⟨g,0,none⟩),.pointer (some ⟨g,0,none⟩),.pointer (some ⟨g,4,none⟩),.slice A6 a2.length c6,.int .i64 a2.length,.bool false,undef,undef,undef,undef,undef,undef,undef,u46,u47,u48,u49,u50,u51,u52,u53,u54,u55],[]⟩ ∧
        Kp (fun i=>i=g∨nv.ownBlock=some i) w w'∧Got (L 0) u46 (.pointer (some ⟨g,0,none⟩))∧Got (L 1) u47 (.pointer (some ⟨g,0,none⟩))∧Got (L 2) u48 (.pointer (some ⟨g,0,none⟩))∧Got (L 3) u49 (.pointer (some ⟨g,4,none⟩))∧Got (L 4) u50 (.slice A6 a2.length c6)∧Got (L 5) u51 (.agg #[.int .i64 x.op,.int .i64 x.col,.bool x.v.nu,.int .i64 x.v.n,.string x.v.s,.slice AU x.l.length cU,.int .i64 x.a,.int .i64 x.b])∧(L 6=true→∃ A9,u52=.slice (some ⟨A9,0,none⟩) 1 1∧w7.heap.size≤A9∧Blk w' A9 66 #[.int .i64 x.op,.int .i64 x.col,.bool x.v.nu,.int .i64 x.v.n,.string x.v.s,.slice AU x.l.length cU,.int .i64 x.a,.int .i64 x.b])∧(L 7=true→∃ g9 c9,u53=.slice (some ⟨g9,0,none⟩) (a2.length+1) c9∧OwnNd w' base u53 (a2 ++ [x])∧(nv.ownBlock=some g9∨w.heap.size≤g9))∧Got (L 8) u54 (.pointer (some ⟨g,0,none⟩))∧Got (L 9) u55 (.pointer (some ⟨g,4,none⟩))∧(L 7=false→OwnNd w' base (.slice A6 a2.length c6) a2∧w'.ownsRow base 64 3 (.slice AU x.l.length cU) x.l.length (vls x.l))∧(L 10=false→Blk w' g 54 #[sv,.int .i64 key,.string S,.int .i64 i3,.slice A6 a2.length c6,.int .i64 wh,.int .i64 e0])∧(L 10=true→Blk w' g 54 #[sv,.int .i64 key,.string S,.int .i64 i3,u53,.int .i64 wh,.int .i64 e0])∧(L 10=true→L 7=true)∧Blk w' N 66 #[.int .i64 x.op,.int .i64 x.col,.bool x.v.nu,.int .i64 x.v.n,.string x.v.s,.slice AU x.l.length cU,.int .i64 x.a,.int .i64 x.b]∧(L 7=true→L 4=true∧L 6=true)∧w7.heap.size≤w'.heap.size)
       ?_ ?_ ?_
      ·exact ⟨_,_,_,_,_,_,_,_,_,_,rfl,(HK7.out.drewN 1),nofun,nofun,nofun,nofun,nofun,nofun,nofun,nofun,nofun,nofun,fun _=>⟨HO7.out.below (Below.refl _ _).drew,HU7.out⟩,fun _=>HB7.out.drewN 1,nofun,nofun,HN7.out.drewN 1,nofun,Nat.le_refl _⟩
      ·refine ⟨?_,?_,?_,?_,?_,?_,?_,?_,?_,?_,?_,trivial⟩
       ·refine fun L a w'=>ex8 fun _ _ _ _ _ _ _ _=>ex2 fun _ _=>un16 fun ha hb g0 g1 g2 g3 g4 g5 g6 g7 g8 g9 g10 g11 g12 g13=>un2 fun g14 g15 g16 hl hd K hK=>?_;subst ha
        dsimp only at hK ⊢;go_simp;exact hK _ _ ⟨_,_,_,_,_,_,_,_,_,_,rfl,hb,fun _=>rfl,g1,g2,g3,g4,g5,g6,g7,g8,g9,g10,g11,g12,g13,g14,g15,g16⟩
       ·refine fun L a w'=>ex8 fun _ _ _ _ _ _ _ _=>ex2 fun _ _=>un16 fun ha hb g0 g1 g2 g3 g4 g5 g6 g7 g8 g9 g10 g11 g12 g13=>un2 fun g14 g15 g16 hl hd K hK=>?_;subst ha
        dsimp only at hK ⊢;go_simp;exact hK _ _ ⟨_,_,_,_,_,_,_,_,_,_,rfl,hb,g0,fun _=>rfl,g2,g3,g4,g5,g6,g7,g8,g9,g10,g11,g12,g13,g14,g15,g16⟩
       ·refine fun L a w'=>ex8 fun _ _ _ _ _ _ _ _=>ex2 fun _ _=>un16 fun ha hb g0 g1 g2 g3 g4 g5 g6 g7 g8 g9 g10 g11 g12 g13=>un2 fun g14 g15 g16 hl hd K hK=>?_;subst ha
        simp[Region.binds]at hd;dsimp only at hK ⊢;have e1:=g1 (by simp[hd]);subst e1;go_simp;exact hK _ _ ⟨_,_,_,_,_,_,_,_,_,_,rfl,hb,g0,g1,fun _=>rfl,g3,g4,g5,g6,g7,g8,g9,g10,g11,g12,g13,g14,g15,g16⟩
       ·refine fun L a w'=>ex8 fun _ _ _ _ _ _ _ _=>ex2 fun _ _=>un16 fun ha hb g0 g1 g2 g3 g4 g5 g6 g7 g8 g9 g10 g11 g12 g13=>un2 fun g14 g15 g16 hl hd K hK=>?_;subst ha
        simp[Region.binds]at hd;dsimp only at hK ⊢;have e2:=g2 (by simp[hd]);subst e2;go_simp;exact hK _ _ ⟨_,_,_,_,_,_,_,_,_,_,rfl,hb,g0,g1,g2,fun _=>rfl,g4,g5,g6,g7,g8,g9,g10,g11,g12,g13,g14,g15,g16⟩
       ·refine fun L a w'=>ex8 fun _ _ _ _ _ _ _ _=>ex2 fun _ _=>un16 fun ha hb g0 g1 g2 g3 g4 g5 g6 g7 g8 g9 g10 g11 g12 g13=>un2 fun g14 g15 g16 hl hd K hK=>?_;subst ha
        simp[Region.binds]at hd;dsimp only at hK ⊢;have e3:=g3 (by simp[hd]);subst e3;have hl9:=hl;have h10:L 10=false:=by
         cases h:L 10 with
         | false=>rfl
         | true=>have:=(g15 (g13 h)).1;rw[hl9]at this;cases this
        have cc:=(g11 h10).cell 4;simp only[jA,jZ,jS]at cc;go_simp;exact hK _ _ ⟨_,_,_,_,_,_,_,_,_,_,rfl,hb,g0,g1,g2,g3,fun _=>rfl,g5,g6,g7,g8,g9,g10,g11,g12,g13,g14,fun h=>⟨rfl,(g15 h).2⟩,g16⟩
       ·refine fun L a w'=>ex8 fun _ _ _ _ _ _ _ _=>ex2 fun _ _=>un16 fun ha hb g0 g1 g2 g3 g4 g5 g6 g7 g8 g9 g10 g11 g12 g13=>un2 fun g14 g15 g16 hl hd K hK=>?_;subst ha
        dsimp only at hK ⊢;have bb:=g14;have d0:=bb.cell 0;have d1:=bb.cell 1;have d2:=bb.cell 2;have d3:=bb.cell 3;have d4:=bb.cell 4;have d5:=bb.cell 5;have d6:=bb.cell 6;have d7:=bb.cell 7;simp only[jA,jZ,jS]at d0 d1 d2 d3 d4 d5 d6 d7;go_simp;exact hK _ _ ⟨_,_,_,_,_,_,_,_,_,_,rfl,hb,g0,g1,g2,g3,g4,fun _=>rfl,g6,g7,g8,g9,g10,g11,g12,g13,g14,g15,g16⟩
       ·refine fun L a w'=>ex8 fun _ _ _ _ _ _ _ _=>ex2 fun _ _=>un16 fun ha hb g0 g1 g2 g3 g4 g5 g6 g7 g8 g9 g10 g11 g12 g13=>un2 fun g14 g15 g16 hl hd K hK=>?_;subst ha
        simp[Region.binds]at hd;dsimp only at hK ⊢;have e5:=g5 (by simp[hd]);subst e5;have hl9:=hl;have h7:L 7=false:=by
         cases h:L 7 with
         | false=>rfl
         | true=>have:=(g15 h).2;rw[hl9]at this;cases this
        go_simp;exact hK _ _ ⟨_,_,_,_,_,_,_,_,_,_,rfl,hb.alloc _,g0,g1,g2,g3,g4,g5,fun _=>⟨_,rfl,g16,Blk.new _ _ _⟩,(fun h=>absurd (show L 7=true from h) (by rw[h7];simp)),g8,g9,fun h=>⟨(g10 h).1.below (below_new _ _),(g10 h).2.alloc _⟩,fun h=>(g11 h).alloc _,fun h=>(g12 h).alloc _,g13,g14.alloc _,fun h=>⟨(g15 h).1,rfl⟩,Nat.le_trans g16 (by simp)⟩
       ·refine fun L a w'=>ex8 fun _ _ _ _ _ _ _ _=>ex2 fun _ _=>un16 fun ha hb g0 g1 g2 g3 g4 g5 g6 g7 g8 g9 g10 g11 g12 g13=>un2 fun g14 g15 g16 hl hd K hK=>?_;subst ha
        simp[Region.binds]at hd;dsimp only at hK ⊢;have e4:=g4 (by simp[hd]);subst e4;have hl9:=hl;have h10:L 10=false:=by
         cases h:L 10 with
         | false=>rfl
         | true=>have:=g13 h;rw[hl9]at this;cases this
        have h4:L 4=true:=by simp[hd]
        have h6:L 6=true:=by simp[hd]
        obtain ⟨A9,e6,hN6,hB6⟩:=g6 h6;subst e6;obtain ⟨oo,ou⟩:=g10 hl;have oo2:=oo;obtain ⟨us,hus1,hus2,hus3⟩:=oo2;have hws9:base≤w'.heap.size:=Nat.le_trans (Nat.le_trans HBS.out HK7.out.size) g16;refine wp_app (P:=Tryz.prog) (n:=a2.length) (xs:=nds a2 us) (m:=1) (.tmp 50) (.tmp 52) hus2 (blk_slN (n:=1) (sz:=8) hB6 rfl (by unfold maxLen;omega)) hws9 under_nd info_nd rfl (by decide) (one8 _ _ _ _ _ _ _ _ _ _) (by omega) (by omega) rfl rfl rfl ?_
        intro v9 w9 ho9 hg9 hv9
        have hsn:=nd_snoc hus1 hus2 hus3 ou ho9 hg9;obtain ⟨g10x,c10x,ev9⟩:∃ g9 c9,v9=.slice (some ⟨g9,0,none⟩) (a2.length+1) c9:=by
         rcases ho9.2 with ⟨_,h0⟩|⟨g1,cap1,cur1,e1,_⟩
         ·omega
         ·exact ⟨g1,cap1,e1⟩
        subst ev9;have hvb:nv.ownBlock=some g10x∨w.heap.size≤g10x:=by
         rcases hv9 with h|h
         ·exact HOB6.out _ (by rw[←h];rfl)
         ·have h2:g10x=w'.heap.size:=by injection h
          have:=HK7.out.size;omega
        exact hK _ _ ⟨_,_,_,_,_,_,_,_,_,_,rfl,hb.grown hg9 (fun k hk hk2=>by rcases HOB6.out k hk with h | h;exact .inr h;exact absurd h (by omega)),g0,g1,g2,g3,g4,g5,fun _=>⟨A9,rfl,hN6,hB6.grown hg9 (fun e=>by have:=(HO7.out.ge e).2;omega)⟩,fun _=>⟨g10x,c10x,rfl,hsn,hvb⟩,g8,g9,nofun,fun h=>(g11 h).grown hg9 (oo.ne (g11 h) (by decide)),(fun h=>absurd (show L 10=true from h) (by rw[h10];simp)),fun _=>rfl,g14.grown hg9 HNV6.out,fun _=>⟨h4,h6⟩,Nat.le_trans g16 hg9.size⟩
       ·refine fun L a w'=>ex8 fun _ _ _ _ _ _ _ _=>ex2 fun _ _=>un16 fun ha hb g0 g1 g2 g3 g4 g5 g6 g7 g8 g9 g10 g11 g12 g13=>un2 fun g14 g15 g16 hl hd K hK=>?_;subst ha
        simp[Region.binds]at hd;dsimp only at hK ⊢;have e0:=g0 (by simp[hd]);subst e0;go_simp;exact hK _ _ ⟨_,_,_,_,_,_,_,_,_,_,rfl,hb,g0,g1,g2,g3,g4,g5,g6,g7,fun _=>rfl,g9,g10,g11,g12,g13,g14,g15,g16⟩
       ·refine fun L a w'=>ex8 fun _ _ _ _ _ _ _ _=>ex2 fun _ _=>un16 fun ha hb g0 g1 g2 g3 g4 g5 g6 g7 g8 g9 g10 g11 g12 g13=>un2 fun g14 g15 g16 hl hd K hK=>?_;subst ha
        simp[Region.binds]at hd;dsimp only at hK ⊢;have e8:=g8 (by simp[hd]);subst e8;go_simp;exact hK _ _ ⟨_,_,_,_,_,_,_,_,_,_,rfl,hb,g0,g1,g2,g3,g4,g5,g6,g7,g8,fun _=>rfl,g10,g11,g12,g13,g14,g15,g16⟩
       ·refine fun L a w'=>ex8 fun _ _ _ _ _ _ _ _=>ex2 fun _ _=>un16 fun ha hb g0 g1 g2 g3 g4 g5 g6 g7 g8 g9 g10 g11 g12 g13=>un2 fun g14 g15 g16 hl hd K hK=>?_;subst ha
        simp[Region.binds]at hd;dsimp only at hK ⊢;have e9:=g9 (by simp[hd]);subst e9;have h7:L 7=true:=by simp[hd]
        obtain ⟨g11x,c11x,e6,o6,ob6⟩:=g7 h7;subst e6;have bb:=g11 hl;have cc:=bb.cell 4;simp only[jA,jZ,jS]at cc;have ff:=bb.frozen 4;have hlt:=bb.lt;go_simp;have kg:w'.grownBy (w'.setCell ⟨g,4,none⟩ (.slice (some ⟨g11x,0,none⟩) (a2.length+1) c11x)) (some g):=grownBy_set w' ⟨g,4,none⟩ (.slice (some ⟨g11x,0,none⟩) (a2.length+1) c11x);have kb:=bb.set_ 4 (.slice (some ⟨g11x,0,none⟩) (a2.length+1) c11x);simp only[jI,jY,jT]at kb;exact hK _ _ ⟨_,_,_,_,_,_,_,_,_,_,rfl,hb.grown kg (fun k hk _=>by injection hk with hk;exact .inl hk.symm),g0,g1,g2,g3,g4,g5,fun h=>(g6 h).elim fun A9 h=>⟨A9,h.1,h.2.1,h.2.2.row kg (show A9≠g by have:=h.2.1;have:=HB7.out.lt;omega)⟩,fun _=>⟨g11x,c11x,rfl,o6.onlyP bb kg,ob6⟩,g8,g9,(fun h=>absurd (show L 7=false from h) (by rw[h7];simp)),nofun,fun _=>kb,fun _=>h7,g14.row kg (fun e=>hgN e.symm),g15,Nat.le_trans g16 kg.size⟩
      intro a w9 hI
      revert hI;refine ex8 fun _ _ _ _ _ _ _ _=>ex2 fun _ _=>un16 fun ha hb g0 g1 g2 g3 g4 g5 g6 g7 g8 g9 g10 g11 g12 g13=>un2 fun g14 g15 g16=>?_;subst ha
      have e0:=g0 rfl;subst e0;have e1:=g1 rfl;subst e1;have e2:=g2 rfl;subst e2;have e3:=g3 rfl;subst e3;have e4:=g4 rfl;subst e4;have e5:=g5 rfl;subst e5;have e8:=g8 rfl;subst e8;have e9:=g9 rfl;subst e9;obtain ⟨A9,e6,_,_⟩:=g6 rfl;subst e6;obtain ⟨g9x,c9x,e7,o7,ob7⟩:=g7 rfl;subst e7;have kb:=Lib.hid (g12 rfl);have HO9:=Lib.hid o7;have HK9:=Lib.hid hb;have HOB9:=Lib.hid ob7;clear g6 g7 g10 g11 g12 g13 g14 g15 g16 o7 ob7 hb;go_wp2;go_ret;rw[HR.out];exact ⟨HK9.out,rfl,hi4,by simp,by simp;omega,_,kb.out,HO9.out,fun b hb=>by
       injection hb with hb
       subst hb;exact HOB9.out⟩
theorem pnodeT_any (w0:World) (g base:Nat) (sv:Value) (key wh e0:Int) (S:ByteArray) (cs:List Col) (hx:PCtx w0 g sv S cs base):∀ f,HNode w0 g sv key wh e0 S cs base f
 | 0=>fun i nv l w hB hi hf=>absurd hf (by omega)
 | f+1=>pnode_step w0 g f base sv key wh e0 S cs hx (pnodeT_any w0 g base sv key wh e0 S cs hx f)
end Go.Proofs.YtjnamjkdjcndiaaGreatDoor
