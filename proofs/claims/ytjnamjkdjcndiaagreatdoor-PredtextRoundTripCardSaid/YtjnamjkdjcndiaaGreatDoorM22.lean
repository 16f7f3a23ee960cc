/-
  Words, plain laws and contracts on which the walks lean, in one text.
-/
import Derived.Test.YtjnamjkdjcndiaaGreatDoorPar7
import Derived.Test.YtjnamjkdjcndiaaGreatDoorM19
import Derived.Test.YtjnamjkdjcndiaaGreatDoorM16
import Derived.Test.YtjnamjkdjcndiaaGreatDoorM17
import Derived.Test.YtjnamjkdjcndiaaGreatDoorM12
import Derived.Test.YtjnamjkdjcndiaaGreatDoorM2
namespace Go.Proofs.YtjnamjkdjcndiaaGreatDoor
open Go.RowKit Go.Sort

section
variable {cs:List Col} {T:List UInt8} {f i i1 i2 i3:Nat} {acc a2:List Nd} {e:Nat×Int} {x:Nd}
theorem par_e1 (h1:expP T 40 i=.error e):parN cs T (f+1) i acc=.error e:=by unfold parN;rw[h1]
theorem par_w0 (h1:expP T 40 i=.ok i1) (h2:opW (wd T (sk T i1))=0):parN cs T (f+1) i acc=.error (sk T i1,2):=by
 unfold parN;rw[h1]
 show (if opW (wd T (sk T i1))=0 then _ else _)=_
 rw[if_pos h2]
theorem par_go (h1:expP T 40 i=.ok i1) (h2:opW (wd T (sk T i1))≠0):parN cs T (f+1) i acc=(match argP cs T (parN cs T f) (opW (wd T (sk T i1))) (we T (sk T i1)) acc with
    | .error e=>.error e
    | .ok (i2,x,a2)=>match expP T 41 i2 with
     | .error e=>.error e
     | .ok i3=>if a2.length=64 then .error (i3 - 1,7) else .ok (i3,a2 ++ [x])):=by
 rw[parN,h1];show (if opW (wd T (sk T i1))=0 then _ else _)=_
 rw[if_neg h2];rfl
theorem par_a (h1:expP T 40 i=.ok i1) (h2:opW (wd T (sk T i1))≠0) (h3:argP cs T (parN cs T f) (opW (wd T (sk T i1))) (we T (sk T i1)) acc=.error e):parN cs T (f+1) i acc=.error e:=by rw[par_go h1 h2,h3]
theorem par_c (h1:expP T 40 i=.ok i1) (h2:opW (wd T (sk T i1))≠0) (h3:argP cs T (parN cs T f) (opW (wd T (sk T i1))) (we T (sk T i1)) acc=.ok (i2,x,a2)) (h4:expP T 41 i2=.error e):parN cs T (f+1) i acc=.error e:=by
 rw[par_go h1 h2,h3];dsimp only;rw[h4]
theorem par_f (h1:expP T 40 i=.ok i1) (h2:opW (wd T (sk T i1))≠0) (h3:argP cs T (parN cs T f) (opW (wd T (sk T i1))) (we T (sk T i1)) acc=.ok (i2,x,a2)) (h4:expP T 41 i2=.ok i3) (h5:a2.length=64):parN cs T (f+1) i acc=.error (i3 - 1,7):=by
 rw[par_go h1 h2,h3];dsimp only;rw[h4];show (if a2.length=64 then _ else _)=_
 rw[if_pos h5]
theorem par_o (h1:expP T 40 i=.ok i1) (h2:opW (wd T (sk T i1))≠0) (h3:argP cs T (parN cs T f) (opW (wd T (sk T i1))) (we T (sk T i1)) acc=.ok (i2,x,a2)) (h4:expP T 41 i2=.ok i3) (h5:a2.length≠64):parN cs T (f+1) i acc=.ok (i3,a2 ++ [x]):=by
 rw[par_go h1 h2,h3];dsimp only;rw[h4];show (if a2.length=64 then _ else _)=_
 rw[if_neg h5]
end
theorem prest_any (w0:World) (g N i f base o:Nat) (sv nv:Value) (l:List Nd) (key wh e0:Int) (S:ByteArray) (cs:List Col) (w:World) (hx:PCtx w0 g sv S cs base) (hrec:HNode w0 g sv key wh e0 S cs base f)
  (hB:Blk w g 54 #[sv,.int .i64 key,.string S,.int .i64 i,nv,.int .i64 wh,.int .i64 e0]) (hi:i≤S.size) (hf:S.size<i+f) (ho:OwnNd w base nv l) (hl:l.length≤64) (hb0:Below w0.heap.size w0 w) (hbase:base≤w.heap.size) (hN:Blk w N 66 #[.int .i64 (o:Int),.int .i64 0,.bool false,.int .i64 0,.string { data:=#[] },.slice none 0 0,.int .i64 0,.int .i64 0]) (hnv:nv.ownBlock≠some N) (hn0:w0.heap.size≤N) (h1:o≠0) (h11:o≤11) :
  Calls Tryz.prog 48 #[.pointer (some ⟨g,0,none⟩),.pointer (some ⟨N,0,none⟩)] w (RetRestP w g N sv key wh e0 S base nv (argP cs S.data.toList (parN cs S.data.toList f) o i l)):=by
 by_cases h6:o≤6
 ·exact prestV_any w0 g N i f base o sv nv l key wh e0 S cs w hx hrec hB hi hf ho hl hb0 hbase hN hnv hn0 (by omega) h6
 ·obtain rfl | rfl | rfl | rfl | rfl:o=7∨o=8∨o=9∨o=10∨o=11:=by omega
  ·exact prest7_any w0 g N i f base sv nv l key wh e0 S cs w hx hrec hB hi hf ho hl hb0 hbase hN hnv hn0
  ·exact prest8_any w0 g N i f base sv nv l key wh e0 S cs w hx hrec hB hi hf ho hl hb0 hbase hN hnv hn0
  ·exact prest9_any w0 g N i f base sv nv l key wh e0 S cs w hx hrec hB hi hf ho hl hb0 hbase hN hnv hn0
  ·exact prest10_any w0 g N i f base sv nv l key wh e0 S cs w hx hrec hB hi hf ho hl hb0 hbase hN hnv hn0
  ·exact prest11_any w0 g N i f base sv nv l key wh e0 S cs w hx hrec hB hi hf ho hl hb0 hbase hN hnv hn0
theorem exp_le {T:List UInt8} {b:UInt8} {i j:Nat} (h:expP T b i=.ok j):i<j∧j≤T.length:=⟨(expP_ok h).2.2.1,(expP_ok h).2.2.2⟩
theorem Kp.one {g:Nat} {nv:Value} {w a b:World} (h:Kp (fun i=>i=g∨nv.ownBlock=some i) w a) (k:Only g a b):Kp (fun i=>i=g∨nv.ownBlock=some i) w b:=h.only k (.inl (.inl rfl))
theorem OwnNd.onlyP {w w':World} {base g:Nat} {v:Value} {l:List Nd} {cs:Array Value} (h:OwnNd w base v l) (hb:Blk w g 54 cs) (k:Only g w w'):OwnNd w' base v l:=h.turn k (h.ne hb (by decide)) hb (by decide)
set_option maxRecDepth 100000 in
set_option maxHeartbeats 8000000 in
theorem pnode_step (w0:World) (g f base:Nat) (sv:Value) (key wh e0:Int) (S:ByteArray) (cs:List Col) (hx:PCtx w0 g sv S cs base) (hrec:HNode w0 g sv key wh e0 S cs base f):HNode w0 g sv key wh e0 S cs base (f+1):=by
 intro i nv l w hB hi hf ho hl hb0 hbase
 have HX:=Lib.hid hx;have HREC:=Lib.hid hrec;have HB:=Lib.hid hB;have HO:=Lib.hid ho;have HB0:=Lib.hid hb0;have HBS:=Lib.hid hbase;have HF:=Lib.hid hf;have HI:=Lib.hid hi;clear hx hrec hB ho hb0 hbase hf hi;cases h1:expP S.data.toList 40 i with
 | error r =>
  obtain ⟨k,er⟩:=r;have HE1:=Lib.hid h1;have HR:=Lib.hid (par_e1 (cs:=cs) (f:=f) (acc:=l) h1);clear h1;go_enter Tryz.func23,Tryz.ntmps23
  go_wp2_with fail
  refine (pexp_any g i sv nv key wh e0 S 40 w HB.out HI.out HX.out.hS).mono ?_;rintro e w1 hret;unfold RetExp at hret
  rw[HE1.out]at hret;obtain ⟨ho,rfl,j0,hB⟩:=hret;have HO1:=Lib.hid ho;have HB1:=Lib.hid hB;clear ho hB;go_wp2;go_ret;rw[HR.out];obtain ⟨A,cA,hnv,_,_⟩:=HO.out.form;subst hnv;exact ⟨Kp.refl.one HO1.out,rfl,j0,_,cA,A,hl,HB1.out⟩
 | ok i1 =>
  have HE1:=Lib.hid h1;obtain ⟨hi1,hi2⟩:=exp_le h1;rw[size_data]at hi2;obtain ⟨k,hk⟩:∃ k,sk S.data.toList i1=k:=⟨_,rfl⟩
  obtain ⟨m,hm⟩:∃ m,we S.data.toList k=m:=⟨_,rfl⟩
  have hkS:k≤S.size:=by rw[←hk,←size_data];exact sk_le (by rw[size_data];exact hi2)
  have hmS:m≤S.size:=by rw[←hm,←size_data];exact we_le (by rw[size_data];exact hkS)
  have hkm:i1≤m:=by have:=sk_ge S.data.toList i1;have:=we_ge S.data.toList k;omega
  obtain ⟨o,ho⟩:∃ o,opW (wd S.data.toList k)=o:=⟨_,rfl⟩
  have ho11:o≤11:=by rw[←ho];exact opW_le _
  have HP0:=Lib.hid (par_w0 (cs:=cs) (f:=f) (acc:=l) h1);have HPA:=Lib.hid (fun e=>par_a (cs:=cs) (f:=f) (acc:=l) (e:=e) h1);have HPC:=Lib.hid (fun i2 x a2 e=>par_c (cs:=cs) (f:=f) (acc:=l) (i2:=i2) (x:=x) (a2:=a2) (e:=e) h1);have HPF:=Lib.hid (fun i2 x a2 i3=>par_f (cs:=cs) (f:=f) (acc:=l) (i2:=i2) (x:=x) (a2:=a2) (i3:=i3) h1);have HPO:=Lib.hid (fun i2 x a2 i3=>par_o (cs:=cs) (f:=f) (acc:=l) (i2:=i2) (x:=x) (a2:=a2) (i3:=i3) h1);have HWD:=Lib.hid (fun (w:World) (hB:Blk w g 54 #[sv,.int .i64 key,.string S,.int .i64 i1,nv,.int .i64 wh,.int .i64 e0])=>pword_any g i1 sv nv key wh e0 S w hB hi2 HX.out.hS);unfold RetWord at HWD
  rw[hk,hm]at HWD;rw[hk,ho]at HP0;rw[hk,ho,hm]at HPA HPC HPF HPO;have HOP:=Lib.hid ho;clear h1 hk hm ho;go_enter Tryz.func23,Tryz.ntmps23
  go_wp2_with fail
  refine (pexp_any g i sv nv key wh e0 S 40 w HB.out HI.out HX.out.hS).mono ?_;rintro e w1 hret;unfold RetExp at hret
  rw[HE1.out]at hret;obtain ⟨ho,rfl,hB⟩:=hret;have HK1:=Lib.hid ((Kp.refl (S:=fun i=>i=g∨nv.ownBlock=some i) (w:=w)).one ho);have HO1:=Lib.hid (HO.out.onlyP HB.out ho);have HB1:=Lib.hid hB;clear ho hB;go_wp2_with fail
  refine (HWD.out w1 HB1.out).mono ?_;rintro _ w2 ⟨W,hW,rfl,hB,ho⟩;have HK2:=Lib.hid (HK1.out.one ho);have HO2:=Lib.hid (HO1.out.onlyP HB1.out ho);have HB2:=Lib.hid hB;have HW:=Lib.hid (show opW W.data.toList=o by rw[hW];exact HOP.out);clear ho hB hW HWD HOP HO1 HK1 HB1;go_wp2_with fail
  refine (pwords_any w2).mono ?_;rintro _ w3 ⟨q,rfl,hq,hQ,hb3⟩;have HK3:=Lib.hid (HK2.out.below hb3);have HO3:=Lib.hid (HO2.out.below hb3);have HB3:=Lib.hid (HB2.out.below hb3 HB2.out.lt);have HQ:=Lib.hid hQ;clear hq hQ hb3 HK2 HO2 HB2;go_wp2_with fail
  refine (pidx_any q W w3 HQ.out).mono ?_;rintro _ w4 ⟨rfl,hb4⟩;have HK4:=Lib.hid (HK3.out.below hb4);have HO4:=Lib.hid (HO3.out.below hb4);have HB4:=Lib.hid (HB3.out.below hb4 HB3.out.lt);clear hb4 HQ HK3 HO3 HB3;rw[HW.out];have wo:IntKind.i64.wrap ((o:Int) - 1+1)=(o:Int):=by rw[show (o:Int) - 1+1=(o:Int) by omega];exact IntWalk.i64_in _ (by omega)
  obtain ⟨W5,hW5⟩:∃ W5,W5=w4.alloc (.cells #[.int .i64 (o:Int),.int .i64 0,.bool false,.int .i64 0,.string { data:=#[] },.slice none 0 0,.int .i64 0,.int .i64 0] 66):=⟨_,rfl⟩
  obtain ⟨N,hN⟩:∃ N,w4.heap.size=N:=⟨_,rfl⟩
  have hwN:w.heap.size≤N:=by rw[←hN];exact HK4.out.size
  have HN5:=Lib.hid (show Blk W5 N 66 #[.int .i64 (o:Int),.int .i64 0,.bool false,.int .i64 0,.string { data:=#[] },.slice none 0 0,.int .i64 0,.int .i64 0] by rw[hW5,←hN];exact Blk.new _ _ _);have HK5:=Lib.hid (show Kp (fun i=>i=g∨nv.ownBlock=some i) w W5 by rw[hW5];exact HK4.out.alloc _);have HO5:=Lib.hid (show OwnNd W5 base nv l by rw[hW5];exact HO4.out.below (below_new _ _));have HB5:=Lib.hid (show Blk W5 g 54 #[sv,.int .i64 key,.string S,.int .i64 m,nv,.int .i64 wh,.int .i64 e0] by rw[hW5];exact HB4.out.alloc _);have hnvN:=Lib.hid (show nv.ownBlock≠some N by intro h;have:=(HO4.out.ge h).2;omega);have hgN:g≠N:=by have:=HB4.out.lt;omega
  have HBL5:=Lib.hid (show Below w0.heap.size w0 W5 from below_kp HB0.out HK5.out (fun q h=>by
   rcases h with h|h
   ·have:=HX.out.hg;omega
   ·have:=(HO.out.ge h).1;have:=HX.out.hb;omega) HB0.out.size)
  have hn0:w0.heap.size≤N:=by have:=HB0.out.size;omega
  go_upto_region 5 with (fail)
  rw[←hW5];try simp only[hN]
  clear hW5 hN HK4 HO4 HB4;have n0:=HN5.out.cell 0;simp only[jA,jZ]at n0;by_cases ho0:o=0
  ·have q0:((o:Int)==0)=true:=by rw[beq_iff_eq];omega
   have HR:=Lib.hid (HP0.out ho0);clear HP0 HPA HPC HPF HPO;go_wp2_with fail
   refine (pfail_any g m sv nv key wh e0 _ _ S W5 HB5.out).mono ?_;rintro _ w6 ⟨rfl,hB,ho⟩;have HB6:=Lib.hid hB;have HK6:=Lib.hid (HK5.out.one ho);clear hB ho;go_wp2;go_ret;rw[HR.out];obtain ⟨A,cA,hnv,_,_⟩:=HO.out.form;subst hnv;exact ⟨HK6.out,rfl,m,_,cA,A,hl,HB6.out⟩
  ·have q0:((o:Int)==0)=false:=by rw[beq_eq_false_iff_ne];omega
   have HRS:=Lib.hid (prest_any w0 g N m f base o sv nv l key wh e0 S cs W5 HX.out HREC.out HB5.out hmS (by have:=HF.out;omega) HO5.out hl HBL5.out (Nat.le_trans HBS.out HK5.out.size) HN5.out hnvN.out hn0 ho0 ho11);clear HP0;cases ha:argP cs S.data.toList (parN cs S.data.toList f) o m l with
   | error r =>
    obtain ⟨k2,er⟩:=r;have HA:=Lib.hid ha;have HR:=Lib.hid (HPA.out (k2,er) ho0 ha);clear ha HPA HPC HPF HPO;go_wp2_with fail
    refine HRS.out.mono ?_;rintro e w6 hret;rw[HA.out]at hret;obtain ⟨hk,rfl,j0,n1,c1,A1,hn1,hB⟩:=hret;have HB6:=Lib.hid hB;have HK6:=Lib.hid (HK5.out.then' hk (fun q hq h=>by rcases h with h | h | h;exact .inl h;exact absurd h (by omega);exact .inr h));clear hk hB n0;go_wp2;go_ret;rw[HR.out];exact ⟨HK6.out,rfl,j0,n1,c1,A1,hn1,HB6.out⟩
   | ok r =>
    obtain ⟨i2,x,a2⟩:=r;have HA:=Lib.hid ha;have hA2:=ha;have HPC:=Lib.hid (fun e=>HPC.out i2 x a2 e ho0 hA2);have HPF:=Lib.hid (fun i3=>HPF.out i2 x a2 i3 ho0 hA2);have HPO:=Lib.hid (fun i3=>HPO.out i2 x a2 i3 ho0 hA2);clear ha hA2 HPA;go_wp2_with fail
    refine HRS.out.mono ?_;rintro e w6 hret;rw[HA.out]at hret;obtain ⟨hk,rfl,hi2S,ha2,nv6,u,hB,hO,hob,hN,hu⟩:=hret;have HK6:=Lib.hid (HK5.out.then' hk (fun q hq h=>by rcases h with h | h | h;exact .inl h;exact absurd h (by omega);exact .inr h));have HB6:=Lib.hid hB;have HO6:=Lib.hid hO;have HOB6:=Lib.hid (show ∀ b,nv6.ownBlock=some b→nv.ownBlock=some b∨w.heap.size≤b from fun b h=>by
     rcases hob b h with h|h
     ·exact .inl h
     ·exact .inr (Nat.le_trans HK5.out.size h))
    have HN6:=Lib.hid hN;have HU6:=Lib.hid hu;have HNV6:=Lib.hid (show nv6.ownBlock≠some N from fun h=>by
     rcases hob N h with h|h
     ·exact hnvN.out h
     ·have:=HN5.out.lt;omega)
    obtain ⟨A6,c6,rfl,hc61,hc62⟩:=hO.form;obtain ⟨AU,cU,rfl,hcu1,hcu2⟩:=(Sl.of_own hu).form;clear hk hB hO hob hN hu n0 HRS HA;go_wp2_with fail
    refine (pexp_any g i2 sv _ key wh e0 S 41 w6 HB6.out hi2S HX.out.hS).mono ?_;rintro e w7 hret;unfold RetExp at hret
    cases h3:expP S.data.toList 41 i2 with
    | error r =>
     obtain ⟨k3,er⟩:=r;rw[h3]at hret;have HR:=Lib.hid (HPC.out (k3,er) h3);obtain ⟨ho,rfl,j0,hB⟩:=hret;have HK7:=Lib.hid (HK6.out.one ho);have HB7:=Lib.hid hB;clear ho hB h3 HPC HPF HPO;go_wp2;go_ret;rw[HR.out];exact ⟨HK7.out,rfl,j0,_,_,_,ha2,HB7.out⟩
    | ok i3 =>
     rw[h3]at hret;obtain ⟨hi3,hi4⟩:=exp_le h3;rw[size_data]at hi4;obtain ⟨ho,rfl,hB⟩:=hret;have HK7:=Lib.hid (HK6.out.one ho);have HB7:=Lib.hid hB;have HO7:=Lib.hid (HO6.out.onlyP HB6.out ho);have HN7:=Lib.hid (HN6.out.row ho (fun e=>hgN e.symm));have HU7:=Lib.hid (own_grown HU6.out ho (fun b hb e=>own_blk_ne HU6.out HB6.out (by decide) (by rw[hb,e])));have HPF:=Lib.hid (HPF.out i3 h3);have HPO:=Lib.hid (HPO.out i3 h3);have c4:=hB.cell 4;have c3:=hB.cell 3;simp only[jA,jZ,jS]at c3 c4;clear ho hB h3 HPC HK6 HB6 HO6 HN6 HU6;by_cases h64:a2.length=64
     ·have q64:((a2.length:Int)==64)=true:=by rw[beq_iff_eq];omega
      have HR:=Lib.hid (HPF.out h64);have w3:IntKind.i64.wrap ((i3:Int) - 1)=((i3 - 1:Nat):Int):=by have:=HX.out.hS;rw[show ((i3 - 1:Nat):Int)=(i3:Int) - 1 by omega];exact IntWalk.i64_in _ (by omega)
      clear HPF HPO h64;go_wp2_with fail
      refine (pfail_any g i3 sv _ key wh e0 _ _ S w7 HB7.out).mono ?_;rintro _ w8 ⟨rfl,hB,ho⟩;have HB8:=Lib.hid hB;have HK8:=Lib.hid (HK7.out.one ho);clear hB ho c3 c4;go_wp2;go_ret;rw[HR.out];exact ⟨HK8.out,rfl,i3,_,_,_,ha2,HB8.out⟩
     ·have q64:((a2.length:Int)==64)=false:=by rw[beq_eq_false_iff_ne];omega
      have HR:=Lib.hid (HPO.out h64);have ha3:a2.length<64:=by omega
      clear HPF HPO h64;go_upto_region 11 with (fail)
      clear c3 c4;refine wp_region_inv (by kernel_rfl) (by kernel_rfl) (fun L a w'=>∃ u46 u47 u48 u49 u50 u51 u52 u53 u54 u55:Value,a=⟨#[.pointer (some ⟨g,0,none⟩),undef,.bool false,.int .i64 k,.string W,.pointer (some ⟨N,0,none⟩),.pointer (some ⟨g,0,none⟩),.bool true,.bool false,.tuple #[.int .i64 k,.string W],.pointer (some ⟨g,0,none⟩),.tuple #[.int .i64 k,.string W],.int .i64 k,.string W,.slice (some ⟨q,0,none⟩) 11 11,.string W,.int .i64 (o - 1),.int .i64 o,.agg #[.int .i64 o,.int .i64 0,.bool false,.int .i64 0,.string { data:=#[] },.slice none 0 0,.int .i64 0,.int .i64 0],.pointer (some ⟨N,0,none⟩),.int .i64 o,.bool false,undef,undef,undef,.pointer (some ⟨g,0,none⟩),.bool true,.bool false,.bool false,.pointer (some ⟨g,0,none⟩),.bool true,.bool false,.bool false,.pointer (some ⟨g,0,none⟩),.pointer (some ⟨g,0,none⟩),.pointer (some ⟨g,4,none⟩),.slice A6 a2.length c6,.int .i64 a2.length,.bool false,undef,undef,undef,undef,undef,undef,undef,u46,u47,u48,u49,u50,u51,u52,u53,u54,u55],[]⟩ ∧
        Kp (fun i=>i=g∨nv.ownBlock=some i) w w'∧Got (L 0) u46 (.pointer (some ⟨g,0,none⟩))∧Got (L 1) u47 (.pointer (some ⟨g,0,none⟩))∧Got (L 2) u48 (.pointer (some ⟨g,0,none⟩))∧Got (L 3) u49 (.pointer (some ⟨g,4,none⟩))∧Got (L 4) u50 (.slice A6 a2.length c6)∧Got (L 5) u51 (.agg #[.int .i64 x.op,.int .i64 x.col,.bool x.v.nu,.int .i64 x.v.n,.string x.v.s,.slice AU x.l.length cU,.int .i64 x.a,.int .i64 x.b])∧(L 6=true→∃ A9,u52=.slice (some ⟨A9,0,none⟩) 1 1∧w7.heap.size≤A9∧Blk w' A9 66 #[.int .i64 x.op,.int .i64 x.col,.bool x.v.nu,.int .i64 x.v.n,.string x.v.s,.slice AU x.l.length cU,.int .i64 x.a,.int .i64 x.b])∧(L 7=true→∃ g9 c9,u53=.slice (some ⟨g9,0,none⟩) (a2.length+1) c9∧OwnNd w' base u53 (a2 ++ [x])∧(nv.ownBlock=some g9∨w.heap.size≤g9))∧Got (L 8) u54 (.pointer (some ⟨g,0,none⟩))∧Got (L 9) u55 (.pointer (some ⟨g,4,none⟩))∧(L 7=false→OwnNd w' base (.slice A6 a2.length c6) a2∧w'.ownsRow base 64 3 (.slice AU x.l.length cU) x.l.length (vls x.l))∧(L 10=false→Blk w' g 54 #[sv,.int .i64 key,.string S,.int .i64 i3,.slice A6 a2.length c6,.int .i64 wh,.int .i64 e0])∧(L 10=true→Blk w' g 54 #[sv,.int .i64 key,.string S,.int .i64 i3,u53,.int .i64 wh,.int .i64 e0])∧(L 10=true→L 7=true)∧Blk w' N 66 #[.int .i64 x.op,.int .i64 x.col,.bool x.v.nu,.int .i64 x.v.n,.string x.v.s,.slice AU x.l.length cU,.int .i64 x.a,.int .i64 x.b]∧(L 7=true→L 4=true∧L 6=true)∧w7.heap.size≤w'.heap.size)
       ?_ ?_ ?_
      ·exact ⟨_,_,_,_,_,_,_,_,_,_,rfl,(HK7.out.drewN 1),nofun,nofun,nofun,nofun,nofun,nofun,nofun,nofun,nofun,nofun,fun _=>⟨HO7.out.below (Below.refl _ _).drew,HU7.out⟩,fun _=>HB7.out.drewN 1,nofun,nofun,HN7.out.drewN 1,nofun,Nat.le_refl _⟩
      ·refine ⟨?_,?_,?_,?_,?_,?_,?_,?_,?_,?_,?_,trivial⟩
       ·refine fun L a w'=>ex8 fun _ _ _ _ _ _ _ _=>ex2 fun _ _=>un16 fun ha hb g0 g1 g2 g3 g4 g5 g6 g7 g8 g9 g10 g11 g12 g13=>un2 fun g14 g15 g16 hl hd K hK=>?_;subst ha
        dsimp only at hK ⊢;go_simp;exact hK _ _ ⟨_,_,_,_,_,_,_,_,_,_,rfl,hb,fun _=>rfl,g1,g2,g3,g4,g5,g6,g7,g8,g9,g10,g11,g12,g13,g14,g15,g16⟩
       ·refine fun L a w'=>ex8 fun _ _ _ _ _ _ _ _=>ex2 fun _ _=>un16 fun ha hb g0 g1 g2 g3 g4 g5 g6 g7 g8 g9 g10 g11 g12 g13=>un2 fun g14 g15 g16 hl hd K hK=>?_;subst ha
        dsimp only at hK ⊢;go_simp;exact hK _ _ ⟨_,_,_,_,_,_,_,_,_,_,rfl,hb,g0,fun _=>rfl,g2,g3,g4,g5,g6,g7,g8,g9,g10,g11,g12,g13,g14,g15,g16⟩
       ·refine fun L a w'=>ex8 fun _ _ _ _ _ _ _ _=>ex2 fun _ _=>un16 fun ha hb g0 g1 g2 g3 g4 g5 g6 g7 g8 g9 g10 g11 g12 g13=>un2 fun g14 g15 g16 hl hd K hK=>?_;subst ha
        simp[Region.binds]at hd;dsimp only at hK ⊢;have e1:=g1 (by simp[hd]);subst e1;go_simp;exact hK _ _ ⟨_,_,_,_,_,_,_,_,_,_,rfl,hb,g0,g1,fun _=>rfl,g3,g4,g5,g6,g7,g8,g9,g10,g11,g12,g13,g14,g15,g16⟩
       ·refine fun L a w'=>ex8 fun _ _ _ _ _ _ _ _=>ex2 fun _ _=>un16 fun ha hb g0 g1 g2 g3 g4 g5 g6 g7 g8 g9 g10 g11 g12 g13=>un2 fun g14 g15 g16 hl hd K hK=>?_;subst ha
        simp[Region.binds]at hd;dsimp only at hK ⊢;have e2:=g2 (by simp[hd]);subst e2;go_simp;exact hK _ _ ⟨_,_,_,_,_,_,_,_,_,_,rfl,hb,g0,g1,g2,fun _=>rfl,g4,g5,g6,g7,g8,g9,g10,g11,g12,g13,g14,g15,g16⟩
       ·refine fun L a w'=>ex8 fun _ _ _ _ _ _ _ _=>ex2 fun _ _=>un16 fun ha hb g0 g1 g2 g3 g4 g5 g6 g7 g8 g9 g10 g11 g12 g13=>un2 fun g14 g15 g16 hl hd K hK=>?_;subst ha
        simp[Region.binds]at hd;dsimp only at hK ⊢;have e3:=g3 (by simp[hd]);subst e3;have hl9:=hl;have h10:L 10=false:=by
         cases h:L 10 with
         | false=>rfl
         | true=>have:=(g15 (g13 h)).1;rw[hl9]at this;cases this
        have cc:=(g11 h10).cell 4;simp only[jA,jZ,jS]at cc;go_simp;exact hK _ _ ⟨_,_,_,_,_,_,_,_,_,_,rfl,hb,g0,g1,g2,g3,fun _=>rfl,g5,g6,g7,g8,g9,g10,g11,g12,g13,g14,fun h=>⟨rfl,(g15 h).2⟩,g16⟩
       ·refine fun L a w'=>ex8 fun _ _ _ _ _ _ _ _=>ex2 fun _ _=>un16 fun ha hb g0 g1 g2 g3 g4 g5 g6 g7 g8 g9 g10 g11 g12 g13=>un2 fun g14 g15 g16 hl hd K hK=>?_;subst ha
        dsimp only at hK ⊢;have bb:=g14;have d0:=bb.cell 0;have d1:=bb.cell 1;have d2:=bb.cell 2;have d3:=bb.cell 3;have d4:=bb.cell 4;have d5:=bb.cell 5;have d6:=bb.cell 6;have d7:=bb.cell 7;simp only[jA,jZ,jS]at d0 d1 d2 d3 d4 d5 d6 d7;go_simp;exact hK _ _ ⟨_,_,_,_,_,_,_,_,_,_,rfl,hb,g0,g1,g2,g3,g4,fun _=>rfl,g6,g7,g8,g9,g10,g11,g12,g13,g14,g15,g16⟩
       ·refine fun L a w'=>ex8 fun _ _ _ _ _ _ _ _=>ex2 fun _ _=>un16 fun ha hb g0 g1 g2 g3 g4 g5 g6 g7 g8 g9 g10 g11 g12 g13=>un2 fun g14 g15 g16 hl hd K hK=>?_;subst ha
        simp[Region.binds]at hd;dsimp only at hK ⊢;have e5:=g5 (by simp[hd]);subst e5;have hl9:=hl;have h7:L 7=false:=by
         cases h:L 7 with
         | false=>rfl
         | true=>have:=(g15 h).2;rw[hl9]at this;cases this
        go_simp;exact hK _ _ ⟨_,_,_,_,_,_,_,_,_,_,rfl,hb.alloc _,g0,g1,g2,g3,g4,g5,fun _=>⟨_,rfl,g16,Blk.new _ _ _⟩,(fun h=>absurd (show L 7=true from h) (by rw[h7];simp)),g8,g9,fun h=>⟨(g10 h).1.below (below_new _ _),(g10 h).2.alloc _⟩,fun h=>(g11 h).alloc _,fun h=>(g12 h).alloc _,g13,g14.alloc _,fun h=>⟨(g15 h).1,rfl⟩,Nat.le_trans g16 (by simp)⟩
       ·refine fun L a w'=>ex8 fun _ _ _ _ _ _ _ _=>ex2 fun _ _=>un16 fun ha hb g0 g1 g2 g3 g4 g5 g6 g7 g8 g9 g10 g11 g12 g13=>un2 fun g14 g15 g16 hl hd K hK=>?_;subst ha
        simp[Region.binds]at hd;dsimp only at hK ⊢;have e4:=g4 (by simp[hd]);subst e4;have hl9:=hl;have h10:L 10=false:=by
         cases h:L 10 with
         | false=>rfl
         | true=>have:=g13 h;rw[hl9]at this;cases this
        have h4:L 4=true:=by simp[hd]
        have h6:L 6=true:=by simp[hd]
        obtain ⟨A9,e6,hN6,hB6⟩:=g6 h6;subst e6;obtain ⟨oo,ou⟩:=g10 hl;have oo2:=oo;obtain ⟨us,hus1,hus2,hus3⟩:=oo2;have hws9:base≤w'.heap.size:=Nat.le_trans (Nat.le_trans HBS.out HK7.out.size) g16;refine wp_app (P:=Tryz.prog) (n:=a2.length) (xs:=nds a2 us) (m:=1) (.tmp 50) (.tmp 52) hus2 (blk_slN (n:=1) (sz:=8) hB6 rfl (by unfold maxLen;omega)) hws9 under_nd info_nd rfl (by decide) (one8 _ _ _ _ _ _ _ _ _ _) (by omega) (by omega) rfl rfl rfl ?_
        intro v9 w9 ho9 hg9 hv9
        have hsn:=nd_snoc hus1 hus2 hus3 ou ho9 hg9;obtain ⟨g10x,c10x,ev9⟩:∃ g9 c9,v9=.slice (some ⟨g9,0,none⟩) (a2.length+1) c9:=by
         rcases ho9.2 with ⟨_,h0⟩|⟨g1,cap1,cur1,e1,_⟩
         ·omega
         ·exact ⟨g1,cap1,e1⟩
        subst ev9;have hvb:nv.ownBlock=some g10x∨w.heap.size≤g10x:=by
         rcases hv9 with h|h
         ·exact HOB6.out _ (by rw[←h];rfl)
         ·have h2:g10x=w'.heap.size:=by injection h
          have:=HK7.out.size;omega
        exact hK _ _ ⟨_,_,_,_,_,_,_,_,_,_,rfl,hb.grown hg9 (fun k hk hk2=>by rcases HOB6.out k hk with h | h;exact .inr h;exact absurd h (by omega)),g0,g1,g2,g3,g4,g5,fun _=>⟨A9,rfl,hN6,hB6.grown hg9 (fun e=>by have:=(HO7.out.ge e).2;omega)⟩,fun _=>⟨g10x,c10x,rfl,hsn,hvb⟩,g8,g9,nofun,fun h=>(g11 h).grown hg9 (oo.ne (g11 h) (by decide)),(fun h=>absurd (show L 10=true from h) (by rw[h10];simp)),fun _=>rfl,g14.grown hg9 HNV6.out,fun _=>⟨h4,h6⟩,Nat.le_trans g16 hg9.size⟩
       ·refine fun L a w'=>ex8 fun _ _ _ _ _ _ _ _=>ex2 fun _ _=>un16 fun ha hb g0 g1 g2 g3 g4 g5 g6 g7 g8 g9 g10 g11 g12 g13=>un2 fun g14 g15 g16 hl hd K hK=>?_;subst ha
        simp[Region.binds]at hd;dsimp only at hK ⊢;have e0:=g0 (by simp[hd]);subst e0;go_simp;exact hK _ _ ⟨_,_,_,_,_,_,_,_,_,_,rfl,hb,g0,g1,g2,g3,g4,g5,g6,g7,fun _=>rfl,g9,g10,g11,g12,g13,g14,g15,g16⟩
       ·refine fun L a w'=>ex8 fun _ _ _ _ _ _ _ _=>ex2 fun _ _=>un16 fun ha hb g0 g1 g2 g3 g4 g5 g6 g7 g8 g9 g10 g11 g12 g13=>un2 fun g14 g15 g16 hl hd K hK=>?_;subst ha
        simp[Region.binds]at hd;dsimp only at hK ⊢;have e8:=g8 (by simp[hd]);subst e8;go_simp;exact hK _ _ ⟨_,_,_,_,_,_,_,_,_,_,rfl,hb,g0,g1,g2,g3,g4,g5,g6,g7,g8,fun _=>rfl,g10,g11,g12,g13,g14,g15,g16⟩
       ·refine fun L a w'=>ex8 fun _ _ _ _ _ _ _ _=>ex2 fun _ _=>un16 fun ha hb g0 g1 g2 g3 g4 g5 g6 g7 g8 g9 g10 g11 g12 g13=>un2 fun g14 g15 g16 hl hd K hK=>?_;subst ha
        simp[Region.binds]at hd;dsimp only at hK ⊢;have e9:=g9 (by simp[hd]);subst e9;have h7:L 7=true:=by simp[hd]
        obtain ⟨g11x,c11x,e6,o6,ob6⟩:=g7 h7;subst e6;have bb:=g11 hl;have cc:=bb.cell 4;simp only[jA,jZ,jS]at cc;have ff:=bb.frozen 4;have hlt:=bb.lt;go_simp;have kg:w'.grownBy (w'.setCell ⟨g,4,none⟩ (.slice (some ⟨g11x,0,none⟩) (a2.length+1) c11x)) (some g):=grownBy_set w' ⟨g,4,none⟩ (.slice (some ⟨g11x,0,none⟩) (a2.length+1) c11x);have kb:=bb.set_ 4 (.slice (some ⟨g11x,0,none⟩) (a2.length+1) c11x);simp only[jI,jY,jT]at kb;exact hK _ _ ⟨_,_,_,_,_,_,_,_,_,_,rfl,hb.grown kg (fun k hk _=>by injection hk with hk;exact .inl hk.symm),g0,g1,g2,g3,g4,g5,fun h=>(g6 h).elim fun A9 h=>⟨A9,h.1,h.2.1,h.2.2.row kg (show A9≠g by have:=h.2.1;have:=HB7.out.lt;omega)⟩,fun _=>⟨g11x,c11x,rfl,o6.onlyP bb kg,ob6⟩,g8,g9,(fun h=>absurd (show L 7=false from h) (by rw[h7];simp)),nofun,fun _=>kb,fun _=>h7,g14.row kg (fun e=>hgN e.symm),g15,Nat.le_trans g16 kg.size⟩
      intro a w9 hI
      revert hI;refine ex8 fun _ _ _ _ _ _ _ _=>ex2 fun _ _=>un16 fun ha hb g0 g1 g2 g3 g4 g5 g6 g7 g8 g9 g10 g11 g12 g13=>un2 fun g14 g15 g16=>?_;subst ha
      have e0:=g0 rfl;subst e0;have e1:=g1 rfl;subst e1;have e2:=g2 rfl;subst e2;have e3:=g3 rfl;subst e3;have e4:=g4 rfl;subst e4;have e5:=g5 rfl;subst e5;have e8:=g8 rfl;subst e8;have e9:=g9 rfl;subst e9;obtain ⟨A9,e6,_,_⟩:=g6 rfl;subst e6;obtain ⟨g9x,c9x,e7,o7,ob7⟩:=g7 rfl;subst e7;have kb:=Lib.hid (g12 rfl);have HO9:=Lib.hid o7;have HK9:=Lib.hid hb;have HOB9:=Lib.hid ob7;clear g6 g7 g10 g11 g12 g13 g14 g15 g16 o7 ob7 hb;go_wp2;go_ret;rw[HR.out];exact ⟨HK9.out,rfl,hi4,by simp,by simp;omega,_,kb.out,HO9.out,fun b hb=>by
       injection hb with hb
       subst hb;exact HOB9.out⟩
theorem pnodeT_any (w0:World) (g base:Nat) (sv:Value) (key wh e0:Int) (S:ByteArray) (cs:List Col) (hx:PCtx w0 g sv S cs base):∀ f,HNode w0 g sv key wh e0 S cs base f
 | 0=>fun i nv l w hB hi hf=>absurd hf (by omega)
 | f+1=>pnode_step w0 g f base sv key wh e0 S cs hx (pnodeT_any w0 g base sv key wh e0 S cs hx f)
open Go.RowKit Go.Sort

def RetPar (w:World) (r:List Nd×Nat×Int) (e:Ending) (w':World):Prop :=
 ∃ nv:Value,e=.returned (.tuple #[nv,.int .i64 (r.2.1:Nat),.int .i64 r.2.2])∧OwnNd w' w.heap.size nv r.1∧Below w.heap.size w w'
theorem RetPar.mk_ {w w':World} {r:List Nd×Nat×Int} {l:List Nd} {k:Nat} {x y:Int} {nv:Value} (h:r=(l,k,x)) (hy:y=(k:Int)) (ho:OwnNd w' w.heap.size nv l) (hb:Below w.heap.size w w'):RetPar w r (.returned (.tuple #[nv,.int .i64 y,.int .i64 x])) w':=by subst h hy;exact ⟨nv,rfl,ho,hb⟩
section
variable {cs:List Col} {key:Int} {T:List UInt8} {j:Nat} {e:Int} {l:List Nd} {i:Nat}
theorem pp_sch (h:schkV cs key≠0):parP cs key T=([],0,schkV cs key):=by unfold parP;rw[if_pos h]
theorem pp_big (h:schkV cs key=0) (h1:65536<T.length):parP cs key T=([],0,7):=by unfold parP;rw[if_neg (by rw[h];simp),if_pos h1]
theorem pp_nil (h:schkV cs key=0) (h1:T.length=0):parP cs key T=([],0,0):=by unfold parP;rw[if_neg (by rw[h];simp),if_neg (by omega),if_pos h1]
theorem pp_go (h:schkV cs key=0) (h1:¬ 65536<T.length) (h2:T.length≠0):parP cs key T=match parN cs T (T.length+1) 0 [] with
  | .error (j,e)=>([],j,e)
  | .ok (i,l)=>if sk T i<T.length then ([],sk T i,2) else (l,0,0):=by unfold parP;rw[if_neg (by rw[h];simp),if_neg h1,if_neg h2];rfl
theorem pp_err (h:schkV cs key=0) (h1:¬ 65536<T.length) (h2:T.length≠0) (h3:parN cs T (T.length+1) 0 []=.error (j,e)):parP cs key T=([],j,e):=by rw[pp_go h h1 h2,h3]
theorem pp_more (h:schkV cs key=0) (h1:¬ 65536<T.length) (h2:T.length≠0) (h3:parN cs T (T.length+1) 0 []=.ok (i,l)) (h4:sk T i<T.length):parP cs key T=([],sk T i,2):=by
 rw[pp_go h h1 h2,h3];show (if sk T i<T.length then _ else _)=_
 rw[if_pos h4]
theorem pp_ok (h:schkV cs key=0) (h1:¬ 65536<T.length) (h2:T.length≠0) (h3:parN cs T (T.length+1) 0 []=.ok (i,l)) (h4:¬ sk T i<T.length):parP cs key T=(l,0,0):=by
 rw[pp_go h h1 h2,h3];show (if sk T i<T.length then _ else _)=_
 rw[if_neg h4]
end
set_option maxRecDepth 100000 in
set_option maxHeartbeats 8000000 in
theorem pparse_any (v:Value) (key:Int) (cs:List Col) (S:ByteArray) (w:World) (hE:Env w) (hs:Sl w 4 v cs.length (cols cs)) (hcl:cs.length≤9223372036854775807) (hnm:∀ c ∈ cs,c.nm.size≤9223372036854775807) (hS:S.size≤9223372036854775807) :
  Calls Tryz.prog 8 #[.agg #[v,.int .i64 key],.string S] w (RetPar w (parP cs key S.data.toList)):=by
 obtain ⟨A,cA,rfl,hc1,hc2⟩:=hs.form;obtain ⟨N0,hN0⟩:∃ N,w.heap.size=N:=⟨_,rfl⟩
 obtain ⟨W,hW⟩:∃ W,W=w.alloc (.cells #[.slice A cs.length cA,.int .i64 key] 28):=⟨_,rfl⟩
 have hb0:Below w.heap.size w W:=by rw[hW];exact (Below.refl _ _).alloc (Nat.le_refl _) _
 have BS:=Lib.hid (show Blk W N0 28 #[.slice A cs.length cA,.int .i64 key] by rw[hW,←hN0];exact Blk.new _ _ _);have HB0:=Lib.hid hb0;have HC:=Lib.hid (schk_any (.slice A cs.length cA) cs key W (hs.below hb0) hcl hnm);have HE:=Lib.hid hE;have HS:=Lib.hid hs;have hT:=size_data S;have HP0:=Lib.hid (pp_sch (cs:=cs) (key:=key) (T:=S.data.toList));have HP1:=Lib.hid (pp_big (cs:=cs) (key:=key) (T:=S.data.toList));have HP2:=Lib.hid (pp_nil (cs:=cs) (key:=key) (T:=S.data.toList));have HP3:=Lib.hid (fun j e=>pp_err (cs:=cs) (key:=key) (T:=S.data.toList) (j:=j) (e:=e));have HP4:=Lib.hid (fun i l=>pp_more (cs:=cs) (key:=key) (T:=S.data.toList) (i:=i) (l:=l));have HP5:=Lib.hid (fun i l=>pp_ok (cs:=cs) (key:=key) (T:=S.data.toList) (i:=i) (l:=l));have HV:=Lib.hid (fun h=>schk_valid (l:=cs) (key:=key) h);rw[hT]at HP1 HP2 HP3 HP4 HP5;obtain ⟨E,hE⟩:∃ E,schkV cs key=E:=⟨_,rfl⟩
 rw[hE]at HC HP0 HP1 HP2 HP3 HP4 HP5 HV;clear hs hE hb0 hT;go_enter Tryz.func8,Tryz.ntmps8
 go_upto_region 1 with (fail)
 rw[←hW];try simp only[hN0]
 clear hW;have bb:=BS.out;have s0:=bb.cell 0;have s1:=bb.cell 1;simp only[jA,jZ,jS]at s0 s1;clear bb;go_wp2_with fail
 refine HC.out.mono ?_;rintro _ w2 ⟨rfl,hb2⟩;have HB2:=Lib.hid (bst HB0.out hb2);have BS2:=Lib.hid (BS.out.below hb2 BS.out.lt);clear hb2 HC s0 s1;by_cases hE:E=0
 case neg =>
  have q1:(E != 0)=true:=by simpa using hE
  have HR:=Lib.hid (HP0.out hE);clear hE HP0 HP1 HP2 HP3 HP4 HP5 HV;go_wp2;go_ret3
  exact RetPar.mk_ HR.out rfl (OwnNd.nil _ _) HB2.out
 case pos =>
 subst hE;have HV:=Lib.hid (HV.out rfl);by_cases hbig:65536<S.size
 ·have q2:decide (65536<S.size)=true:=decide_eq_true hbig;have q2':decide ((65536:Int)<(S.size:Int))=true:=decide_eq_true (by omega);have HR:=Lib.hid (HP1.out rfl hbig);clear hbig HP0 HP1 HP2 HP3 HP4 HP5 HV;go_wp2;go_ret3
  exact RetPar.mk_ HR.out rfl (OwnNd.nil _ _) HB2.out
 have q2:decide (65536<S.size)=false:=decide_eq_false hbig;have q2':decide ((65536:Int)<(S.size:Int))=false:=decide_eq_false (by omega);by_cases h0:S.size=0
 ·obtain ⟨e1,e2⟩:=empty_of (W:=S) (l:=[]) (by have:=size_data S;rw[h0]at this;exact List.length_eq_zero_iff.1 this) rfl;have HR:=Lib.hid (HP2.out rfl h0);clear h0 hbig HP0 HP1 HP2 HP3 HP4 HP5 HV;go_wp2;go_ret3
  exact RetPar.mk_ HR.out rfl (OwnNd.nil _ _) HB2.out
 have e1:=full_of (W:=S) (l:=S.data.toList) rfl (by intro h;have:=size_data S;rw[h]at this;exact h0 this.symm);have hS6:S.size≤65536:=by omega
 have HP3':=Lib.hid (fun j e=>HP3.out j e rfl hbig h0);have HP4':=Lib.hid (fun i l=>HP4.out i l rfl hbig h0);have HP5':=Lib.hid (fun i l=>HP5.out i l rfl hbig h0);have bb:=BS2.out;have s0:=bb.cell 0;have s1:=bb.cell 1;simp only[jA,jZ,jS]at s0 s1;clear bb HP0 HP1 HP2 HP3 HP4 HP5 hbig h0;obtain ⟨g,hg⟩:∃ g,w2.heap.size=g:=⟨_,rfl⟩
 obtain ⟨X,hX⟩:∃ X,X=w2.alloc (.cells #[.slice A cs.length cA,.int .i64 key,.string S,.int .i64 0,.slice none 0 0,.int .i64 0,.int .i64 0] 54):=⟨_,rfl⟩
 have hwg:w.heap.size≤g:=by rw[←hg];exact HB2.out.size
 have XB:=Lib.hid (show Blk X g 54 #[.slice A cs.length cA,.int .i64 key,.string S,.int .i64 ((0:Nat):Int),.slice none 0 0,.int .i64 0,.int .i64 0] by rw[hX,←hg];exact Blk.new _ _ _);have XK:=Lib.hid (show Below w.heap.size w X by rw[hX];exact bst HB2.out (below_new _ _));have hx:PCtx w g (.slice A cs.length cA) S cs w.heap.size:=⟨hS6,HS.out,HE.out,by have:=HV.out.2.1;omega,hwg,Nat.le_refl _⟩
 have HN:=Lib.hid (pnodeT_any w g w.heap.size (.slice A cs.length cA) key 0 0 S cs hx (S.size+1) 0 (.slice none 0 0) [] X XB.out (Nat.zero_le _) (by omega) (OwnNd.nil _ _) (by simp) XK.out XK.out.size);clear hx HV HS;go_upto_region 9 with (fail)
 rw[←hX];try simp only[hg]
 clear hX hg s0 s1;go_wp2_with fail
 refine HN.out.mono ?_;rintro e w3 hret;cases h:parN cs S.data.toList (S.size+1) 0 [] with
 | error r =>
  obtain ⟨k,er⟩:=r;rw[h]at hret;have HR:=Lib.hid (HP3'.out k er h);obtain ⟨hk,rfl,i0,n0,c0,A0,hn,hB⟩:=hret;have HB3:=Lib.hid hB;have HK3:=Lib.hid (below_kp XK.out hk (fun q h=>by
   rcases h with h|h
   ·omega
   ·cases h) XK.out.size)
  clear hk hB h HP3' HP4' HP5' HN;have bb:=HB3.out;have c5:=bb.cell 5;have c6:=bb.cell 6;simp only[jA,jZ,jS]at c5 c6;clear bb;go_wp2_with fail
  go_quiet (fail)
  go_wp2;go_ret3
  exact RetPar.mk_ HR.out rfl (OwnNd.nil _ _) (below_drewN HK3.out _)
 | ok r =>
  obtain ⟨i,l⟩:=r;rw[h]at hret;obtain ⟨hk,rfl,hi,hl1,hl2,nv,hB,hO,hob⟩:=hret;have HB3:=Lib.hid hB;have HO3:=Lib.hid hO;have HK3:=Lib.hid (below_kp XK.out hk (fun q h=>by
   rcases h with h|h
   ·omega
   ·cases h) XK.out.size)
  have HP4:=Lib.hid (HP4'.out i l h);have HP5:=Lib.hid (HP5'.out i l h);obtain ⟨AN,cN,rfl,_,_⟩:=hO.form;clear hk hB hO hob h HP3' HP4' HP5' HN;go_wp2_with fail
  refine (pskip_any g i _ _ key 0 0 S w3 HB3.out hi hS6).mono ?_;rintro _ w4 ⟨rfl,hB,ho⟩;have HB4:=Lib.hid hB;have HO4:=Lib.hid (HO3.out.onlyP HB3.out ho);have HK4:=Lib.hid (below_only HK3.out ho hwg HK3.out.size);clear hB ho;obtain ⟨m,hm⟩:∃ m,sk S.data.toList i=m:=⟨_,rfl⟩
  rw[hm]at HB4 HP4 HP5;clear hm;have bb:=HB4.out;have c3:=bb.cell 3;have c4:=bb.cell 4;simp only[jA,jZ,jS]at c3 c4;clear bb;by_cases hlt:m<S.size
  ·have q3:decide (m<S.size)=true:=decide_eq_true hlt;have q3':decide ((m:Int)<(S.size:Int))=true:=decide_eq_true (by omega);have HR:=Lib.hid (HP4.out hlt);clear hlt HP4 HP5;go_wp2_with fail
   go_quiet (fail)
   go_wp2;go_ret3
   exact RetPar.mk_ HR.out rfl (OwnNd.nil _ _) (below_drewN HK4.out _)
  ·have q3:decide (m<S.size)=false:=decide_eq_false hlt;have q3':decide ((m:Int)<(S.size:Int))=false:=decide_eq_false (by omega);have HR:=Lib.hid (HP5.out hlt);clear hlt HP4 HP5;go_wp2;go_ret3
   exact RetPar.mk_ HR.out rfl HO4.out HK4.out
theorem GenP.good {cs:List Col} {key:Int} {l:List Nd} (h:GenP cs l) (hs:schkV cs key=0):GoodP cs l :=
 ⟨schk_good hs,⟨by have:=h.len;omega,fun i x hx=>(h.ok i x hx).ok⟩,fun x hx=>by obtain ⟨i,hi⟩:=List.mem_iff_getElem?.1 hx;have:=(h.ok i x hi).rv;exact ⟨this.1,this.2.1⟩,
  fun x hx v hv=>by obtain ⟨i,hi⟩:=List.mem_iff_getElem?.1 hx;have:=(h.ok i x hi).rl v hv;exact ⟨this.1,this.2.1⟩⟩
theorem GoodP.chk {cs:List Col} {key:Int} {l:List Nd} (h:GoodP cs l) (hs:schkV cs key=0):pchkV cs key l=0:=by
 unfold pchkV
 rw[if_neg (by rw[hs];simp),if_neg (by have:=h.ok.len;omega)];refine firstE_none fun k hk=>?_
 have hx:=List.getElem?_eq_getElem hk;rw[nodeE_at hx];exact h.ok.node k _ hx
open Go.RowKit
theorem rtruth_any (b:Bool) (w:World):Calls Tryz.prog 88 #[.bool b] w fun e w'=>e=.returned (.int .i64 (if b then 1 else 0))∧w=w':=by
 cases b
 all_goals
  go_enter Tryz.func88,Tryz.ntmps88
  go_wp2;go_ret;exact ⟨rfl,rfl⟩
theorem notT_in {a:Int} (h0:0≤a) (h1:a≤2):0≤notT a∧notT a≤2:=by unfold notT;split <;> omega
theorem andT_in (a b:Int):0≤andT a b∧andT a b≤2:=by unfold andT;split <;> (try split) <;> omega
theorem orT_in (a b:Int):0≤orT a b∧orT a b≤2:=notT_in (andT_in _ _).1 (andT_in _ _).2
theorem rnot_any (a:Int) (w:World) (h0:0≤a) (h1:a≤2):Calls Tryz.prog 64 #[.int .i64 a] w fun e w'=>e=.returned (.int .i64 (notT a))∧w=w':=by
 rcases (by omega:a=0∨a=1∨a=2) with rfl|rfl|rfl
 all_goals
  go_enter Tryz.func64,Tryz.ntmps64
  go_wp2;go_ret;exact ⟨rfl,rfl⟩
theorem rand_any (a b:Int) (w:World) (h0:0≤a) (h1:a≤2) (h2:0≤b) (h3:b≤2):Calls Tryz.prog 62 #[.int .i64 a,.int .i64 b] w fun e w'=>e=.returned (.int .i64 (andT a b))∧w=w':=by
 rcases (by omega:a=0∨a=1∨a=2) with rfl|rfl|rfl <;> rcases (by omega:b=0∨b=1∨b=2) with rfl|rfl|rfl
 all_goals
  go_enter Tryz.func62,Tryz.ntmps62
  go_wp2;go_ret;exact ⟨rfl,rfl⟩
theorem ror_any (a b:Int) (w:World) (h0:0≤a) (h1:a≤2) (h2:0≤b) (h3:b≤2):Calls Tryz.prog 63 #[.int .i64 a,.int .i64 b] w fun e w'=>e=.returned (.int .i64 (orT a b))∧w=w':=by
 have ia:=notT_in h0 h1;have ib:=notT_in h2 h3;have ic:=andT_in (notT a) (notT b);have HA:=Lib.hid (fun X=>rnot_any a X h0 h1);have HB:=Lib.hid (fun X=>rnot_any b X h2 h3);have HC:=Lib.hid (fun X=>rand_any (notT a) (notT b) X ia.1 ia.2 ib.1 ib.2);have HD:=Lib.hid (fun X=>rnot_any (andT (notT a) (notT b)) X ic.1 ic.2);have HE:=Lib.hid (show notT (andT (notT a) (notT b))=orT a b from rfl);clear h0 h1 h2 h3 ia ib ic;go_enter Tryz.func63,Tryz.ntmps63
 go_wp2_with fail
 refine (HA.out _).mono ?_;rintro _ _ ⟨rfl,rfl⟩;go_wp2_with fail
 refine (HB.out _).mono ?_;rintro _ _ ⟨rfl,rfl⟩;go_wp2_with fail
 refine (HC.out _).mono ?_;rintro _ _ ⟨rfl,rfl⟩;go_wp2_with fail
 refine (HD.out _).mono ?_;rintro _ _ ⟨rfl,rfl⟩;go_wp2;rw[HE.out];go_ret;exact ⟨rfl,rfl⟩
def holdsV (op k:Int):Bool:=if op=1 then k==0 else if op=2 then k != 0 else if op=3 then decide (k<0) else if op=4 then decide (k≤0) else if op=5 then decide (k > 0) else decide (k ≥ 0)
theorem rholds_any (op k:Int) (w:World) (h1:1≤op) (h2:op≤6):Calls Tryz.prog 89 #[.int .i64 op,.int .i64 k] w fun e w'=>e=.returned (.bool (holdsV op k))∧w=w':=by
 rcases (by omega:op=1∨op=2∨op=3∨op=4∨op=5∨op=6) with rfl|rfl|rfl|rfl|rfl|rfl
 all_goals
  clear h1 h2;go_enter Tryz.func89,Tryz.ntmps89
  go_wp2;go_ret;exact ⟨rfl,rfl⟩
end Go.Proofs.YtjnamjkdjcndiaaGreatDoor
