/-
  Words, plain laws and contracts on which the walks lean, in one text.
-/
import Derived.Test.YtjnamjkdjcndiaaGreatDoorRd3
import Derived.Test.YtjnamjkdjcndiaaGreatDoorM21
import Derived.Test.YtjnamjkdjcndiaaGreatDoorM22
import Derived.Test.YtjnamjkdjcndiaaGreatDoorM24
namespace Go.Proofs.YtjnamjkdjcndiaaGreatDoor
open Go.RowKit Go.Sort

def RetRNode (w:World) (g:Nat) (sv:Value) (key wh:Int) (S:ByteArray) (base:Nat) (nv:Value) (r:Except (Nat×Int) (Nat×List Nd)) (e:Ending) (w':World):Prop :=
 Kp (fun i=>i=g∨nv.ownBlock=some i) w w'∧match r with
 | .ok (j,l)=>e=.returned (.int .i64 ((l.length:Int) - 1))∧j≤S.size∧1≤l.length∧l.length≤64∧∃ nv',Blk w' g 106 #[sv,.int .i64 key,.string S,.int .i64 j,nv',.int .i64 0,.int .i64 wh]∧OwnNd w' base nv' l∧(∀ b,nv'.ownBlock=some b→nv.ownBlock=some b∨w.heap.size≤b)
 | .error (k,er)=>e=.returned (.int .i64 0)∧er≠0∧∃ (i:Nat) (nv':Value),i≤S.size∧Blk w' g 106 #[sv,.int .i64 key,.string S,.int .i64 i,nv',.int .i64 er,.int .i64 k]
def HRNode (w0:World) (g:Nat) (sv:Value) (key wh:Int) (S:ByteArray) (cs:List Col) (base f:Nat):Prop :=
 ∀ (i:Nat) (nv:Value) (l:List Nd) (w:World),Blk w g 106 #[sv,.int .i64 key,.string S,.int .i64 i,nv,.int .i64 0,.int .i64 wh]→i≤S.size→S.size<i+f→OwnNd w base nv l→l.length≤64→Below w0.heap.size w0 w→base≤w.heap.size →
  Calls Tryz.prog 58 #[.pointer (some ⟨g,0,none⟩)] w (RetRNode w g sv key wh S base nv (parN cs S.data.toList f i l))
def MidR (w:World) (g N:Nat) (sv:Value) (key wh:Int) (S:ByteArray) (base:Nat) (nv:Value) (AP:Except (Nat×Int) (Nat×Nd×List Nd)) (PP:Except (Nat×Int) (Nat×List Nd)) (wx:World):Prop :=
 (∃ (i2:Nat) (x:Nd) (a2:List Nd) (nv6 u:Value),AP=.ok (i2,x,a2)∧i2≤S.size∧a2.length≤64∧Blk wx g 106 #[sv,.int .i64 key,.string S,.int .i64 i2,nv6,.int .i64 0,.int .i64 wh]∧OwnNd wx base nv6 a2∧(∀ b,nv6.ownBlock=some b→nv.ownBlock=some b∨w.heap.size≤b)∧nv6.ownBlock≠some N∧Blk wx N 66 #[.int .i64 x.op,.int .i64 x.col,.bool x.v.nu,.int .i64 x.v.n,.string x.v.s,u,.int .i64 x.a,.int .i64 x.b]∧wx.ownsRow base 64 3 u x.l.length (vls x.l)∧Kp (fun i=>i=g∨nv.ownBlock=some i) w wx) ∨
 (∃ (k:Nat) (er:Int) (i:Nat) (nv':Value),PP=.error (k,er)∧er≠0∧i≤S.size∧Blk wx g 106 #[sv,.int .i64 key,.string S,.int .i64 i,nv',.int .i64 er,.int .i64 k]∧Kp (fun i=>i=g∨nv.ownBlock=some i) w wx)
theorem rleafN_any (w0:World) (g i o:Nat) (sv nv:Value) (key wh:Int) (S:ByteArray) (cs:List Col) (w:World) (hB:Blk w g 106 #[sv,.int .i64 key,.string S,.int .i64 i,nv,.int .i64 0,.int .i64 wh])
  (hi:i≤S.size) (hS:S.size≤65536) (hcs:Sl w0 4 sv cs.length (cols cs)) (hE:Env w0) (hb0:Below w0.heap.size w0 w) (hg:w0.heap.size≤g) (hcl:cs.length≤1000) (h1:o≠0) (h8:o≤8) :
  Calls Tryz.prog 87 #[.pointer (some ⟨g,0,none⟩),.int .i64 (o:Int)] w (RetRLeaf w g sv nv key wh S (leafR cs S.data.toList o i)):=by
 by_cases h6:o≤6
 ·exact rleafV_any w0 g i o sv nv key wh S cs w hB hi hS hcs hE hb0 hg hcl (by omega) h6
 ·obtain rfl | rfl:o=7∨o=8:=by omega
  ·exact rleaf7_any w0 g i sv nv key wh S cs w hB hi hS hcs hE hb0 hg hcl
  ·exact rleaf8_any w0 g i sv nv key wh S cs w hB hi hS hcs hE hb0 hg hcl
section
variable {cs:List Col} {T:List UInt8} {rec:Nat→List Nd→Except (Nat×Int) (Nat×List Nd)} {op i j:Nat} {acc:List Nd} {e:Nat×Int} {x:Nd}
theorem arg_le (h:op≤8) (h1:leafR cs T op i=.error e):argP cs T rec op i acc=.error e:=by unfold argP;rw[if_neg (by omega),if_neg (by omega),h1]
theorem arg_lo (h:op≤8) (h1:leafR cs T op i=.ok (j,x)):argP cs T rec op i acc=.ok (j,x,acc):=by unfold argP;rw[if_neg (by omega),if_neg (by omega),h1]
end
theorem RetRNode.err {w w':World} {g:Nat} {sv:Value} {key wh:Int} {S:ByteArray} {base:Nat} {nv:Value} {r:Except (Nat×Int) (Nat×List Nd)} {k i:Nat} {er:Int} {nv':Value} (h:r=.error (k,er)) (hk:Kp (fun i=>i=g∨nv.ownBlock=some i) w w') (he:er≠0) (hi:i≤S.size) (hB:Blk w' g 106 #[sv,.int .i64 key,.string S,.int .i64 i,nv',.int .i64 er,.int .i64 (k:Nat)]):RetRNode w g sv key wh S base nv r (.returned (.int .i64 0)) w':=by
 subst h;exact ⟨hk,rfl,he,i,nv',hi,hB⟩
theorem Kp.oneR {g:Nat} {nv:Value} {w a b:World} (h:Kp (fun i=>i=g∨nv.ownBlock=some i) w a) (k:Only g a b):Kp (fun i=>i=g∨nv.ownBlock=some i) w b:=h.only k (.inl (.inl rfl))
theorem OwnNd.onlyR {w w':World} {base g:Nat} {v:Value} {l:List Nd} {cs:Array Value} (h:OwnNd w base v l) (hb:Blk w g 106 cs) (k:Only g w w'):OwnNd w' base v l:=h.turn k (h.ne hb (by decide)) hb (by decide)

set_option maxRecDepth 100000 in
set_option maxHeartbeats 8000000 in
theorem rnode_step (w0:World) (g f base:Nat) (sv:Value) (key wh:Int) (S:ByteArray) (cs:List Col) (hx:PCtx w0 g sv S cs base) (hrec:HRNode w0 g sv key wh S cs base f):HRNode w0 g sv key wh S cs base (f+1):=by
 intro i nv l w hB hi hf ho hl hb0 hbase
 have HX:=Lib.hid hx;have HREC:=Lib.hid hrec;have HB:=Lib.hid hB;have HO:=Lib.hid ho;have HB0:=Lib.hid hb0;have HBS:=Lib.hid hbase;have HF:=Lib.hid hf;have HI:=Lib.hid hi;obtain ⟨PP,hPP⟩:∃ PP,parN cs S.data.toList (f+1) i l=PP:=⟨_,rfl⟩
 have HPP:=Lib.hid hPP;rw[hPP];clear hx hrec hB ho hb0 hbase hf hi hPP;cases h1:expP S.data.toList 40 i with
 | error r =>
  obtain ⟨k,er⟩:=r;have HE1:=Lib.hid h1;have HR:=Lib.hid (HPP.out.symm.trans (par_e1 (cs:=cs) (f:=f) (acc:=l) h1));clear h1;go_enter Tryz.func58,Tryz.ntmps58
  go_wp2_with fail
  refine (rexp_any g i sv nv key wh S 40 w HB.out HI.out HX.out.hS).mono ?_;rintro e w1 hret;unfold RetRExp at hret
  rw[HE1.out]at hret;obtain ⟨rfl,ho,he,j0,hj0,hB⟩:=hret;have HO1:=Lib.hid ho;have HB1:=Lib.hid hB;have HER:=Lib.hid he;have q5:(er != 0)=true:=by simpa using he
  have c5:=hB.cell 5;simp only[jA,jZ,jS]at c5;clear ho hB he;go_wp2;go_ret;exact .err HR.out (Kp.refl.oneR HO1.out) HER.out hj0 HB1.out
 | ok i1 =>
  have HE1:=Lib.hid h1;obtain ⟨hi1,hi2⟩:=exp_le h1;rw[size_data]at hi2;obtain ⟨k,hk⟩:∃ k,sk S.data.toList i1=k:=⟨_,rfl⟩
  obtain ⟨T,hT⟩:∃ T,wd S.data.toList k=T:=⟨_,rfl⟩
  obtain ⟨m,hm⟩:∃ m,we S.data.toList k=m:=⟨_,rfl⟩
  have hkS:k≤S.size:=by rw[←hk,←size_data];exact sk_le (by rw[size_data];exact hi2)
  have hmS:m≤S.size:=by rw[←hm,←size_data];exact we_le (by rw[size_data];exact hkS)
  have hkm:i1≤m:=by have:=sk_ge S.data.toList i1;have:=we_ge S.data.toList k;omega
  obtain ⟨o,ho⟩:∃ o,opW T=o:=⟨_,rfl⟩
  have ho11:o≤11:=by rw[←ho];exact opW_le _
  have HP0:=Lib.hid (par_w0 (cs:=cs) (f:=f) (acc:=l) h1);have HPA:=Lib.hid (fun e=>par_a (cs:=cs) (f:=f) (acc:=l) (e:=e) h1);have HPC:=Lib.hid (fun i2 x a2 e=>par_c (cs:=cs) (f:=f) (acc:=l) (i2:=i2) (x:=x) (a2:=a2) (e:=e) h1);have HPF:=Lib.hid (fun i2 x a2 i3=>par_f (cs:=cs) (f:=f) (acc:=l) (i2:=i2) (x:=x) (a2:=a2) (i3:=i3) h1);have HPO:=Lib.hid (fun i2 x a2 i3=>par_o (cs:=cs) (f:=f) (acc:=l) (i2:=i2) (x:=x) (a2:=a2) (i3:=i3) h1);have HNX:=Lib.hid (fun (w:World) (hB:Blk w g 106 #[sv,.int .i64 key,.string S,.int .i64 i1,nv,.int .i64 0,.int .i64 wh])=>rnext_any g i1 sv nv key wh S w hB hi2 HX.out.hS);rw[hk,hT,hm]at HNX;rw[hk,hT,ho]at HP0;rw[hk,hT,ho,hm]at HPA HPC HPF HPO;rw[HPP.out]at HP0 HPA HPC HPF HPO;have HOP:=Lib.hid ho;have HT0:=Lib.hid (show T=[]→o=0 from fun h=>by rw[←ho,h];decide);clear h1 hk hT hm ho;go_enter Tryz.func58,Tryz.ntmps58
  go_wp2_with fail
  refine (rexp_any g i sv nv key wh S 40 w HB.out HI.out HX.out.hS).mono ?_;rintro e w1 hret;unfold RetRExp at hret
  rw[HE1.out]at hret;obtain ⟨rfl,ho,hB⟩:=hret;have HK1:=Lib.hid ((Kp.refl (S:=fun i=>i=g∨nv.ownBlock=some i) (w:=w)).oneR ho);have HO1:=Lib.hid (HO.out.onlyR HB.out ho);have HB1:=Lib.hid hB;have c5:=hB.cell 5;simp only[jA,jZ,jS]at c5;clear ho hB;go_wp2_with fail
  refine (HNX.out w1 HB1.out).mono ?_;rintro _ w2 ⟨W,hW,rfl,ho,hBe,hBn⟩;have HK2:=Lib.hid (HK1.out.oneR ho);have HO2:=Lib.hid (HO1.out.onlyR HB1.out ho);have HW:=Lib.hid (show opW W.data.toList=o by rw[hW];exact HOP.out);clear ho hW HNX HOP HO1 HK1 HB1 c5;go_wp2_with fail
  refine (roper_any W w2).mono ?_;rintro _ w3 ⟨rfl,hb3⟩;rw[HW.out];have HK3:=Lib.hid (HK2.out.below hb3);have HO3:=Lib.hid (HO2.out.below hb3);have HBE:=Lib.hid (fun h:T=[]=>(hBe h).below hb3 (hBe h).lt);have HBN:=Lib.hid (fun h:T≠[]=>(hBn h).below hb3 (hBn h).lt);clear hb3 HK2 HO2 hBe hBn HW;by_cases ho0:o=0
  ·have q0:((o:Int)==0)=true:=by rw[beq_iff_eq];omega
   have HR:=Lib.hid (HP0.out ho0);clear HP0 HPA HPC HPF HPO;by_cases hTe:T=[]
   ·have HB3:=Lib.hid (HBE.out hTe);clear HBE HBN hTe HT0;go_wp2_with fail
    refine (rfail_later g m sv nv key k 2 _ _ S w3 HB3.out (by decide)).mono ?_;rintro _ w4 ⟨rfl,hB,ho⟩;have HB4:=Lib.hid hB;have HK4:=Lib.hid (HK3.out.oneR ho);have c5:=hB.cell 5;simp only[jA,jZ,jS]at c5;clear hB ho;go_wp2;go_ret;exact .err HR.out HK4.out (by decide) hmS HB4.out
   ·have HB3:=Lib.hid (HBN.out hTe);clear HBE HBN hTe HT0;go_wp2_with fail
    refine (rfail_first g m sv nv key wh _ _ S w3 HB3.out).mono ?_;rintro _ w4 ⟨rfl,hB,ho⟩;have HB4:=Lib.hid hB;have HK4:=Lib.hid (HK3.out.oneR ho);have c5:=hB.cell 5;simp only[jA,jZ,jS]at c5;clear hB ho;go_wp2;go_ret;exact .err HR.out HK4.out (by decide) hmS HB4.out
  ·have q0:((o:Int)==0)=false:=by rw[beq_eq_false_iff_ne];omega
   have HB3:=Lib.hid (HBN.out (fun h=>ho0 (HT0.out h)));have c5:=HB3.out.cell 5;simp only[jA,jZ,jS]at c5;have QPA:=Lib.hid (fun e=>HPA.out e ho0);have QPC:=Lib.hid (fun i2 x a2 e=>HPC.out i2 x a2 e ho0);have QPF:=Lib.hid (fun i2 x a2 i3=>HPF.out i2 x a2 i3 ho0);have QPO:=Lib.hid (fun i2 x a2 i3=>HPO.out i2 x a2 i3 ho0);obtain ⟨AP,hAP⟩:∃ AP,argP cs S.data.toList (parN cs S.data.toList f) o m l=AP:=⟨_,rfl⟩
   have HAP:=Lib.hid hAP;rw[hAP]at QPA QPC QPF QPO;clear HP0 HPA HPC HPF HPO HBE HBN HT0 hAP;obtain ⟨W5,hW5⟩:∃ W5,W5=w3.alloc (.cells #[.int .i64 (o:Int),.int .i64 0,.bool false,.int .i64 0,.string { data:=#[] },.slice none 0 0,.int .i64 0,.int .i64 0] 66):=⟨_,rfl⟩
   obtain ⟨N,hN⟩:∃ N,w3.heap.size=N:=⟨_,rfl⟩
   have hwN:w.heap.size≤N:=by rw[←hN];exact HK3.out.size
   have HN5:=Lib.hid (show Blk W5 N 66 #[.int .i64 (o:Int),.int .i64 0,.bool false,.int .i64 0,.string { data:=#[] },.slice none 0 0,.int .i64 0,.int .i64 0] by rw[hW5,←hN];exact Blk.new _ _ _);have HK5:=Lib.hid (show Kp (fun i=>i=g∨nv.ownBlock=some i) w W5 by rw[hW5];exact HK3.out.alloc _);have HO5:=Lib.hid (show OwnNd W5 base nv l by rw[hW5];exact HO3.out.below (below_new _ _));have HB5:=Lib.hid (show Blk W5 g 106 #[sv,.int .i64 key,.string S,.int .i64 m,nv,.int .i64 0,.int .i64 wh] by rw[hW5];exact HB3.out.alloc _);have hnvN:=Lib.hid (show nv.ownBlock≠some N by intro h;have:=(HO3.out.ge h).2;omega);have hgN:g≠N:=by have:=HB3.out.lt;omega
   have HBL5:=Lib.hid (show Below w0.heap.size w0 W5 from below_kp HB0.out HK5.out (fun q h=>by
    rcases h with h|h
    ·have:=HX.out.hg;omega
    ·have:=(HO.out.ge h).1;have:=HX.out.hb;omega) HB0.out.size)
   have hn0:w0.heap.size≤N:=by have:=HB0.out.size;omega
   have hmf:S.size<m+f:=by have:=HF.out;omega
   have HN5l:=HN5.out.lt;go_upto_block 0 with (fail)
   rw[←hW5];try simp only[hN]
   clear hW5 hN HK3 HO3 HB3 c5;go_cut [] from 33 to 55 (fun wx=>MidR w g N sv key wh S base nv AP PP wx)
   case first =>
    by_cases h8:o≤8
    ·have q8:decide ((o:Int)≤8)=true:=decide_eq_true (by omega);have HLF:=Lib.hid (rleafN_any w0 g m o sv nv key wh S cs W5 HB5.out hmS HX.out.hS HX.out.hcs HX.out.hE HBL5.out HX.out.hg HX.out.hcl ho0 h8);go_wp2_with fail
     refine (rleaf_any (o:Int) W5 (b:=true) (decide_eq_true (by omega)) q8).mono ?_;rintro _ _ ⟨rfl,rfl⟩;go_wp2_with fail
     refine HLF.out.mono ?_;rintro _ w6 ⟨x,A,n,c,u,rfl,rfl,hk,hr⟩;have HN6:=Lib.hid (HN5.out.kp hk (show ¬ N=g by omega));have HK6:=Lib.hid (HK5.out.then' hk (fun q hq h=>.inl h));have HO6:=Lib.hid (HO5.out.kp hk (fun b hb h=>HO5.out.ne HB5.out (by decide) (by rw[hb];exact congrArg some (show b=g from h))) (fun u n xs hu b hb h=>own_blk_ne hu HB5.out (by decide) (by rw[hb];exact congrArg some (show b=g from h))));have HS6:=Lib.hid hk.size;have HRR:=Lib.hid hr;clear hk hr HLF;have bb:=HN6.out;have n0:=bb.cell 0;have n1:=bb.cell 1;have n2:=bb.cell 2;have n3:=bb.cell 3;have n4:=bb.cell 4;have n5:=bb.cell 5;have n6:=bb.cell 6;have n7:=bb.cell 7;have m0:=bb.frozen 0;have m1:=bb.frozen 1;have m2:=bb.frozen 2;have m3:=bb.frozen 3;have m4:=bb.frozen 4;have m5:=bb.frozen 5;have m6:=bb.frozen 6;have m7:=bb.frozen 7;simp only[jA,jZ,jS]at n0 n1 n2 n3 n4 n5 n6 n7;have hlt:=bb.lt;clear bb;go_wp2;go_meet
     have kb:=bset8 HN6.out (.int .i64 x.op) (.int .i64 x.col) (.bool x.v.nu) (.int .i64 x.v.n) (.string x.v.s) (.slice A n c) (.int .i64 x.a) (.int .i64 x.b) rfl;have kg:=grownN8 w6 N (.int .i64 x.op) (.int .i64 x.col) (.bool x.v.nu) (.int .i64 x.v.n) (.string x.v.s) (.slice A n c) (.int .i64 x.a) (.int .i64 x.b);have hr:=HRR.out;have hKF:=HK6.out.grown kg (fun i h hi=>absurd hi (by have h2:N=i:=Option.some.inj h;omega));cases hlf:leafR cs S.data.toList o m with
     | error r =>
      obtain ⟨k2,er⟩:=r;rw[hlf]at hr;obtain ⟨he,j0,hj0,hB⟩:=hr;exact .inr ⟨k2,er,j0,nv,QPA.out (k2,er) (HAP.out.symm.trans (arg_le h8 hlf)),he,hj0,hB.row kg hgN,hKF⟩
     | ok r =>
      obtain ⟨i2,y⟩:=r;rw[hlf]at hr;rcases hr with ⟨hxy,hrow,hi2S,hB⟩|⟨hex,j0,hj0,hB⟩
      ·subst hxy;exact .inl ⟨i2,x,l,nv,.slice A n c,HAP.out.symm.trans (arg_lo h8 hlf),hi2S,hl,hB.row kg hgN,HO6.out.turn kg hnvN.out HN6.out (by decide),fun b h=>.inl h,hnvN.out,kb,own_grown (own_mono hrow (Nat.le_trans HBS.out HK5.out.size)) kg (fun b hb e=>own_blk_ne hrow HN6.out (by decide) (by rw[hb,e])),hKF⟩
      ·exact .inr ⟨_,2,j0,nv,QPC.out i2 y l _ (HAP.out.symm.trans (arg_lo h8 hlf)) hex,by decide,hj0,hB.row kg hgN,hKF⟩
    ·have q8:decide ((o:Int)≤8)=false:=decide_eq_false (by omega);have HC:=Lib.hid (HREC.out m nv l W5 HB5.out hmS hmf HO5.out hl HBL5.out (Nat.le_trans HBS.out HK5.out.size));have hpos:=par_pos cs S.data.toList f m l;go_wp2_with fail
     refine (rleaf_any (o:Int) W5 (b:=false) (decide_eq_true (by omega)) q8).mono ?_;rintro _ _ ⟨rfl,rfl⟩;by_cases h11:o=11
     ·subst h11;cases hr:parN cs S.data.toList f m l with
      | error r =>
       obtain ⟨k2,er⟩:=r;have HE:=Lib.hid hr;have HA:=Lib.hid (arg_n1 (cs:=cs) (T:=S.data.toList) hr);clear hr hpos;go_wp2_with fail
       refine HC.out.mono ?_;rintro e w6 hret;rw[HE.out]at hret;obtain ⟨hk,rfl,her,j0,nv0,hj0,hB⟩:=hret;have HB6:=Lib.hid hB;have HK6:=Lib.hid (HK5.out.then' hk (fun q hq h=>h));have HN6:=Lib.hid (HN5.out.kp hk (by rintro (h | h);exact hgN h.symm;exact hnvN.out h));have HER:=Lib.hid her;have q5:(er==0)=false:=by simpa using her
       have c5:=hB.cell 5;simp only[jA,jZ,jS]at c5;clear hk her hB;have bb:=HN6.out;have n6:=bb.cell 6;have n7:=bb.cell 7;have m6:=bb.frozen 6;have m7:=bb.frozen 7;simp only[jA,jZ,jS]at n6 n7;have hlt:=bb.lt;clear bb;go_wp2;go_meet
       have kg:=grownBy_set w6 ⟨N,6,none⟩ (.int .i64 0);exact .inr ⟨k2,er,j0,nv0,QPA.out (k2,er) (HAP.out.symm.trans HA.out),HER.out,hj0,HB6.out.row kg hgN,HK6.out.grown kg (fun i h hi=>absurd hi (by have h2:N=i:=Option.some.inj h;omega))⟩
      | ok r =>
       obtain ⟨j,l1⟩:=r;have HE6:=Lib.hid hr;have HA:=Lib.hid (arg_n2 (cs:=cs) (T:=S.data.toList) hr);clear hr hpos;go_wp2_with fail
       refine HC.out.mono ?_;rintro e w6 hret;rw[HE6.out]at hret;obtain ⟨hk,rfl,hj6,hl6a,hl6b,nv6,hB,hO,hob⟩:=hret;have HB6:=Lib.hid hB;have HK6:=Lib.hid (HK5.out.then' hk (fun q hq h=>h));have HN6:=Lib.hid (HN5.out.kp hk (by rintro (h | h);exact hgN h.symm;exact hnvN.out h));have HO6:=Lib.hid hO;have HOB6:=Lib.hid (show ∀ b,nv6.ownBlock=some b→nv.ownBlock=some b∨w.heap.size≤b from fun b h=>by
        rcases hob b h with h|h
        ·exact .inl h
        ·exact .inr (Nat.le_trans HK5.out.size h))
       have HNV6:=Lib.hid (show nv6.ownBlock≠some N from fun h=>by
        rcases hob N h with h|h
        ·exact hnvN.out h
        ·have:=HN5.out.lt;omega)
       have c5:=hB.cell 5;simp only[jA,jZ,jS]at c5;clear hk hB hO hob;have bb:=HN6.out;have n6:=bb.cell 6;have n7:=bb.cell 7;have m6:=bb.frozen 6;have m7:=bb.frozen 7;simp only[jA,jZ,jS]at n6 n7;have hlt:=bb.lt;clear bb;go_wp2;go_meet
       have kg:=grownBy_set w6 ⟨N,6,none⟩ (.int .i64 ((l1.length:Int) - 1));have kb:=HN6.out.set_ 6 (.int .i64 ((l1.length:Int) - 1));simp only[jI,jY,jT]at kb;exact .inl ⟨j,_,l1,nv6,.slice none 0 0,HAP.out.symm.trans HA.out,hj6,hl6b,HB6.out.row kg hgN,HO6.out.turn kg HNV6.out HN6.out (by decide),HOB6.out,HNV6.out,kb,World.ownsRow_nil _ _ _ _,HK6.out.grown kg (fun i h hi=>absurd hi (by have h2:N=i:=Option.some.inj h;omega))⟩
     ·have q11:((o:Int)==11)=false:=by rw[beq_eq_false_iff_ne];omega
      have h9:o=9∨o=10:=by omega
      cases hr:parN cs S.data.toList f m l with
      | error r =>
       obtain ⟨k2,er⟩:=r;have HE:=Lib.hid hr;have HA:=Lib.hid (arg_e1 (cs:=cs) (T:=S.data.toList) h9 hr);clear hr hpos;go_wp2_with fail
       refine HC.out.mono ?_;rintro e w6 hret;rw[HE.out]at hret;obtain ⟨hk,rfl,her,j0,nv0,hj0,hB⟩:=hret;have HB6:=Lib.hid hB;have HK6:=Lib.hid (HK5.out.then' hk (fun q hq h=>h));have HN6:=Lib.hid (HN5.out.kp hk (by rintro (h | h);exact hgN h.symm;exact hnvN.out h));have HER:=Lib.hid her;have q5:(er==0)=false:=by simpa using her
       have c5:=hB.cell 5;simp only[jA,jZ,jS]at c5;clear hk her hB;have bb:=HN6.out;have n6:=bb.cell 6;have n7:=bb.cell 7;have m6:=bb.frozen 6;have m7:=bb.frozen 7;simp only[jA,jZ,jS]at n6 n7;have hlt:=bb.lt;clear bb;go_wp2;go_meet
       have kg:=grownBy_set w6 ⟨N,6,none⟩ (.int .i64 0);exact .inr ⟨k2,er,j0,nv0,QPA.out (k2,er) (HAP.out.symm.trans HA.out),HER.out,hj0,HB6.out.row kg hgN,HK6.out.grown kg (fun i h hi=>absurd hi (by have h2:N=i:=Option.some.inj h;omega))⟩
      | ok r =>
       obtain ⟨j,l1⟩:=r;rw[hr]at hpos;have hij:m+1≤j:=hpos;have HE6:=Lib.hid hr;cases hr2:parN cs S.data.toList f j l1 with
       | error r =>
        obtain ⟨k2,er⟩:=r;have HE:=Lib.hid hr2;have HA:=Lib.hid (arg_e2 (cs:=cs) (T:=S.data.toList) h9 hr hr2);clear hr hr2 hpos;go_wp2_with fail
        refine HC.out.mono ?_;rintro e w6 hret;rw[HE6.out]at hret;obtain ⟨hk,rfl,hj6,hl6a,hl6b,nv6,hB,hO,hob⟩:=hret;have HB6:=Lib.hid hB;have HK6:=Lib.hid (HK5.out.then' hk (fun q hq h=>h));have HN6:=Lib.hid (HN5.out.kp hk (by rintro (h | h);exact hgN h.symm;exact hnvN.out h));have HO6:=Lib.hid hO;have HOB6:=Lib.hid (show ∀ b,nv6.ownBlock=some b→nv.ownBlock=some b∨w.heap.size≤b from fun b h=>by
         rcases hob b h with h|h
         ·exact .inl h
         ·exact .inr (Nat.le_trans HK5.out.size h))
        have HNV6:=Lib.hid (show nv6.ownBlock≠some N from fun h=>by
         rcases hob N h with h|h
         ·exact hnvN.out h
         ·have:=HN5.out.lt;omega)
        have c5:=hB.cell 5;simp only[jA,jZ,jS]at c5;clear hk hB hO hob;have bb:=HN6.out;have n6:=bb.cell 6;have n7:=bb.cell 7;have m6:=bb.frozen 6;have m7:=bb.frozen 7;simp only[jA,jZ,jS]at n6 n7;have hlt:=bb.lt;clear bb;go_upto_if 40 with (fail)
        obtain ⟨W7,hW7⟩:∃ X,X=w6.setCell ⟨N,6,none⟩ (.int .i64 ((l1.length:Int) - 1)):=⟨_,rfl⟩
        have kg:=grownBy_set w6 ⟨N,6,none⟩ (.int .i64 ((l1.length:Int) - 1));have kb:=HN6.out.set_ 6 (.int .i64 ((l1.length:Int) - 1));simp only[jI,jY,jT]at kb;rw[←hW7]at kg kb;have HN7:=Lib.hid kb;have HB7:=Lib.hid (HB6.out.row kg hgN);have HO7:=Lib.hid (HO6.out.turn kg HNV6.out HN6.out (by decide));have HNV7:=Lib.hid HNV6.out;have HK7:=Lib.hid (HK6.out.grown kg (fun i h hi=>absurd hi (by have h2:N=i:=Option.some.inj h;omega)));have HBL7:=Lib.hid (show Below w0.heap.size w0 W7 from below_kp HB0.out HK7.out (fun q h=>by
         rcases h with h|h
         ·have:=HX.out.hg;omega
         ·have:=(HO.out.ge h).1;have:=HX.out.hb;omega) HB0.out.size)
        rw[←hW7];clear hW7 kg kb c5 n6 n7 m6 m7 hlt;have c5:=HB7.out.cell 5;simp only[jA,jZ,jS]at c5;have HC2:=Lib.hid (HREC.out j nv6 l1 W7 HB7.out hj6 (by omega) HO7.out hl6b HBL7.out (Nat.le_trans HBS.out HK7.out.size));go_wp2_with fail
        refine HC2.out.mono ?_;rintro e w8 hret;rw[HE.out]at hret;obtain ⟨hk,rfl,her,j0,nv0,hj0,hB⟩:=hret;have HB8:=Lib.hid hB;have HK8:=Lib.hid (HK7.out.then' hk (fun q hq h=>by rcases h with h | h;exact .inl h;rcases HOB6.out q h with h | h;exact .inr h;exact absurd h (by omega)));have HN8:=Lib.hid (HN7.out.kp hk (by rintro (h | h);exact hgN h.symm;exact HNV7.out h));have HER:=Lib.hid her;have q5:(er==0)=false:=by simpa using her
        have c5:=hB.cell 5;simp only[jA,jZ,jS]at c5;clear hk her hB;have bb:=HN8.out;have n6:=bb.cell 6;have n7:=bb.cell 7;have m6:=bb.frozen 6;have m7:=bb.frozen 7;simp only[jA,jZ,jS]at n6 n7;have hlt:=bb.lt;clear bb;go_wp2;go_meet
        have kg:=grownBy_set w8 ⟨N,7,none⟩ (.int .i64 0);exact .inr ⟨k2,er,j0,nv0,QPA.out (k2,er) (HAP.out.symm.trans HA.out),HER.out,hj0,HB8.out.row kg hgN,HK8.out.grown kg (fun i h hi=>absurd hi (by have h2:N=i:=Option.some.inj h;omega))⟩
       | ok r =>
        obtain ⟨j2,l2⟩:=r;have HE8:=Lib.hid hr2;have HA:=Lib.hid (arg_o2 (cs:=cs) (T:=S.data.toList) h9 hr hr2);clear hr hr2 hpos;go_wp2_with fail
        refine HC.out.mono ?_;rintro e w6 hret;rw[HE6.out]at hret;obtain ⟨hk,rfl,hj6,hl6a,hl6b,nv6,hB,hO,hob⟩:=hret;have HB6:=Lib.hid hB;have HK6:=Lib.hid (HK5.out.then' hk (fun q hq h=>h));have HN6:=Lib.hid (HN5.out.kp hk (by rintro (h | h);exact hgN h.symm;exact hnvN.out h));have HO6:=Lib.hid hO;have HOB6:=Lib.hid (show ∀ b,nv6.ownBlock=some b→nv.ownBlock=some b∨w.heap.size≤b from fun b h=>by
         rcases hob b h with h|h
         ·exact .inl h
         ·exact .inr (Nat.le_trans HK5.out.size h))
        have HNV6:=Lib.hid (show nv6.ownBlock≠some N from fun h=>by
         rcases hob N h with h|h
         ·exact hnvN.out h
         ·have:=HN5.out.lt;omega)
        have c5:=hB.cell 5;simp only[jA,jZ,jS]at c5;clear hk hB hO hob;have bb:=HN6.out;have n6:=bb.cell 6;have n7:=bb.cell 7;have m6:=bb.frozen 6;have m7:=bb.frozen 7;simp only[jA,jZ,jS]at n6 n7;have hlt:=bb.lt;clear bb;go_upto_if 40 with (fail)
        obtain ⟨W7,hW7⟩:∃ X,X=w6.setCell ⟨N,6,none⟩ (.int .i64 ((l1.length:Int) - 1)):=⟨_,rfl⟩
        have kg:=grownBy_set w6 ⟨N,6,none⟩ (.int .i64 ((l1.length:Int) - 1));have kb:=HN6.out.set_ 6 (.int .i64 ((l1.length:Int) - 1));simp only[jI,jY,jT]at kb;rw[←hW7]at kg kb;have HN7:=Lib.hid kb;have HB7:=Lib.hid (HB6.out.row kg hgN);have HO7:=Lib.hid (HO6.out.turn kg HNV6.out HN6.out (by decide));have HNV7:=Lib.hid HNV6.out;have HK7:=Lib.hid (HK6.out.grown kg (fun i h hi=>absurd hi (by have h2:N=i:=Option.some.inj h;omega)));have HBL7:=Lib.hid (show Below w0.heap.size w0 W7 from below_kp HB0.out HK7.out (fun q h=>by
         rcases h with h|h
         ·have:=HX.out.hg;omega
         ·have:=(HO.out.ge h).1;have:=HX.out.hb;omega) HB0.out.size)
        rw[←hW7];clear hW7 kg kb c5 n6 n7 m6 m7 hlt;have c5:=HB7.out.cell 5;simp only[jA,jZ,jS]at c5;have HC2:=Lib.hid (HREC.out j nv6 l1 W7 HB7.out hj6 (by omega) HO7.out hl6b HBL7.out (Nat.le_trans HBS.out HK7.out.size));go_wp2_with fail
        refine HC2.out.mono ?_;rintro e w8 hret;rw[HE8.out]at hret;obtain ⟨hk,rfl,hj8,hl8a,hl8b,nv8,hB,hO,hob⟩:=hret;have HB8:=Lib.hid hB;have HK8:=Lib.hid (HK7.out.then' hk (fun q hq h=>by rcases h with h | h;exact .inl h;rcases HOB6.out q h with h | h;exact .inr h;exact absurd h (by omega)));have HN8:=Lib.hid (HN7.out.kp hk (by rintro (h | h);exact hgN h.symm;exact HNV7.out h));have HO8:=Lib.hid hO;have HOB8:=Lib.hid (show ∀ b,nv8.ownBlock=some b→nv.ownBlock=some b∨w.heap.size≤b from fun b h=>by
         rcases hob b h with h|h
         ·exact HOB6.out b h
         ·exact .inr (Nat.le_trans HK7.out.size h))
        have HNV8:=Lib.hid (show nv8.ownBlock≠some N from fun h=>by
         rcases hob N h with h|h
         ·exact HNV7.out h
         ·have:=HN7.out.lt;omega)
        have c5:=hB.cell 5;simp only[jA,jZ,jS]at c5;clear hk hB hO hob;have bb:=HN8.out;have n6:=bb.cell 6;have n7:=bb.cell 7;have m6:=bb.frozen 6;have m7:=bb.frozen 7;simp only[jA,jZ,jS]at n6 n7;have hlt:=bb.lt;clear bb;go_wp2;go_meet
        have kg:=grownBy_set w8 ⟨N,7,none⟩ (.int .i64 ((l2.length:Int) - 1));have kb:=HN8.out.set_ 7 (.int .i64 ((l2.length:Int) - 1));simp only[jI,jY,jT]at kb;exact .inl ⟨j2,_,l2,nv8,.slice none 0 0,HAP.out.symm.trans HA.out,hj8,hl8b,HB8.out.row kg hgN,HO8.out.turn kg HNV8.out HN8.out (by decide),HOB8.out,HNV8.out,kb,World.ownsRow_nil _ _ _ _,HK8.out.grown kg (fun i h hi=>absurd hi (by have h2:N=i:=Option.some.inj h;omega))⟩
   case rest =>
    obtain ⟨W9,hW9⟩:∃ V,V=wc:=⟨_,rfl⟩
    have hmid:=hcut;rw[←hW9]at hmid ⊢;clear hcut hW9;rcases hmid with ⟨i2,x,a2,nv6,u,hap,hi2S,ha2,hB,hO,hob,hnv6,hN,hu,hk⟩|⟨k2,er,j0,nv0,hpp,her,hj0,hB,hk⟩
    case inr =>
     have HB9:=Lib.hid hB;have HK9:=Lib.hid hk;have HER:=Lib.hid her;have HPE:=Lib.hid hpp;have q5:(er != 0)=true:=by simpa using her
     have q6:(er==0)=false:=by simpa using her
     clear hB hk her hpp QPA QPC QPF QPO;go_wp2_with fail
     refine (rexp_later g j0 sv nv0 key k2 er S 41 W9 HB9.out hj0 HX.out.hS q5).mono ?_;rintro _ w10 ⟨rfl,ho,j1,hj1,hB⟩;have HB10:=Lib.hid hB;have HK10:=Lib.hid (HK9.out.oneR ho);have c5:=hB.cell 5;simp only[jA,jZ,jS]at c5;clear ho hB;go_wp2;go_ret;exact .err HPE.out HK10.out HER.out hj1 HB10.out
    case inl =>
     have HB6:=Lib.hid hB;have HK6:=Lib.hid hk;have HO6:=Lib.hid hO;have HOB6:=Lib.hid hob;have HNV6:=Lib.hid hnv6;have HN6:=Lib.hid hN;have HU6:=Lib.hid hu;have QC:=Lib.hid (fun e=>QPC.out i2 x a2 e hap);have QF:=Lib.hid (fun i3=>QPF.out i2 x a2 i3 hap);have QO:=Lib.hid (fun i3=>QPO.out i2 x a2 i3 hap);obtain ⟨A6,c6,rfl,hc61,hc62⟩:=hO.form;obtain ⟨AU,cU,rfl,hcu1,hcu2⟩:=(Sl.of_own hu).form;clear hB hk hO hob hnv6 hN hu hap QPA QPC QPF QPO;go_wp2_with fail
     refine (rexp_any g i2 sv _ key wh S 41 W9 HB6.out hi2S HX.out.hS).mono ?_;rintro e w7 hret;unfold RetRExp at hret
     cases h3:expP S.data.toList 41 i2 with
     | error r =>
      obtain ⟨k3,er⟩:=r;rw[h3]at hret;have HR:=Lib.hid (QC.out (k3,er) h3);obtain ⟨rfl,ho,he,j0,hj0,hB⟩:=hret;have HK7:=Lib.hid (HK6.out.oneR ho);have HB7:=Lib.hid hB;have HER:=Lib.hid he;have q5:(er != 0)=true:=by simpa using he
      have q6:(er==0)=false:=by simpa using he
      have c5:=hB.cell 5;simp only[jA,jZ,jS]at c5;clear ho hB h3 he QC QF QO;go_wp2;go_ret;exact .err HR.out HK7.out HER.out hj0 HB7.out
     | ok i3 =>
      rw[h3]at hret;obtain ⟨hi3,hi4⟩:=exp_le h3;rw[size_data]at hi4;obtain ⟨rfl,ho,hB⟩:=hret;have HK7:=Lib.hid (HK6.out.oneR ho);have HB7:=Lib.hid hB;have HO7:=Lib.hid (HO6.out.onlyR HB6.out ho);have HN7:=Lib.hid (HN6.out.row ho (fun e=>hgN e.symm));have HU7:=Lib.hid (own_grown HU6.out ho (fun b hb e=>own_blk_ne HU6.out HB6.out (by decide) (by rw[hb,e])));have HF3:=Lib.hid (QF.out i3 h3);have HO3:=Lib.hid (QO.out i3 h3);have c3:=hB.cell 3;have c4:=hB.cell 4;have c5:=hB.cell 5;simp only[jA,jZ,jS]at c3 c4 c5;clear ho hB h3 QC QF QO HK6 HB6 HO6 HN6 HU6;by_cases h64:a2.length=64
      ·have q64:((a2.length:Int)==64)=true:=by rw[beq_iff_eq];omega
       have q64':(a2.length==64)=true:=by rw[beq_iff_eq];exact h64
       have HR:=Lib.hid (HF3.out h64);have w3:IntKind.i64.wrap ((i3:Int) - 1)=((i3 - 1:Nat):Int):=by have:=HX.out.hS;rw[show ((i3 - 1:Nat):Int)=(i3:Int) - 1 by omega];exact IntWalk.i64_in _ (by omega)
       clear HF3 HO3 h64;go_wp2_with fail
       refine (rfail_first g i3 sv _ key wh _ _ S w7 HB7.out).mono ?_;rintro _ w8 ⟨rfl,hB,ho⟩;have HB8:=Lib.hid hB;have HK8:=Lib.hid (HK7.out.oneR ho);clear c3 c4 c5;have c5:=hB.cell 5;simp only[jA,jZ,jS]at c5;clear hB ho;go_wp2;go_ret;exact .err HR.out HK8.out (by decide) hi4 HB8.out
      ·have q64:((a2.length:Int)==64)=false:=by rw[beq_eq_false_iff_ne];omega
       have q64':(a2.length==64)=false:=by simpa using h64
       have HR:=Lib.hid (HO3.out h64);have ha3:a2.length<64:=by omega
       clear HF3 HO3 h64;go_upto_region 23 with (fail)
       clear c3 c4 c5;refine wp_region_inv (by kernel_rfl) (by kernel_rfl) (fun L a w'=>∃ u83 u84 u85 u86 u87 u88 u89 u90 u91 u92:Value,a=⟨#[.pointer (some ⟨g,0,none⟩),undef,.int .i64 0,.string W,.int .i64 k,.int .i64 o,.pointer (some ⟨N,0,none⟩),.pointer (some ⟨g,0,none⟩),.tuple #[],.pointer (some ⟨g,0,none⟩),.pointer (some ⟨g,0,none⟩),.pointer (some ⟨g,5,none⟩),.int .i64 0,.bool false,.tuple #[.string W,.int .i64 k],.pointer (some ⟨g,0,none⟩),.tuple #[.string W,.int .i64 k],.string W,.int .i64 k,.string W,.int .i64 o,.int .i64 o,.bool false,undef,undef,undef,.pointer (some ⟨g,0,none⟩),.pointer (some ⟨g,0,none⟩),.pointer (some ⟨g,5,none⟩),.int .i64 0,.bool false,.int .i64 o,.agg #[.int .i64 o,.int .i64 0,.bool false,.int .i64 0,.string { data:=#[] },.slice none 0 0,.int .i64 0,.int .i64 0],u33,u34,u35,u36,u37,u38,u39,u40,u41,u42,u43,u44,u45,u46,u47,u48,u49,u50,u51,u52,u53,u54,u55,.pointer (some ⟨g,0,none⟩),.tuple #[],.pointer (some ⟨g,0,none⟩),.pointer (some ⟨g,0,none⟩),.pointer (some ⟨g,5,none⟩),.int .i64 0,.bool true,.bool true,.pointer (some ⟨g,0,none⟩),.pointer (some ⟨g,0,none⟩),.pointer (some ⟨g,4,none⟩),.slice A6 a2.length c6,.int .i64 a2.length,.bool false,.bool false,undef,undef,undef,undef,undef,undef,undef,.pointer (some ⟨g,0,none⟩),.pointer (some ⟨g,0,none⟩),.pointer (some ⟨g,5,none⟩),.int .i64 0,.bool false,u83,u84,u85,u86,u87,u88,u89,u90,u91,u92,undef,undef,undef,undef,undef,undef],[]⟩ ∧
         Kp (fun i=>i=g∨nv.ownBlock=some i) w w'∧Got (L 0) u83 (.pointer (some ⟨g,0,none⟩))∧Got (L 1) u84 (.pointer (some ⟨g,0,none⟩))∧Got (L 2) u85 (.pointer (some ⟨g,0,none⟩))∧Got (L 3) u86 (.pointer (some ⟨g,4,none⟩))∧Got (L 4) u87 (.slice A6 a2.length c6)∧Got (L 5) u88 (.agg #[.int .i64 x.op,.int .i64 x.col,.bool x.v.nu,.int .i64 x.v.n,.string x.v.s,.slice AU x.l.length cU,.int .i64 x.a,.int .i64 x.b])∧(L 6=true→∃ A9,u89=.slice (some ⟨A9,0,none⟩) 1 1∧w7.heap.size≤A9∧Blk w' A9 66 #[.int .i64 x.op,.int .i64 x.col,.bool x.v.nu,.int .i64 x.v.n,.string x.v.s,.slice AU x.l.length cU,.int .i64 x.a,.int .i64 x.b])∧(L 7=true→∃ g9 c9,u90=.slice (some ⟨g9,0,none⟩) (a2.length+1) c9∧OwnNd w' base u90 (a2 ++ [x])∧(nv.ownBlock=some g9∨w.heap.size≤g9))∧Got (L 8) u91 (.pointer (some ⟨g,0,none⟩))∧Got (L 9) u92 (.pointer (some ⟨g,4,none⟩))∧(L 7=false→OwnNd w' base (.slice A6 a2.length c6) a2∧w'.ownsRow base 64 3 (.slice AU x.l.length cU) x.l.length (vls x.l))∧(L 10=false→Blk w' g 106 #[sv,.int .i64 key,.string S,.int .i64 i3,.slice A6 a2.length c6,.int .i64 0,.int .i64 wh])∧(L 10=true→Blk w' g 106 #[sv,.int .i64 key,.string S,.int .i64 i3,u90,.int .i64 0,.int .i64 wh])∧(L 10=true→L 7=true)∧Blk w' N 66 #[.int .i64 x.op,.int .i64 x.col,.bool x.v.nu,.int .i64 x.v.n,.string x.v.s,.slice AU x.l.length cU,.int .i64 x.a,.int .i64 x.b]∧(L 7=true→L 4=true∧L 6=true)∧w7.heap.size≤w'.heap.size)
        ?_ ?_ ?_
       ·exact ⟨_,_,_,_,_,_,_,_,_,_,rfl,(HK7.out.drewN 1),nofun,nofun,nofun,nofun,nofun,nofun,nofun,nofun,nofun,nofun,fun _=>⟨HO7.out.below (Below.refl _ _).drew,HU7.out⟩,fun _=>HB7.out.drewN 1,nofun,nofun,HN7.out.drewN 1,nofun,Nat.le_refl _⟩
       ·refine ⟨?_,?_,?_,?_,?_,?_,?_,?_,?_,?_,?_,trivial⟩
        ·refine fun L a w'=>ex8 fun _ _ _ _ _ _ _ _=>ex2 fun _ _=>un16 fun ha hb g0 g1 g2 g3 g4 g5 g6 g7 g8 g9 g10 g11 g12 g13=>un2 fun g14 g15 g16 hl hd K hK=>?_;subst ha
         dsimp only at hK ⊢;go_simp;exact hK _ _ ⟨_,_,_,_,_,_,_,_,_,_,rfl,hb,fun _=>rfl,g1,g2,g3,g4,g5,g6,g7,g8,g9,g10,g11,g12,g13,g14,g15,g16⟩
        ·refine fun L a w'=>ex8 fun _ _ _ _ _ _ _ _=>ex2 fun _ _=>un16 fun ha hb g0 g1 g2 g3 g4 g5 g6 g7 g8 g9 g10 g11 g12 g13=>un2 fun g14 g15 g16 hl hd K hK=>?_;subst ha
         dsimp only at hK ⊢;go_simp;exact hK _ _ ⟨_,_,_,_,_,_,_,_,_,_,rfl,hb,g0,fun _=>rfl,g2,g3,g4,g5,g6,g7,g8,g9,g10,g11,g12,g13,g14,g15,g16⟩
        ·refine fun L a w'=>ex8 fun _ _ _ _ _ _ _ _=>ex2 fun _ _=>un16 fun ha hb g0 g1 g2 g3 g4 g5 g6 g7 g8 g9 g10 g11 g12 g13=>un2 fun g14 g15 g16 hl hd K hK=>?_;subst ha
         simp[Region.binds]at hd;dsimp only at hK ⊢;have e1:=g1 (by simp[hd]);subst e1;go_simp;exact hK _ _ ⟨_,_,_,_,_,_,_,_,_,_,rfl,hb,g0,g1,fun _=>rfl,g3,g4,g5,g6,g7,g8,g9,g10,g11,g12,g13,g14,g15,g16⟩
        ·refine fun L a w'=>ex8 fun _ _ _ _ _ _ _ _=>ex2 fun _ _=>un16 fun ha hb g0 g1 g2 g3 g4 g5 g6 g7 g8 g9 g10 g11 g12 g13=>un2 fun g14 g15 g16 hl hd K hK=>?_;subst ha
         simp[Region.binds]at hd;dsimp only at hK ⊢;have e2:=g2 (by simp[hd]);subst e2;go_simp;exact hK _ _ ⟨_,_,_,_,_,_,_,_,_,_,rfl,hb,g0,g1,g2,fun _=>rfl,g4,g5,g6,g7,g8,g9,g10,g11,g12,g13,g14,g15,g16⟩
        ·refine fun L a w'=>ex8 fun _ _ _ _ _ _ _ _=>ex2 fun _ _=>un16 fun ha hb g0 g1 g2 g3 g4 g5 g6 g7 g8 g9 g10 g11 g12 g13=>un2 fun g14 g15 g16 hl hd K hK=>?_;subst ha
         simp[Region.binds]at hd;dsimp only at hK ⊢;have e3:=g3 (by simp[hd]);subst e3;have hl9:=hl;have h10:L 10=false:=by
          cases h:L 10 with
          | false=>rfl
          | true=>have:=(g15 (g13 h)).1;rw[hl9]at this;cases this
         have cc:=(g11 h10).cell 4;simp only[jA,jZ,jS]at cc;go_simp;exact hK _ _ ⟨_,_,_,_,_,_,_,_,_,_,rfl,hb,g0,g1,g2,g3,fun _=>rfl,g5,g6,g7,g8,g9,g10,g11,g12,g13,g14,fun h=>⟨rfl,(g15 h).2⟩,g16⟩
        ·refine fun L a w'=>ex8 fun _ _ _ _ _ _ _ _=>ex2 fun _ _=>un16 fun ha hb g0 g1 g2 g3 g4 g5 g6 g7 g8 g9 g10 g11 g12 g13=>un2 fun g14 g15 g16 hl hd K hK=>?_;subst ha
         dsimp only at hK ⊢;have bb:=g14;have d0:=bb.cell 0;have d1:=bb.cell 1;have d2:=bb.cell 2;have d3:=bb.cell 3;have d4:=bb.cell 4;have d5:=bb.cell 5;have d6:=bb.cell 6;have d7:=bb.cell 7;simp only[jA,jZ,jS]at d0 d1 d2 d3 d4 d5 d6 d7;go_simp;exact hK _ _ ⟨_,_,_,_,_,_,_,_,_,_,rfl,hb,g0,g1,g2,g3,g4,fun _=>rfl,g6,g7,g8,g9,g10,g11,g12,g13,g14,g15,g16⟩
        ·refine fun L a w'=>ex8 fun _ _ _ _ _ _ _ _=>ex2 fun _ _=>un16 fun ha hb g0 g1 g2 g3 g4 g5 g6 g7 g8 g9 g10 g11 g12 g13=>un2 fun g14 g15 g16 hl hd K hK=>?_;subst ha
         simp[Region.binds]at hd;dsimp only at hK ⊢;have e5:=g5 (by simp[hd]);subst e5;have hl9:=hl;have h7:L 7=false:=by
          cases h:L 7 with
          | false=>rfl
          | true=>have:=(g15 h).2;rw[hl9]at this;cases this
         go_simp;exact hK _ _ ⟨_,_,_,_,_,_,_,_,_,_,rfl,hb.alloc _,g0,g1,g2,g3,g4,g5,fun _=>⟨_,rfl,g16,Blk.new _ _ _⟩,(fun h=>absurd (show L 7=true from h) (by rw[h7];simp)),g8,g9,fun h=>⟨(g10 h).1.below (below_new _ _),(g10 h).2.alloc _⟩,fun h=>(g11 h).alloc _,fun h=>(g12 h).alloc _,g13,g14.alloc _,fun h=>⟨(g15 h).1,rfl⟩,Nat.le_trans g16 (by simp)⟩
        ·refine fun L a w'=>ex8 fun _ _ _ _ _ _ _ _=>ex2 fun _ _=>un16 fun ha hb g0 g1 g2 g3 g4 g5 g6 g7 g8 g9 g10 g11 g12 g13=>un2 fun g14 g15 g16 hl hd K hK=>?_;subst ha
         simp[Region.binds]at hd;dsimp only at hK ⊢;have e4:=g4 (by simp[hd]);subst e4;have hl9:=hl;have h10:L 10=false:=by
          cases h:L 10 with
          | false=>rfl
          | true=>have:=g13 h;rw[hl9]at this;cases this
         have h4:L 4=true:=by simp[hd]
         have h6:L 6=true:=by simp[hd]
         obtain ⟨A9,e6,hN6,hB6⟩:=g6 h6;subst e6;obtain ⟨oo,ou⟩:=g10 hl;have oo2:=oo;obtain ⟨us,hus1,hus2,hus3⟩:=oo2;have hws9:base≤w'.heap.size:=Nat.le_trans (Nat.le_trans HBS.out HK7.out.size) g16;refine wp_app (P:=Tryz.prog) (n:=a2.length) (xs:=nds a2 us) (m:=1) (.tmp 87) (.tmp 89) hus2 (blk_slN (n:=1) (sz:=8) hB6 rfl (by unfold maxLen;omega)) hws9 under_nd info_nd rfl (by decide) (one8 _ _ _ _ _ _ _ _ _ _) (by omega) (by omega) rfl rfl rfl ?_
         intro v9 w9 ho9 hg9 hv9
         have hsn:=nd_snoc hus1 hus2 hus3 ou ho9 hg9;obtain ⟨g10x,c10x,ev9⟩:∃ g9 c9,v9=.slice (some ⟨g9,0,none⟩) (a2.length+1) c9:=by
          rcases ho9.2 with ⟨_,h0⟩|⟨g1,cap1,cur1,e1,_⟩
          ·omega
          ·exact ⟨g1,cap1,e1⟩
         subst ev9;have hvb:nv.ownBlock=some g10x∨w.heap.size≤g10x:=by
          rcases hv9 with h|h
          ·exact HOB6.out _ (by rw[←h];rfl)
          ·have h2:g10x=w'.heap.size:=by injection h
           have:=HK7.out.size;omega
         exact hK _ _ ⟨_,_,_,_,_,_,_,_,_,_,rfl,hb.grown hg9 (fun k hk hk2=>by rcases HOB6.out k hk with h | h;exact .inr h;exact absurd h (by omega)),g0,g1,g2,g3,g4,g5,fun _=>⟨A9,rfl,hN6,hB6.grown hg9 (fun e=>by have:=(HO7.out.ge e).2;omega)⟩,fun _=>⟨g10x,c10x,rfl,hsn,hvb⟩,g8,g9,nofun,fun h=>(g11 h).grown hg9 (oo.ne (g11 h) (by decide)),(fun h=>absurd (show L 10=true from h) (by rw[h10];simp)),fun _=>rfl,g14.grown hg9 HNV6.out,fun _=>⟨h4,h6⟩,Nat.le_trans g16 hg9.size⟩
        ·refine fun L a w'=>ex8 fun _ _ _ _ _ _ _ _=>ex2 fun _ _=>un16 fun ha hb g0 g1 g2 g3 g4 g5 g6 g7 g8 g9 g10 g11 g12 g13=>un2 fun g14 g15 g16 hl hd K hK=>?_;subst ha
         simp[Region.binds]at hd;dsimp only at hK ⊢;have e0:=g0 (by simp[hd]);subst e0;go_simp;exact hK _ _ ⟨_,_,_,_,_,_,_,_,_,_,rfl,hb,g0,g1,g2,g3,g4,g5,g6,g7,fun _=>rfl,g9,g10,g11,g12,g13,g14,g15,g16⟩
        ·refine fun L a w'=>ex8 fun _ _ _ _ _ _ _ _=>ex2 fun _ _=>un16 fun ha hb g0 g1 g2 g3 g4 g5 g6 g7 g8 g9 g10 g11 g12 g13=>un2 fun g14 g15 g16 hl hd K hK=>?_;subst ha
         simp[Region.binds]at hd;dsimp only at hK ⊢;have e8:=g8 (by simp[hd]);subst e8;go_simp;exact hK _ _ ⟨_,_,_,_,_,_,_,_,_,_,rfl,hb,g0,g1,g2,g3,g4,g5,g6,g7,g8,fun _=>rfl,g10,g11,g12,g13,g14,g15,g16⟩
        ·refine fun L a w'=>ex8 fun _ _ _ _ _ _ _ _=>ex2 fun _ _=>un16 fun ha hb g0 g1 g2 g3 g4 g5 g6 g7 g8 g9 g10 g11 g12 g13=>un2 fun g14 g15 g16 hl hd K hK=>?_;subst ha
         simp[Region.binds]at hd;dsimp only at hK ⊢;have e9:=g9 (by simp[hd]);subst e9;have h7:L 7=true:=by simp[hd]
         obtain ⟨g11x,c11x,e6,o6,ob6⟩:=g7 h7;subst e6;have bb:=g11 hl;have cc:=bb.cell 4;simp only[jA,jZ,jS]at cc;have ff:=bb.frozen 4;have hlt:=bb.lt;go_simp;have kg:w'.grownBy (w'.setCell ⟨g,4,none⟩ (.slice (some ⟨g11x,0,none⟩) (a2.length+1) c11x)) (some g):=grownBy_set w' ⟨g,4,none⟩ (.slice (some ⟨g11x,0,none⟩) (a2.length+1) c11x);have kb:=bb.set_ 4 (.slice (some ⟨g11x,0,none⟩) (a2.length+1) c11x);simp only[jI,jY,jT]at kb;exact hK _ _ ⟨_,_,_,_,_,_,_,_,_,_,rfl,hb.grown kg (fun k hk _=>by injection hk with hk;exact .inl hk.symm),g0,g1,g2,g3,g4,g5,fun h=>(g6 h).elim fun A9 h=>⟨A9,h.1,h.2.1,h.2.2.row kg (show A9≠g by have:=h.2.1;have:=HB7.out.lt;omega)⟩,fun _=>⟨g11x,c11x,rfl,o6.onlyR bb kg,ob6⟩,g8,g9,(fun h=>absurd (show L 7=false from h) (by rw[h7];simp)),nofun,fun _=>kb,fun _=>h7,g14.row kg (fun e=>hgN e.symm),g15,Nat.le_trans g16 kg.size⟩
       intro a w9 hI
       revert hI;refine ex8 fun _ _ _ _ _ _ _ _=>ex2 fun _ _=>un16 fun ha hb g0 g1 g2 g3 g4 g5 g6 g7 g8 g9 g10 g11 g12 g13=>un2 fun g14 g15 g16=>?_;subst ha
       have e0:=g0 rfl;subst e0;have e1:=g1 rfl;subst e1;have e2:=g2 rfl;subst e2;have e3:=g3 rfl;subst e3;have e4:=g4 rfl;subst e4;have e5:=g5 rfl;subst e5;have e8:=g8 rfl;subst e8;have e9:=g9 rfl;subst e9;obtain ⟨A9,e6,_,_⟩:=g6 rfl;subst e6;obtain ⟨g9x,c9x,e7,o7,ob7⟩:=g7 rfl;subst e7;have kb:=Lib.hid (g12 rfl);have HO9:=Lib.hid o7;have HK9:=Lib.hid hb;have HOB9:=Lib.hid ob7;clear g6 g7 g10 g11 g12 g13 g14 g15 g16 o7 ob7 hb;have c4:=kb.out.cell 4;simp only[jA,jZ,jS]at c4;have wl1:IntKind.i64.wrap (((a2.length+1:Nat):Int) - 1)=(a2.length:Int):=by rw[show ((a2.length+1:Nat):Int) - 1=(a2.length:Int) by omega];exact IntWalk.i64_in _ (by omega)
       have wl2:IntKind.i64.wrap ((a2.length:Int)+1 - 1)=(a2.length:Int):=by rw[show (a2.length:Int)+1 - 1=(a2.length:Int) by omega];exact IntWalk.i64_in _ (by omega)
       have HLN:=Lib.hid (show (((a2 ++ [x]).length:Nat):Int) - 1=(a2.length:Int) by simp);go_wp2;go_ret;rw[HR.out];exact ⟨HK9.out,by rw[HLN.out];rfl,hi4,by simp,by simp;omega,_,kb.out,HO9.out,fun b hb=>by
        injection hb with hb
        subst hb;exact HOB9.out⟩
theorem rnode_any_ (w0:World) (g base:Nat) (sv:Value) (key wh:Int) (S:ByteArray) (cs:List Col) (hx:PCtx w0 g sv S cs base):∀ f,HRNode w0 g sv key wh S cs base f
 | 0=>fun i nv l w hB hi hf=>absurd hf (by omega)
 | f+1=>rnode_step w0 g f base sv key wh S cs hx (rnode_any_ w0 g base sv key wh S cs hx f)
open Go.RowKit Go.Sort

set_option maxRecDepth 100000 in
set_option maxHeartbeats 8000000 in
theorem rparse_any (v:Value) (key:Int) (cs:List Col) (S:ByteArray) (w:World) (hE:Env w) (hs:Sl w 4 v cs.length (cols cs)) (hcl:cs.length≤9223372036854775807) (hnm:∀ c ∈ cs,c.nm.size≤9223372036854775807) (hS:S.size≤9223372036854775807) :
  Calls Tryz.prog 37 #[.agg #[v,.int .i64 key],.string S] w (RetPar w (parP cs key S.data.toList)):=by
 obtain ⟨A,cA,rfl,hc1,hc2⟩:=hs.form;obtain ⟨N0,hN0⟩:∃ N,w.heap.size=N:=⟨_,rfl⟩
 obtain ⟨W,hW⟩:∃ W,W=w.alloc (.cells #[.slice A cs.length cA,.int .i64 key] 28):=⟨_,rfl⟩
 have hb0:Below w.heap.size w W:=by rw[hW];exact (Below.refl _ _).alloc (Nat.le_refl _) _
 have BS:=Lib.hid (show Blk W N0 28 #[.slice A cs.length cA,.int .i64 key] by rw[hW,←hN0];exact Blk.new _ _ _);have HB0:=Lib.hid hb0;have HC:=Lib.hid (rschk_any (.slice A cs.length cA) cs key W (hs.below hb0) hcl hnm);have HE:=Lib.hid hE;have HS:=Lib.hid hs;have hT:=size_data S;have HP0:=Lib.hid (pp_sch (cs:=cs) (key:=key) (T:=S.data.toList));have HP1:=Lib.hid (pp_big (cs:=cs) (key:=key) (T:=S.data.toList));have HP2:=Lib.hid (pp_nil (cs:=cs) (key:=key) (T:=S.data.toList));have HP3:=Lib.hid (fun j e=>pp_err (cs:=cs) (key:=key) (T:=S.data.toList) (j:=j) (e:=e));have HP4:=Lib.hid (fun i l=>pp_more (cs:=cs) (key:=key) (T:=S.data.toList) (i:=i) (l:=l));have HP5:=Lib.hid (fun i l=>pp_ok (cs:=cs) (key:=key) (T:=S.data.toList) (i:=i) (l:=l));have HV:=Lib.hid (fun h=>schk_valid (l:=cs) (key:=key) h);rw[hT]at HP1 HP2 HP3 HP4 HP5;obtain ⟨E,hE⟩:∃ E,schkV cs key=E:=⟨_,rfl⟩
 rw[hE]at HC HP0 HP1 HP2 HP3 HP4 HP5 HV;clear hs hE hb0 hT;go_enter Tryz.func37,Tryz.ntmps37
 go_upto_region 1 with (fail)
 rw[←hW];try simp only[hN0]
 clear hW;have bb:=BS.out;have s0:=bb.cell 0;have s1:=bb.cell 1;simp only[jA,jZ,jS]at s0 s1;clear bb;go_wp2_with fail
 refine HC.out.mono ?_;rintro _ w2 ⟨rfl,hb2⟩;have HB2:=Lib.hid (bst HB0.out hb2);have BS2:=Lib.hid (BS.out.below hb2 BS.out.lt);clear hb2 HC s0 s1;by_cases hE:E=0
 case neg =>
  have q1:(E != 0)=true:=by simpa using hE
  have HR:=Lib.hid (HP0.out hE);clear hE HP0 HP1 HP2 HP3 HP4 HP5 HV;go_wp2;go_ret3
  exact RetPar.mk_ HR.out rfl (OwnNd.nil _ _) HB2.out
 case pos =>
 subst hE;have HV:=Lib.hid (HV.out rfl);by_cases hbig:65536<S.size
 ·have q2:decide (65536<S.size)=true:=decide_eq_true hbig;have q2':decide ((65536:Int)<(S.size:Int))=true:=decide_eq_true (by omega);have HR:=Lib.hid (HP1.out rfl hbig);clear hbig HP0 HP1 HP2 HP3 HP4 HP5 HV;go_wp2;go_ret3
  exact RetPar.mk_ HR.out rfl (OwnNd.nil _ _) HB2.out
 have q2:decide (65536<S.size)=false:=decide_eq_false hbig;have q2':decide ((65536:Int)<(S.size:Int))=false:=decide_eq_false (by omega);by_cases h0:S.size=0
 ·obtain ⟨e1,e2⟩:=empty_of (W:=S) (l:=[]) (by have:=size_data S;rw[h0]at this;exact List.length_eq_zero_iff.1 this) rfl;have HR:=Lib.hid (HP2.out rfl h0);clear h0 hbig HP0 HP1 HP2 HP3 HP4 HP5 HV;go_wp2;go_ret3
  exact RetPar.mk_ HR.out rfl (OwnNd.nil _ _) HB2.out
 have e1:=full_of (W:=S) (l:=S.data.toList) rfl (by intro h;have:=size_data S;rw[h]at this;exact h0 this.symm);have hS6:S.size≤65536:=by omega
 have HP3':=Lib.hid (fun j e=>HP3.out j e rfl hbig h0);have HP4':=Lib.hid (fun i l=>HP4.out i l rfl hbig h0);have HP5':=Lib.hid (fun i l=>HP5.out i l rfl hbig h0);have bb:=BS2.out;have s0:=bb.cell 0;have s1:=bb.cell 1;simp only[jA,jZ,jS]at s0 s1;clear bb HP0 HP1 HP2 HP3 HP4 HP5 hbig h0;obtain ⟨g,hg⟩:∃ g,w2.heap.size=g:=⟨_,rfl⟩
 obtain ⟨X,hX⟩:∃ X,X=w2.alloc (.cells #[.slice A cs.length cA,.int .i64 key,.string S,.int .i64 0,.slice none 0 0,.int .i64 0,.int .i64 0] 106):=⟨_,rfl⟩
 have hwg:w.heap.size≤g:=by rw[←hg];exact HB2.out.size
 have XB:=Lib.hid (show Blk X g 106 #[.slice A cs.length cA,.int .i64 key,.string S,.int .i64 ((0:Nat):Int),.slice none 0 0,.int .i64 0,.int .i64 0] by rw[hX,←hg];exact Blk.new _ _ _);have XK:=Lib.hid (show Below w.heap.size w X by rw[hX];exact bst HB2.out (below_new _ _));have hx:PCtx w g (.slice A cs.length cA) S cs w.heap.size:=⟨hS6,HS.out,HE.out,by have:=HV.out.2.1;omega,hwg,Nat.le_refl _⟩
 have HN:=Lib.hid (rnode_any_ w g w.heap.size (.slice A cs.length cA) key 0 S cs hx (S.size+1) 0 (.slice none 0 0) [] X XB.out (Nat.zero_le _) (by omega) (OwnNd.nil _ _) (by simp) XK.out XK.out.size);clear hx HV HS;go_upto_region 9 with (fail)
 rw[←hX];try simp only[hg]
 clear hX hg s0 s1;go_wp2_with fail
 refine HN.out.mono ?_;rintro e w3 hret;cases h:parN cs S.data.toList (S.size+1) 0 [] with
 | error r =>
  obtain ⟨k,er⟩:=r;rw[h]at hret;have HR:=Lib.hid (HP3'.out k er h);obtain ⟨hk,rfl,her,i0,nv0,hi0,hB⟩:=hret;have HB3:=Lib.hid hB;have HER:=Lib.hid her;have q6:(er != 0)=true:=by simpa using her
  have q7:(er==0)=false:=by simpa using her
  have HK3:=Lib.hid (below_kp XK.out hk (fun q h=>by
   rcases h with h|h
   ·omega
   ·cases h) XK.out.size)
  clear hk hB her h HP3' HP4' HP5' HN;go_wp2_with fail
  refine (rspace_any g i0 _ nv0 key k er S w3 HB3.out hi0 hS6).mono ?_;rintro _ w4 ⟨rfl,hB,ho⟩;have HB4:=Lib.hid hB;have HK4:=Lib.hid (below_only HK3.out ho hwg HK3.out.size);clear hB ho;obtain ⟨m,hm⟩:∃ m,sk S.data.toList i0=m:=⟨_,rfl⟩
  rw[hm]at HB4;clear hm;have bb:=HB4.out;have c3:=bb.cell 3;simp only[jA,jZ,jS]at c3;clear bb;by_cases hlt:m<S.size
  ·have q3:decide (m<S.size)=true:=decide_eq_true hlt;have q3':decide ((m:Int)<(S.size:Int))=true:=decide_eq_true (by omega);clear hlt;go_wp2_with fail
   refine (rfail_later g m _ nv0 key k er _ _ S w4 HB4.out q7).mono ?_;rintro _ w5 ⟨rfl,hB,ho⟩;have HB5:=Lib.hid hB;have HK5:=Lib.hid (below_only HK4.out ho hwg HK4.out.size);clear hB ho c3;have bb:=HB5.out;have c5:=bb.cell 5;have c6:=bb.cell 6;simp only[jA,jZ,jS]at c5 c6;clear bb;go_wp2_with fail
   go_quiet (fail)
   go_wp2;go_ret3
   exact RetPar.mk_ HR.out rfl (OwnNd.nil _ _) (below_drewN HK5.out _)
  ·have q3:decide (m<S.size)=false:=decide_eq_false hlt;have q3':decide ((m:Int)<(S.size:Int))=false:=decide_eq_false (by omega);clear hlt;have bb:=HB4.out;have c5:=bb.cell 5;have c6:=bb.cell 6;simp only[jA,jZ,jS]at c5 c6;clear bb;go_wp2_with fail
   go_quiet (fail)
   go_wp2;go_ret3
   exact RetPar.mk_ HR.out rfl (OwnNd.nil _ _) (below_drewN HK4.out _)
 | ok r =>
  obtain ⟨i,l⟩:=r;rw[h]at hret;obtain ⟨hk,rfl,hi,hl1,hl2,nv,hB,hO,hob⟩:=hret;have HB3:=Lib.hid hB;have HO3:=Lib.hid hO;have HK3:=Lib.hid (below_kp XK.out hk (fun q h=>by
   rcases h with h|h
   ·omega
   ·cases h) XK.out.size)
  have HP4:=Lib.hid (HP4'.out i l h);have HP5:=Lib.hid (HP5'.out i l h);obtain ⟨AN,cN,rfl,_,_⟩:=hO.form;clear hk hB hO hob h HP3' HP4' HP5' HN;go_wp2_with fail
  refine (rspace_any g i _ _ key 0 0 S w3 HB3.out hi hS6).mono ?_;rintro _ w4 ⟨rfl,hB,ho⟩;have HB4:=Lib.hid hB;have HO4:=Lib.hid (HO3.out.onlyR HB3.out ho);have HK4:=Lib.hid (below_only HK3.out ho hwg HK3.out.size);clear hB ho;obtain ⟨m,hm⟩:∃ m,sk S.data.toList i=m:=⟨_,rfl⟩
  rw[hm]at HB4 HP4 HP5;clear hm;have bb:=HB4.out;have c3:=bb.cell 3;simp only[jA,jZ,jS]at c3;clear bb;by_cases hlt:m<S.size
  ·have q3:decide (m<S.size)=true:=decide_eq_true hlt;have q3':decide ((m:Int)<(S.size:Int))=true:=decide_eq_true (by omega);have HR:=Lib.hid (HP4.out hlt);clear hlt HP4 HP5;go_wp2_with fail
   refine (rfail_first g m _ _ key 0 _ _ S w4 HB4.out).mono ?_;rintro _ w5 ⟨rfl,hB,ho⟩;have HB5:=Lib.hid hB;have HK5:=Lib.hid (below_only HK4.out ho hwg HK4.out.size);clear hB ho c3;have bb:=HB5.out;have c5:=bb.cell 5;have c6:=bb.cell 6;simp only[jA,jZ,jS]at c5 c6;clear bb;go_wp2_with fail
   go_quiet (fail)
   go_wp2;go_ret3
   exact RetPar.mk_ HR.out rfl (OwnNd.nil _ _) (below_drewN HK5.out _)
  ·have q3:decide (m<S.size)=false:=decide_eq_false hlt;have q3':decide ((m:Int)<(S.size:Int))=false:=decide_eq_false (by omega);have HR:=Lib.hid (HP5.out hlt);clear hlt HP4 HP5;have bb:=HB4.out;have c4:=bb.cell 4;have c5:=bb.cell 5;simp only[jA,jZ,jS]at c4 c5;clear bb;go_wp2;go_ret3
   exact RetPar.mk_ HR.out rfl HO4.out HK4.out
set_option maxRecDepth 100000 in
set_option maxHeartbeats 8000000 in
theorem parses22_any (v:Value) (key:Int) (cs:List Col) (S:ByteArray) (w:World) (hE:Env w) (hs:Sl w 4 v cs.length (cols cs)) (hcl:cs.length≤9223372036854775807) (hnm:∀ c ∈ cs,c.nm.size≤9223372036854775807) (hS:S.size≤9223372036854775807) :
  Calls Tryz.prog 18 #[.agg #[v,.int .i64 key],.string S] w fun e w'=>e=.returned (.bool true)∧Below w.heap.size w w':=by
 obtain ⟨A,cA,rfl,hc1,hc2⟩:=hs.form;have HE:=Lib.hid hE;have HS:=Lib.hid hs;obtain ⟨R,hR⟩:∃ R,parP cs key S.data.toList=R:=⟨_,rfl⟩
 obtain ⟨l,at_,er⟩:=R;have HP:=Lib.hid (fun X (hX:Below w.heap.size w X)=>show Calls Tryz.prog 8 #[.agg #[.slice A cs.length cA,.int .i64 key],.string S] X (RetPar X (l,at_,er)) by
  have h:=pparse_any _ key cs S X (hE.below hX) (hs.below hX) hcl hnm hS;rw[hR]at h;exact h)
 have HQ:=Lib.hid (fun X (hX:Below w.heap.size w X)=>show Calls Tryz.prog 37 #[.agg #[.slice A cs.length cA,.int .i64 key],.string S] X (RetPar X (l,at_,er)) by
  have h:=rparse_any _ key cs S X (hE.below hX) (hs.below hX) hcl hnm hS;rw[hR]at h;exact h)
 obtain ⟨N0,hN0⟩:∃ N,w.heap.size=N:=⟨_,rfl⟩
 obtain ⟨W,hW⟩:∃ W,W=w.alloc (.cells #[.slice A cs.length cA,.int .i64 key] 28):=⟨_,rfl⟩
 have hb0:Below w.heap.size w W:=by rw[hW];exact (Below.refl _ _).alloc (Nat.le_refl _) _
 have BS:=Lib.hid (show Blk W N0 28 #[.slice A cs.length cA,.int .i64 key] by rw[hW,←hN0];exact Blk.new _ _ _);have HB0:=Lib.hid hb0;clear hE hs hR hb0;go_enter Tryz.func18,Tryz.ntmps18
 go_upto_region 1 with (fail)
 rw[←hW];try simp only[hN0]
 clear hW;have s0:=BS.out.cell 0;have s1:=BS.out.cell 1;simp only[jA,jZ,jS]at s0 s1;go_wp2_with fail
 refine (HP.out _ HB0.out).mono ?_;rintro _ w1 ⟨nv,rfl,ho,hb1⟩;have B1:=Lib.hid (bst HB0.out hb1);have BS1:=Lib.hid (BS.out.below hb1 BS.out.lt);have HO1:=Lib.hid ho;obtain ⟨A1,c1,rfl,_,_⟩:=ho.form;clear hb1 s0 s1 ho;have s0:=BS1.out.cell 0;have s1:=BS1.out.cell 1;simp only[jA,jZ,jS]at s0 s1;go_wp2_with fail
 refine (HQ.out _ B1.out).mono ?_;rintro _ w2 ⟨nv2,rfl,ho,hb2⟩;have B2:=Lib.hid (bst B1.out hb2);have HSM:=Lib.hid (samend_eq _ nv2 l w2 (HO1.out.sl.below hb2) ho.sl);obtain ⟨A2,c2,rfl,_,_⟩:=ho.form;clear hb2 s0 s1 ho HO1;go_wp2_with fail
 refine HSM.out.mono ?_;rintro _ w3 ⟨rfl,hb3⟩;have B3:=Lib.hid (bst B2.out hb3);clear hb3 HSM;go_wp2;go_ret;exact ⟨rfl,B3.out⟩
end Go.Proofs.YtjnamjkdjcndiaaGreatDoor
