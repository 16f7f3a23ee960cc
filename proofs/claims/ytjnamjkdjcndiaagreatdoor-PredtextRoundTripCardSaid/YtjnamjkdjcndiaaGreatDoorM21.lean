/-
  Words, plain laws and contracts on which the walks lean, in one text.
-/
import Derived.Test.YtjnamjkdjcndiaaGreatDoorM20
import Derived.Test.YtjnamjkdjcndiaaGreatDoorKNode
import Derived.Test.YtjnamjkdjcndiaaGreatDoorPLeaf
namespace Go.Proofs.YtjnamjkdjcndiaaGreatDoor
open Go.RowKit Go.Sort

def RetLstP (w:World) (g N:Nat) (sv nv:Value) (key wh e0:Int) (S:ByteArray) (op:Int) (K:Nat) (b0:Bool) (n0:Int) (s0:ByteArray) (x y:Int) (r:Except (Nat×Int) (Nat×List Vl)) (e:Ending) (w':World):Prop :=
 Kp (fun i=>i=g∨i=N) w w'∧match r with
 | .ok (j,l)=>e=.returned (.bool true)∧Blk w' g 54 #[sv,.int .i64 key,.string S,.int .i64 j,nv,.int .i64 wh,.int .i64 e0]∧(∃ lu,Blk w' N 66 #[.int .i64 op,.int .i64 (K:Int),.bool b0,.int .i64 n0,.string s0,lu,.int .i64 x,.int .i64 y]∧w'.ownsRow w.heap.size 64 3 lu l.length (vls l))
 | .error (k,er)=>e=.returned (.bool false)∧(∃ i:Nat,Blk w' g 54 #[sv,.int .i64 key,.string S,.int .i64 i,nv,.int .i64 k,.int .i64 er])
section
variable {c:Col} {T:List UInt8} {f i:Nat} {l:List Vl}
theorem lst_none (h:wd T (sk T i)=[]) (hl:l.length=0):lstP c T (f+1) i l=.error (sk T i,2):=by unfold lstP;rw[if_pos h,if_pos hl]
theorem lst_end (h:wd T (sk T i)=[]) (hl:l.length≠0):lstP c T (f+1) i l=.ok (sk T i,l):=by unfold lstP;rw[if_pos h,if_neg hl]
theorem lst_full (h:wd T (sk T i)≠[]) (hl:l.length=16):lstP c T (f+1) i l=.error (sk T i,7):=by unfold lstP;rw[if_neg h,if_pos hl]
theorem lst_bad (h:wd T (sk T i)≠[]) (hl:l.length≠16) (hf:(vparV c.ty c.sc true (wd T (sk T i))).2≠0):lstP c T (f+1) i l=.error (sk T i,(vparV c.ty c.sc true (wd T (sk T i))).2):=by unfold lstP;rw[if_neg h,if_neg hl,if_pos hf]
theorem lst_go (h:wd T (sk T i)≠[]) (hl:l.length≠16) (hf:(vparV c.ty c.sc true (wd T (sk T i))).2=0):lstP c T (f+1) i l=lstP c T f (we T (sk T i)) (l ++ [vlP (vparV c.ty c.sc true (wd T (sk T i))).1]):=by rw[lstP,if_neg h,if_neg hl,if_neg (by rw[hf];simp)]
end
set_option maxRecDepth 100000 in
set_option maxHeartbeats 8000000 in
theorem plist_any (w0:World) (g N i K:Nat) (sv nv:Value) (key wh e0 op n0 x y:Int) (b0:Bool) (s0 S:ByteArray) (cs:List Col) (c:Col) (w:World) (hB:Blk w g 54 #[sv,.int .i64 key,.string S,.int .i64 i,nv,.int .i64 wh,.int .i64 e0]) (hN:Blk w N 66 #[.int .i64 op,.int .i64 (K:Int),.bool b0,.int .i64 n0,.string s0,(.slice none 0 0),.int .i64 x,.int .i64 y])
  (hi:i≤S.size) (hS:S.size≤65536) (hcs:Sl w0 4 sv cs.length (cols cs)) (hE:Env w0) (hb0:Below w0.heap.size w0 w) (hg:w0.heap.size≤g) (hn:w0.heap.size≤N) (_hcl:cs.length≤1000) (hc:cs[K]?=some c) :
  Calls Tryz.prog 71 #[.pointer (some ⟨g,0,none⟩),.pointer (some ⟨N,0,none⟩)] w (RetLstP w g N sv nv key wh e0 S op K b0 n0 s0 x y (lstP c S.data.toList 17 i [])):=by
 have hgN:g≠N:=by intro e;subst e;have:=hB.symm.trans hN;injection this with this;injection this with _ h;revert h;decide
 have hkc:K<cs.length:=(List.getElem?_eq_some_iff.1 hc).1;have qK:decide (K<cs.length)=true:=decide_eq_true hkc;have pK:((K:Int)<(cs.length:Int))=True:=eq_true (by omega);have HWD:=Lib.hid (fun (j:Nat) (w:World) (hB:Blk w g 54 #[sv,.int .i64 key,.string S,.int .i64 j,nv,.int .i64 wh,.int .i64 e0]) (hj:j≤S.size)=>pword_any g j sv nv key wh e0 S w hB hj hS);have HFL:=Lib.hid (fun (j:Nat) (a b:Int) (w:World) (hB:Blk w g 54 #[sv,.int .i64 key,.string S,.int .i64 j,nv,.int .i64 wh,.int .i64 e0])=>pfail_any g j sv nv key wh e0 a b S w hB);have HB:=Lib.hid hB;have HN:=Lib.hid hN;have HI:=Lib.hid hi;have HB0:=Lib.hid hb0;have HE:=Lib.hid hE;obtain ⟨AS,cS,rfl,_,_⟩:=hcs.form;obtain ⟨ad,c',pc,rfl,hc',hpc,hCA⟩:=(hcs.below hb0).col_load rfl hkc;rw[hc]at hc';injection hc' with hc'
 subst hc';have HCA:=Lib.hid hCA;clear hB hN hi hcs hE hb0 hc hCA;go_enter Tryz.func71,Tryz.ntmps71
 go_upto_region 1 with (fail)

 refine wp_region_inv (by kernel_rfl) (by kernel_rfl) (fun L a w'=>∃ u10 u11 u12 u13 u14 u15 u16 u17 u18 u19 u20 u5:Value,a=⟨#[.pointer (some ⟨g,0,none⟩),.pointer (some ⟨N,0,none⟩),undef,undef,.bool false,u5,undef,undef,undef,undef,u10,u11,u12,u13,u14,u15,u16,u17,u18,u19,u20,undef,undef,undef,undef,undef,undef,undef,undef,undef,undef,undef,undef,undef,undef,undef,undef,undef,undef,undef,undef,undef,undef,undef,undef,undef,undef,undef,undef,undef,undef,undef,undef,undef,undef,undef,undef,undef,undef,undef,undef,undef,undef,undef,undef,undef,undef,undef,undef,undef,undef,undef,undef,undef,undef,undef],[]⟩ ∧
   Below w.heap.size w w'∧Got (L 0) u10 (.pointer (some ⟨g,0,none⟩))∧Got (L 1) u11 (.pointer (some ⟨g,0,none⟩))∧Got (L 2) u12 (.pointer (some ⟨g,0,none⟩))∧Got (L 3) u13 (.pointer (some ⟨g,0,none⟩))∧Got (L 4) u14 (.slice (some ad) cs.length cS)∧Got (L 5) u15 (.pointer (some ⟨N,0,none⟩))∧Got (L 6) u16 (.pointer (some ⟨N,0,none⟩))∧Got (L 7) u17 (.pointer (some ⟨N,1,none⟩))∧Got (L 8) u18 (.int .i64 (K:Int))∧Got (L 9) u19 (.pointer (some pc))∧Got (L 10) u20 (.agg #[.string c.nm,.int .i64 c.ty,.int .i64 c.sc,.bool c.nu])∧(L 11=true→∃ A,u5=.pointer (some ⟨A,0,none⟩)∧w.heap.size≤A∧(L 12=false→Blk w' A 56 #[.string { data:=#[] },.int .i64 0,.int .i64 0,.bool false])∧(L 12=true→Blk w' A 56 #[.string c.nm,.int .i64 c.ty,.int .i64 c.sc,.bool c.nu]))∧(L 12=true→L 11=true))
  ?_ ?_ ?_
 ·exact ⟨_,_,_,_,_,_,_,_,_,_,_,_,rfl,(Below.refl _ _).drew,nofun,nofun,nofun,nofun,nofun,nofun,nofun,nofun,nofun,nofun,nofun,nofun,nofun⟩
 ·refine ⟨?_,?_,?_,?_,?_,?_,?_,?_,?_,?_,?_,?_,?_,trivial⟩
  ·refine fun L a w'=>ex8 fun _ _ _ _ _ _ _ _=>ex4 fun _ _ _ _=>un8 fun ha hb g0 g1 g2 g3 g4 g5=>un4 fun g6 g7 g8 g9=>un2 fun g10 g11 g12 hl hd K hK=>?_;subst ha
   dsimp only at hK ⊢;go_simp;exact hK _ _ ⟨_,_,_,_,_,_,_,_,_,_,_,_,rfl,hb,fun _=>rfl,g1,g2,g3,g4,g5,g6,g7,g8,g9,g10,g11,g12⟩
  ·refine fun L a w'=>ex8 fun _ _ _ _ _ _ _ _=>ex4 fun _ _ _ _=>un8 fun ha hb g0 g1 g2 g3 g4 g5=>un4 fun g6 g7 g8 g9=>un2 fun g10 g11 g12 hl hd K hK=>?_;subst ha
   simp[Region.binds]at hd;dsimp only at hK ⊢;have e0:=g0 (by simp[hd]);subst e0;go_simp;exact hK _ _ ⟨_,_,_,_,_,_,_,_,_,_,_,_,rfl,hb,g0,fun _=>rfl,g2,g3,g4,g5,g6,g7,g8,g9,g10,g11,g12⟩
  ·refine fun L a w'=>ex8 fun _ _ _ _ _ _ _ _=>ex4 fun _ _ _ _=>un8 fun ha hb g0 g1 g2 g3 g4 g5=>un4 fun g6 g7 g8 g9=>un2 fun g10 g11 g12 hl hd K hK=>?_;subst ha
   simp[Region.binds]at hd;dsimp only at hK ⊢;have e1:=g1 (by simp[hd]);subst e1;go_simp;exact hK _ _ ⟨_,_,_,_,_,_,_,_,_,_,_,_,rfl,hb,g0,g1,fun _=>rfl,g3,g4,g5,g6,g7,g8,g9,g10,g11,g12⟩
  ·refine fun L a w'=>ex8 fun _ _ _ _ _ _ _ _=>ex4 fun _ _ _ _=>un8 fun ha hb g0 g1 g2 g3 g4 g5=>un4 fun g6 g7 g8 g9=>un2 fun g10 g11 g12 hl hd K hK=>?_;subst ha
   simp[Region.binds]at hd;dsimp only at hK ⊢;have e2:=g2 (by simp[hd]);subst e2;go_simp;exact hK _ _ ⟨_,_,_,_,_,_,_,_,_,_,_,_,rfl,hb,g0,g1,g2,fun _=>rfl,g4,g5,g6,g7,g8,g9,g10,g11,g12⟩
  ·refine fun L a w'=>ex8 fun _ _ _ _ _ _ _ _=>ex4 fun _ _ _ _=>un8 fun ha hb g0 g1 g2 g3 g4 g5=>un4 fun g6 g7 g8 g9=>un2 fun g10 g11 g12 hl hd K hK=>?_;subst ha
   simp[Region.binds]at hd;dsimp only at hK ⊢;have e3:=g3 (by simp[hd]);subst e3;have bb:=HB.out.below hb HB.out.lt;have c0:=bb.cell 0;simp only[jA,jZ]at c0;clear bb;go_simp;exact hK _ _ ⟨_,_,_,_,_,_,_,_,_,_,_,_,rfl,hb,g0,g1,g2,g3,fun _=>rfl,g5,g6,g7,g8,g9,g10,g11,g12⟩
  ·refine fun L a w'=>ex8 fun _ _ _ _ _ _ _ _=>ex4 fun _ _ _ _=>un8 fun ha hb g0 g1 g2 g3 g4 g5=>un4 fun g6 g7 g8 g9=>un2 fun g10 g11 g12 hl hd K hK=>?_;subst ha
   dsimp only at hK ⊢;go_simp;exact hK _ _ ⟨_,_,_,_,_,_,_,_,_,_,_,_,rfl,hb,g0,g1,g2,g3,g4,fun _=>rfl,g6,g7,g8,g9,g10,g11,g12⟩
  ·refine fun L a w'=>ex8 fun _ _ _ _ _ _ _ _=>ex4 fun _ _ _ _=>un8 fun ha hb g0 g1 g2 g3 g4 g5=>un4 fun g6 g7 g8 g9=>un2 fun g10 g11 g12 hl hd K hK=>?_;subst ha
   simp[Region.binds]at hd;dsimp only at hK ⊢;have e5:=g5 (by simp[hd]);subst e5;go_simp;exact hK _ _ ⟨_,_,_,_,_,_,_,_,_,_,_,_,rfl,hb,g0,g1,g2,g3,g4,g5,fun _=>rfl,g7,g8,g9,g10,g11,g12⟩
  ·refine fun L a w'=>ex8 fun _ _ _ _ _ _ _ _=>ex4 fun _ _ _ _=>un8 fun ha hb g0 g1 g2 g3 g4 g5=>un4 fun g6 g7 g8 g9=>un2 fun g10 g11 g12 hl hd K hK=>?_;subst ha
   simp[Region.binds]at hd;dsimp only at hK ⊢;have e6:=g6 (by simp[hd]);subst e6;go_simp;exact hK _ _ ⟨_,_,_,_,_,_,_,_,_,_,_,_,rfl,hb,g0,g1,g2,g3,g4,g5,g6,fun _=>rfl,g8,g9,g10,g11,g12⟩
  ·refine fun L a w'=>ex8 fun _ _ _ _ _ _ _ _=>ex4 fun _ _ _ _=>un8 fun ha hb g0 g1 g2 g3 g4 g5=>un4 fun g6 g7 g8 g9=>un2 fun g10 g11 g12 hl hd K hK=>?_;subst ha
   simp[Region.binds]at hd;dsimp only at hK ⊢;have e7:=g7 (by simp[hd]);subst e7;have bb:=HN.out.below hb HN.out.lt;have c0:=bb.cell 0;have c1:=bb.cell 1;simp only[jA,jZ,jS]at c0 c1;clear bb;go_simp;exact hK _ _ ⟨_,_,_,_,_,_,_,_,_,_,_,_,rfl,hb,g0,g1,g2,g3,g4,g5,g6,g7,fun _=>rfl,g9,g10,g11,g12⟩
  ·refine fun L a w'=>ex8 fun _ _ _ _ _ _ _ _=>ex4 fun _ _ _ _=>un8 fun ha hb g0 g1 g2 g3 g4 g5=>un4 fun g6 g7 g8 g9=>un2 fun g10 g11 g12 hl hd K hK=>?_;subst ha
   simp[Region.binds]at hd;dsimp only at hK ⊢;have e4:=g4 (by simp[hd]);subst e4;have e8:=g8 (by simp[hd]);subst e8;go_simp;exact hK _ _ ⟨_,_,_,_,_,_,_,_,_,_,_,_,rfl,hb,g0,g1,g2,g3,g4,g5,g6,g7,g8,fun _=>rfl,g10,g11,g12⟩
  ·refine fun L a w'=>ex8 fun _ _ _ _ _ _ _ _=>ex4 fun _ _ _ _=>un8 fun ha hb g0 g1 g2 g3 g4 g5=>un4 fun g6 g7 g8 g9=>un2 fun g10 g11 g12 hl hd K hK=>?_;subst ha
   simp[Region.binds]at hd;dsimp only at hK ⊢;have e9:=g9 (by simp[hd]);subst e9;have hca:=HCA.out.below hb;have k0:=hca.c0;have k1:=hca.c1;have k2:=hca.c2;have k3:=hca.c3;clear hca;go_simp;exact hK _ _ ⟨_,_,_,_,_,_,_,_,_,_,_,_,rfl,hb,g0,g1,g2,g3,g4,g5,g6,g7,g8,g9,fun _=>rfl,g11,g12⟩
  ·refine fun L a w'=>ex8 fun _ _ _ _ _ _ _ _=>ex4 fun _ _ _ _=>un8 fun ha hb g0 g1 g2 g3 g4 g5=>un4 fun g6 g7 g8 g9=>un2 fun g10 g11 g12 hl hd K hK=>?_;subst ha
   dsimp only at hK ⊢;go_simp;exact hK _ _ ⟨_,_,_,_,_,_,_,_,_,_,_,_,rfl,hb.alloc hb.size _,g0,g1,g2,g3,g4,g5,g6,g7,g8,g9,g10,fun _=>⟨_,rfl,hb.size,fun _=>Blk.new _ _ _,fun h=>by have:=g12 h;rw[hl]at this;cases this⟩,fun _=>rfl⟩
  ·refine fun L a w'=>ex8 fun _ _ _ _ _ _ _ _=>ex4 fun _ _ _ _=>un8 fun ha hb g0 g1 g2 g3 g4 g5=>un4 fun g6 g7 g8 g9=>un2 fun g10 g11 g12 hl hd K hK=>?_;subst ha
   simp[Region.binds]at hd;dsimp only at hK ⊢;have e10:=g10 (by simp[hd]);subst e10;have h11:L 11=true:=by simp[hd]
   obtain ⟨A,hA,hA1,hA2,hA3⟩:=g11 h11;subst hA;have bb:=hA2 hl;have z0:=bb.cell 0;have z1:=bb.cell 1;have z2:=bb.cell 2;have z3:=bb.cell 3;have y0:=bb.frozen 0;have y1:=bb.frozen 1;have y2:=bb.frozen 2;have y3:=bb.frozen 3;simp only[jA,jZ,jS]at z0 z1 z2 z3;have hlt:=bb.lt;go_simp;have kb:=(((bb.set_ 0 (.string c.nm)).set_ 1 (.int .i64 c.ty)).set_ 2 (.int .i64 c.sc)).set_ 3 (.bool c.nu);simp only[jI,jY,jT]at kb;exact hK _ _ ⟨_,_,_,_,_,_,_,_,_,_,_,_,rfl,bset (bset (bset (bset hb hA1 _) hA1 _) hA1 _) hA1 _,g0,g1,g2,g3,g4,g5,g6,g7,g8,g9,g10,fun _=>⟨A,rfl,hA1,nofun,fun _=>kb⟩,fun _=>h11⟩
 intro a w2 hI
 revert hI;refine ex8 fun u10 u11 u12 u13 u14 u15 u16 u17=>ex4 fun u18 u19 u20 _=>un8 fun ha hb g0 g1 g2 g3 g4 g5=>un4 fun g6 g7 g8 g9=>un2 fun g10 g11 g12=>?_;subst ha
 obtain ⟨C,hC,hC1,_,hC3⟩:=g11 rfl;subst hC;have HC:=Lib.hid (hC3 rfl);have HBC:=Lib.hid (HB.out.below hb HB.out.lt);have HNC:=Lib.hid (HN.out.below hb HN.out.lt);have HKC:=Lib.hid (Kp.below (S:=fun i=>i=g∨i=N) Kp.refl hb);have hgC:g≠C:=by have:=HB.out.lt;omega
 have hNC:N≠C:=by have:=HN.out.lt;omega
 clear g0 g1 g2 g3 g4 g5 g6 g7 g8 g9 g10 g11 g12 hb hC3;obtain ⟨X,hX⟩:∃ X,X=w2.setCell ⟨C,3,none⟩ (.bool true):=⟨_,rfl⟩
 have bb:=HC.out;have z3:=bb.cell 3;have y3:=bb.frozen 3;simp only[jA,jZ,jS]at z3;have kb:=bb.set_ 3 (.bool true);simp only[jI,jY,jT]at kb;have kg:=grownBy_set w2 ⟨C,3,none⟩ (.bool true);rw[←hX]at kb kg;have HCX:=Lib.hid kb;have HBX:=Lib.hid (HBC.out.row kg hgC);have HNX:=Lib.hid (HNC.out.row kg hNC);have HKX:=Lib.hid (HKC.out.grown kg (fun i e hi=>by injection e with e;subst e;exact absurd hi (by show ¬ C<w.heap.size;omega)));have hCl:=kb.lt;clear bb kb kg HC HBC HNC HKC;go_wp2_with fail
 rw[←hX];clear hX z3 y3;go_loopg [] 17 (fun q wr=>∃ (j f:Nat) (l:List Vl) (lu:Value),q=f+1∧f+l.length=16∧j≤S.size∧Blk wr g 54 #[.slice (some ad) cs.length cS,.int .i64 key,.string S,.int .i64 j,nv,.int .i64 wh,.int .i64 e0]∧Blk wr N 66 #[.int .i64 op,.int .i64 (K:Int),.bool b0,.int .i64 n0,.string s0,lu,.int .i64 x,.int .i64 y]∧Blk wr C 56 #[.string c.nm,.int .i64 c.ty,.int .i64 c.sc,.bool true]∧wr.ownsRow w.heap.size 64 3 lu l.length (vls l)∧Hid (lstP c S.data.toList (f+1) j l=lstP c S.data.toList 17 i [])∧Kp (fun i=>i=g∨i=N) w wr∧C<wr.heap.size)
 case atStart=>exact ⟨i,16,[],_,rfl,rfl,HI.out,HBX.out,HNX.out,HCX.out,World.ownsRow_nil _ _ _ _,Lib.hid rfl,HKX.out,hCl⟩
 case round =>
  clear HBX HNX HCX HKX hCl;obtain ⟨j,f,l,lu,hn9,hfl,hj,hb,hnn,hc,ho,hls,hk,hcl9⟩:=hrel;obtain ⟨A2,c2,rfl,hl1,hl2⟩:=(Sl.of_own ho).form;have HQ:=Lib.hid hn9;have HBJ:=Lib.hid hb;have HNJ:=Lib.hid hnn;have HCJ:=Lib.hid hc;have HRW:=Lib.hid ho;have HKJ:=Lib.hid hk;have hl16:l.length≤16:=by omega
  clear hn9 hb hnn hc ho hk;obtain ⟨k,hk⟩:∃ k,sk S.data.toList j=k:=⟨_,rfl⟩
  obtain ⟨T,hT⟩:∃ T,wd S.data.toList k=T:=⟨_,rfl⟩
  obtain ⟨m,hm⟩:∃ m,we S.data.toList k=m:=⟨_,rfl⟩
  have hkS:k≤S.size:=by rw[←hk,←size_data];exact sk_le (by rw[size_data];exact hj)
  have hmS:m≤S.size:=by rw[←hm,←size_data];exact we_le (by rw[size_data];exact hkS)
  have hTl:T.length≤65536:=by have h:=hmS;rw[←hm]at h;unfold we at h;rw[hT]at h;omega
  have H1:=Lib.hid (lst_none (c:=c) (T:=S.data.toList) (f:=f) (i:=j) (l:=l));have H2:=Lib.hid (lst_end (c:=c) (T:=S.data.toList) (f:=f) (i:=j) (l:=l));have H3:=Lib.hid (lst_full (c:=c) (T:=S.data.toList) (f:=f) (i:=j) (l:=l));have H4:=Lib.hid (lst_bad (c:=c) (T:=S.data.toList) (f:=f) (i:=j) (l:=l));have H5:=Lib.hid (lst_go (c:=c) (T:=S.data.toList) (f:=f) (i:=j) (l:=l));rw[hls.out]at H1 H2 H3 H4 H5;have HWJ:=Lib.hid (HWD.out j wr HBJ.out hj);unfold RetWord at HWJ
  rw[hk,hT]at H1 H2 H3 H4 H5;rw[hk,hT,hm]at HWJ;rw[hm]at H5;have HTM:=Lib.hid (show T=[]→m=k from fun h=>by rw[←hm];exact we_stop (by rw[hT];exact h));clear hk hT hm hls;go_wp2_with fail
  refine HWJ.out.mono ?_;rintro _ w3 ⟨W,hW,rfl,hB,ho⟩;have HB3:=Lib.hid hB;have HK3:=Lib.hid (HKJ.out.only ho (.inl (.inl rfl)));have HN3:=Lib.hid (HNJ.out.row ho (fun e=>hgN e.symm));have HC3:=Lib.hid (HCJ.out.row ho (fun e=>hgC e.symm));have HR3:=Lib.hid (own_grown HRW.out ho (fun b hb e=>own_blk_ne HRW.out HBJ.out (by decide) (by rw[hb,e])));have hC3:C<w3.heap.size:=HC3.out.lt;have bb:=HN3.out;have n5:=bb.cell 5;simp only[jA,jZ,jS]at n5;clear bb hB ho HWJ HKJ HNJ HCJ HRW HBJ;by_cases hTe:T=[]
  ·obtain ⟨e1,e2⟩:=empty_of hW hTe;by_cases hl0:l.length=0
   ·have q0:((l.length:Int)==0)=true:=by rw[beq_iff_eq];omega
    have q0':(l.length==0)=true:=by rw[beq_iff_eq];exact hl0
    have HR:=Lib.hid (H1.out hTe hl0);clear hTe hW H1 H2 H3 H4 H5 hl0;go_wp2_with fail
    refine (HFL.out m _ _ w3 HB3.out).mono ?_;rintro _ w4 ⟨rfl,hB,ho⟩;have HB4:=Lib.hid hB;have HK4:=Lib.hid (HK3.out.only ho (.inl (.inl rfl)));clear hB ho n5;go_wp2;go_ret;rw[HR.out];exact ⟨HK4.out,rfl,m,HB4.out⟩
   ·have q0:((l.length:Int)==0)=false:=by rw[beq_eq_false_iff_ne];omega
    have q0':(l.length==0)=false:=by simpa using hl0
    have HR:=Lib.hid (H2.out hTe hl0);have hkm:=Lib.hid (HTM.out hTe);clear hTe hW H1 H2 H3 H4 H5 hl0;go_wp2;go_ret;rw[HR.out];exact ⟨HK3.out,rfl,by rw[←hkm.out];exact HB3.out,_,HN3.out,HR3.out⟩
  ·have e1:=full_of hW hTe;by_cases hl6:l.length=16
   ·have q6:((l.length:Int)==16)=true:=by rw[beq_iff_eq];omega
    have q6':(l.length==16)=true:=by rw[beq_iff_eq];exact hl6
    have HR:=Lib.hid (H3.out hTe hl6);clear hTe hW H1 H2 H3 H4 H5 hl6;go_wp2_with fail
    refine (HFL.out m _ _ w3 HB3.out).mono ?_;rintro _ w4 ⟨rfl,hB,ho⟩;have HB4:=Lib.hid hB;have HK4:=Lib.hid (HK3.out.only ho (.inl (.inl rfl)));clear hB ho n5;go_wp2;go_ret;rw[HR.out];exact ⟨HK4.out,rfl,m,HB4.out⟩
   ·have q6:((l.length:Int)==16)=false:=by rw[beq_eq_false_iff_ne];omega
    have q6':(l.length==16)=false:=by simpa using hl6
    have hWs:W.size≤65536:=by rw[←size_data,hW];exact hTl
    have hq:vparV c.ty c.sc true T=vparV c.ty c.sc true W.data.toList:=by rw[hW]
    obtain ⟨vb,hb⟩:∃ b,(vparV c.ty c.sc true W.data.toList).1.1=b:=⟨_,rfl⟩
    obtain ⟨vn,hn⟩:∃ n,(vparV c.ty c.sc true W.data.toList).1.2.1=n:=⟨_,rfl⟩
    obtain ⟨vs,hs⟩:∃ s,(⟨(vparV c.ty c.sc true W.data.toList).1.2.2.toArray⟩:ByteArray)=s:=⟨_,rfl⟩
    obtain ⟨er,hf⟩:∃ f,(vparV c.ty c.sc true W.data.toList).2=f:=⟨_,rfl⟩
    have HV:=Lib.hid (fun (w':World) (he:Env w')=>vbV_of hb hn hs hf (vpar_any c.nm c.ty c.sc true W w' he (by omega)));have HVL:=Lib.hid (show vlP (vparV c.ty c.sc true T).1=⟨vb,vn,vs⟩ by rw[hq,←hb,←hn,←hs];rfl);have HVE:=Lib.hid (show (vparV c.ty c.sc true T).2=er by rw[hq];exact hf);have H4':=Lib.hid (H4.out hTe hl6);have H5':=Lib.hid (H5.out hTe hl6);have HE3:=Lib.hid (show Env w3 from HE.out.below (below_kp HB0.out HK3.out (fun q h=>by rcases h with h | h <;> omega) HB0.out.size));clear hTe hW H1 H2 H3 H4 H5 hq hb hn hs hf;have bb:=HC3.out;have z0:=bb.cell 0;have z1:=bb.cell 1;have z2:=bb.cell 2;have z3:=bb.cell 3;simp only[jA,jZ,jS]at z0 z1 z2 z3;clear bb;go_wp2_with fail
    refine (HV.out w3 HE3.out).mono ?_;rintro _ w4 ⟨rfl,hb4⟩;have HB4:=Lib.hid (HB3.out.below hb4 HB3.out.lt);have HK4:=Lib.hid (HK3.out.below hb4);have HN4:=Lib.hid (HN3.out.below hb4 HN3.out.lt);have HC4:=Lib.hid (HC3.out.below hb4 HC3.out.lt);have HR4:=Lib.hid (own_below HR3.out hb4);have hs34:=hb4.size;clear hb4 z0 z1 z2 z3 n5 HB3 HK3 HN3 HC3 HR3 HV HE3;obtain ⟨A,hA⟩:∃ A,w4.heap.size=A:=⟨_,rfl⟩
    obtain ⟨wr5,hwr5⟩:∃ X,X=w4.alloc (.cells #[.bool vb,.int .i64 vn,.string vs] 64):=⟨_,rfl⟩
    have BG2:=Lib.hid (show Blk wr5 g 54 #[.slice (some ad) cs.length cS,.int .i64 key,.string S,.int .i64 m,nv,.int .i64 wh,.int .i64 e0] by rw[hwr5];exact HB4.out.alloc _);have HKA:=Lib.hid (show Kp (fun i=>i=g∨i=N) w wr5 by rw[hwr5];exact HK4.out.alloc _);have BN2:=Lib.hid (show Blk wr5 N 66 #[.int .i64 op,.int .i64 (K:Int),.bool b0,.int .i64 n0,.string s0,.slice A2 l.length c2,.int .i64 x,.int .i64 y] by rw[hwr5];exact HN4.out.alloc _);have BC2:=Lib.hid (show Blk wr5 C 56 #[.string c.nm,.int .i64 c.ty,.int .i64 c.sc,.bool true] by rw[hwr5];exact HC4.out.alloc _);have BA2:=Lib.hid (show Blk wr5 A 64 #[.bool vb,.int .i64 vn,.string vs] by rw[hwr5,←hA];exact Blk.new _ _ _);have OV:=Lib.hid (show wr5.ownsRow w.heap.size 64 3 (.slice A2 l.length c2) l.length (vls l) by rw[hwr5];exact HR4.out.alloc _);have hNA:N<A:=by rw[←hA];exact HN4.out.lt
    have HSZ:=Lib.hid (show w.heap.size≤wr5.heap.size from HKA.out.size);have HAL:=Lib.hid (show ∀ b,(Value.slice A2 l.length c2).ownBlock=some b→b<A from fun b hb=>by rw[←hA];exact (HR4.out.lt b hb).2);go_upto_region 11 with (fail)
    rw[←hwr5];try simp only[hA]
    clear hwr5 hA HB4 HK4 HN4 HC4 HR4;by_cases her:er=0
    ·subst her;have HR:=Lib.hid (H5'.out HVE.out);rw[HVL.out]at HR;clear H4' H5';go_upto_region 13 with (fail)
     refine wp_region_inv (by kernel_rfl) (by kernel_rfl) (fun L a w'=>∃ u66 u67 u68 u69 u70 u71 u72 u73 u74 u75:Value,a=⟨#[.pointer (some ⟨g,0,none⟩),.pointer (some ⟨N,0,none⟩),undef,undef,u4,.pointer (some ⟨C,0,none⟩),.int .i64 k,.string W,.pointer (some ⟨A,0,none⟩),.int .i64 0,u10,u11,u12,u13,u14,u15,u16,u17,u18,u19,u20,.pointer (some ⟨C,3,none⟩),.tuple #[.int .i64 k,.string W],.pointer (some ⟨g,0,none⟩),.tuple #[.int .i64 k,.string W],.int .i64 k,.string W,.bool false,.string W,.bool false,.bool false,undef,undef,undef,undef,undef,undef,.bool false,u38,u39,u40,.bool false,.string W,.bool false,.bool false,.pointer (some ⟨N,0,none⟩),.pointer (some ⟨N,0,none⟩),.pointer (some ⟨N,5,none⟩),.slice A2 l.length c2,.int .i64 l.length,.bool false,u51,u52,u53,.tuple #[.agg #[.bool vb,.int .i64 vn,.string vs],.int .i64 0],.agg #[.string c.nm,.int .i64 c.ty,.int .i64 c.sc,.bool true],.string W,.tuple #[.agg #[.bool vb,.int .i64 vn,.string vs],.int .i64 0],.agg #[.bool vb,.int .i64 vn,.string vs],.int .i64 0,.int .i64 0,.bool false,u62,u63,u64,u65,u66,u67,u68,u69,u70,u71,u72,u73,u74,u75],[]⟩ ∧
       Kp (fun i=>i=g∨i=N) w w'∧Got (L 0) u66 (.pointer (some ⟨N,0,none⟩))∧Got (L 1) u67 (.pointer (some ⟨N,0,none⟩))∧Got (L 2) u68 (.pointer (some ⟨N,0,none⟩))∧Got (L 3) u69 (.pointer (some ⟨N,5,none⟩))∧Got (L 4) u70 (.slice A2 l.length c2)∧Got (L 5) u71 (.agg #[.bool vb,.int .i64 vn,.string vs])∧(L 6=true→∃ A6,u72=.slice (some ⟨A6,0,none⟩) 1 1∧wr5.heap.size≤A6∧Blk w' A6 64 #[.bool vb,.int .i64 vn,.string vs])∧(L 7=true→∃ g9 c9,u73=.slice (some ⟨g9,0,none⟩) (l.length+1) c9∧w'.ownsRow w.heap.size 64 3 u73 (l.length+1) (vls l ++ [.bool vb,.int .i64 vn,.string vs]))∧Got (L 8) u74 (.pointer (some ⟨N,0,none⟩))∧Got (L 9) u75 (.pointer (some ⟨N,5,none⟩))∧(L 7=false→w'.ownsRow w.heap.size 64 3 (.slice A2 l.length c2) l.length (vls l))∧(L 10=false→Blk w' N 66 #[.int .i64 op,.int .i64 (K:Int),.bool b0,.int .i64 n0,.string s0,.slice A2 l.length c2,.int .i64 x,.int .i64 y])∧(L 10=true→Blk w' N 66 #[.int .i64 op,.int .i64 (K:Int),.bool b0,.int .i64 n0,.string s0,u73,.int .i64 x,.int .i64 y])∧(L 10=true→L 7=true)∧Blk w' g 54 #[.slice (some ad) cs.length cS,.int .i64 key,.string S,.int .i64 m,nv,.int .i64 wh,.int .i64 e0]∧Blk w' C 56 #[.string c.nm,.int .i64 c.ty,.int .i64 c.sc,.bool true]∧Blk w' A 64 #[.bool vb,.int .i64 vn,.string vs]∧(L 7=true→L 4=true∧L 6=true)∧wr5.heap.size≤w'.heap.size)
      ?_ ?_ ?_
     ·exact ⟨_,_,_,_,_,_,_,_,_,_,rfl,(HKA.out.drewN 1),nofun,nofun,nofun,nofun,nofun,nofun,nofun,nofun,nofun,nofun,fun _=>OV.out,fun _=>BN2.out.drewN 1,nofun,nofun,BG2.out.drewN 1,BC2.out.drewN 1,BA2.out.drewN 1,nofun,Nat.le_refl _⟩
     ·refine ⟨?_,?_,?_,?_,?_,?_,?_,?_,?_,?_,?_,trivial⟩
      ·refine fun L a w'=>ex8 fun _ _ _ _ _ _ _ _=>ex2 fun _ _=>un16 fun ha hb g0 g1 g2 g3 g4 g5 g6 g7 g8 g9 g10 g11 g12 g13=>un4 fun g14 g15 g16 g17 g18 hl hd K hK=>?_;subst ha
       dsimp only at hK ⊢;go_simp;exact hK _ _ ⟨_,_,_,_,_,_,_,_,_,_,rfl,hb,fun _=>rfl,g1,g2,g3,g4,g5,g6,g7,g8,g9,g10,g11,g12,g13,g14,g15,g16,g17,g18⟩
      ·refine fun L a w'=>ex8 fun _ _ _ _ _ _ _ _=>ex2 fun _ _=>un16 fun ha hb g0 g1 g2 g3 g4 g5 g6 g7 g8 g9 g10 g11 g12 g13=>un4 fun g14 g15 g16 g17 g18 hl hd K hK=>?_;subst ha
       dsimp only at hK ⊢;go_simp;exact hK _ _ ⟨_,_,_,_,_,_,_,_,_,_,rfl,hb,g0,fun _=>rfl,g2,g3,g4,g5,g6,g7,g8,g9,g10,g11,g12,g13,g14,g15,g16,g17,g18⟩
      ·refine fun L a w'=>ex8 fun _ _ _ _ _ _ _ _=>ex2 fun _ _=>un16 fun ha hb g0 g1 g2 g3 g4 g5 g6 g7 g8 g9 g10 g11 g12 g13=>un4 fun g14 g15 g16 g17 g18 hl hd K hK=>?_;subst ha
       simp[Region.binds]at hd;dsimp only at hK ⊢;have e1:=g1 (by simp[hd]);subst e1;go_simp;exact hK _ _ ⟨_,_,_,_,_,_,_,_,_,_,rfl,hb,g0,g1,fun _=>rfl,g3,g4,g5,g6,g7,g8,g9,g10,g11,g12,g13,g14,g15,g16,g17,g18⟩
      ·refine fun L a w'=>ex8 fun _ _ _ _ _ _ _ _=>ex2 fun _ _=>un16 fun ha hb g0 g1 g2 g3 g4 g5 g6 g7 g8 g9 g10 g11 g12 g13=>un4 fun g14 g15 g16 g17 g18 hl hd K hK=>?_;subst ha
       simp[Region.binds]at hd;dsimp only at hK ⊢;have e2:=g2 (by simp[hd]);subst e2;go_simp;exact hK _ _ ⟨_,_,_,_,_,_,_,_,_,_,rfl,hb,g0,g1,g2,fun _=>rfl,g4,g5,g6,g7,g8,g9,g10,g11,g12,g13,g14,g15,g16,g17,g18⟩
      ·refine fun L a w'=>ex8 fun _ _ _ _ _ _ _ _=>ex2 fun _ _=>un16 fun ha hb g0 g1 g2 g3 g4 g5 g6 g7 g8 g9 g10 g11 g12 g13=>un4 fun g14 g15 g16 g17 g18 hl hd K hK=>?_;subst ha
       simp[Region.binds]at hd;dsimp only at hK ⊢;have e3:=g3 (by simp[hd]);subst e3;have h10:L 10=false:=by
        cases h:L 10 with
        | false=>rfl
        | true=>have:=(g17 (g13 h)).1;rw[hl]at this;cases this
       have cc:=(g11 h10).cell 5;simp only[jA,jZ,jS]at cc;go_simp;exact hK _ _ ⟨_,_,_,_,_,_,_,_,_,_,rfl,hb,g0,g1,g2,g3,fun _=>rfl,g5,g6,g7,g8,g9,g10,g11,g12,g13,g14,g15,g16,fun h=>⟨rfl,(g17 h).2⟩,g18⟩
      ·refine fun L a w'=>ex8 fun _ _ _ _ _ _ _ _=>ex2 fun _ _=>un16 fun ha hb g0 g1 g2 g3 g4 g5 g6 g7 g8 g9 g10 g11 g12 g13=>un4 fun g14 g15 g16 g17 g18 hl hd K hK=>?_;subst ha
       dsimp only at hK ⊢;have bb:=g16;have d0:=bb.cell 0;have d1:=bb.cell 1;have d2:=bb.cell 2;simp only[jA,jZ,jS]at d0 d1 d2;go_simp;exact hK _ _ ⟨_,_,_,_,_,_,_,_,_,_,rfl,hb,g0,g1,g2,g3,g4,fun _=>rfl,g6,g7,g8,g9,g10,g11,g12,g13,g14,g15,g16,g17,g18⟩
      ·refine fun L a w'=>ex8 fun _ _ _ _ _ _ _ _=>ex2 fun _ _=>un16 fun ha hb g0 g1 g2 g3 g4 g5 g6 g7 g8 g9 g10 g11 g12 g13=>un4 fun g14 g15 g16 g17 g18 hl hd K hK=>?_;subst ha
       simp[Region.binds]at hd;dsimp only at hK ⊢;have e5:=g5 (by simp[hd]);subst e5;have h7:L 7=false:=by
        cases h:L 7 with
        | false=>rfl
        | true=>have:=(g17 h).2;rw[hl]at this;cases this
       go_simp;exact hK _ _ ⟨_,_,_,_,_,_,_,_,_,_,rfl,hb.alloc _,g0,g1,g2,g3,g4,g5,fun _=>⟨_,rfl,g18,Blk.new _ _ _⟩,(fun h=>absurd (show L 7=true from h) (by rw[h7];simp)),g8,g9,fun h=>(g10 h).alloc _,fun h=>(g11 h).alloc _,fun h=>(g12 h).alloc _,g13,g14.alloc _,g15.alloc _,g16.alloc _,fun h=>⟨(g17 h).1,rfl⟩,Nat.le_trans g18 (by simp)⟩
      ·refine fun L a w'=>ex8 fun _ _ _ _ _ _ _ _=>ex2 fun _ _=>un16 fun ha hb g0 g1 g2 g3 g4 g5 g6 g7 g8 g9 g10 g11 g12 g13=>un4 fun g14 g15 g16 g17 g18 hl hd K hK=>?_;subst ha
       simp[Region.binds]at hd;dsimp only at hK ⊢;have e4:=g4 (by simp[hd]);subst e4;have h10:L 10=false:=by
        cases h:L 10 with
        | false=>rfl
        | true=>have:=g13 h;rw[hl]at this;cases this
       have h4:L 4=true:=by simp[hd]
       have h6:L 6=true:=by simp[hd]
       obtain ⟨A6,e6,hN6,hB6⟩:=g6 h6;subst e6;have oo:=g10 hl;have hws9:w.heap.size≤w'.heap.size:=Nat.le_trans HSZ.out g18;refine wp_app (P:=Tryz.prog) (n:=l.length) (xs:=vls l) (m:=1) (.tmp 70) (.tmp 72) oo (blk_slN (n:=1) (sz:=3) hB6 rfl (by unfold maxLen;omega)) hws9 under_vl info_vl rfl (by decide) (one_val3 _ _ _) (by omega) (by omega) rfl rfl rfl ?_
       intro v9 w9 ho9 hg9 _
       obtain ⟨g10x,c10x,ev9⟩:∃ g9 c9,v9=.slice (some ⟨g9,0,none⟩) (l.length+1) c9:=by
        rcases ho9.2 with ⟨_,h0⟩|⟨g1,cap1,cur1,e1,_⟩
        ·omega
        ·exact ⟨g1,cap1,e1⟩
       exact hK _ _ ⟨_,_,_,_,_,_,_,_,_,_,rfl,hb.grown hg9 (fun k hk hk2=>by have:=(oo.lt k hk).1;omega),g0,g1,g2,g3,g4,g5,fun _=>⟨A6,rfl,hN6,hB6.grown hg9 (fun e=>by have:=(OV.out.lt A6 e).2;omega)⟩,fun _=>⟨g10x,c10x,ev9,ho9⟩,g8,g9,nofun,fun h=>(g11 h).grown hg9 (own_blk_ne oo (g11 h) (by decide)),(fun h=>absurd (show L 10=true from h) (by rw[h10];simp)),fun _=>rfl,g14.grown hg9 (own_blk_ne oo g14 (by decide)),g15.grown hg9 (own_blk_ne oo g15 (by decide)),g16.grown hg9 (fun e=>absurd (HAL.out A e) (Nat.lt_irrefl _)),fun _=>⟨h4,h6⟩,Nat.le_trans g18 hg9.size⟩
      ·refine fun L a w'=>ex8 fun _ _ _ _ _ _ _ _=>ex2 fun _ _=>un16 fun ha hb g0 g1 g2 g3 g4 g5 g6 g7 g8 g9 g10 g11 g12 g13=>un4 fun g14 g15 g16 g17 g18 hl hd K hK=>?_;subst ha
       simp[Region.binds]at hd;dsimp only at hK ⊢;have e0:=g0 (by simp[hd]);subst e0;go_simp;exact hK _ _ ⟨_,_,_,_,_,_,_,_,_,_,rfl,hb,g0,g1,g2,g3,g4,g5,g6,g7,fun _=>rfl,g9,g10,g11,g12,g13,g14,g15,g16,g17,g18⟩
      ·refine fun L a w'=>ex8 fun _ _ _ _ _ _ _ _=>ex2 fun _ _=>un16 fun ha hb g0 g1 g2 g3 g4 g5 g6 g7 g8 g9 g10 g11 g12 g13=>un4 fun g14 g15 g16 g17 g18 hl hd K hK=>?_;subst ha
       simp[Region.binds]at hd;dsimp only at hK ⊢;have e8:=g8 (by simp[hd]);subst e8;go_simp;exact hK _ _ ⟨_,_,_,_,_,_,_,_,_,_,rfl,hb,g0,g1,g2,g3,g4,g5,g6,g7,g8,fun _=>rfl,g10,g11,g12,g13,g14,g15,g16,g17,g18⟩
      ·refine fun L a w'=>ex8 fun _ _ _ _ _ _ _ _=>ex2 fun _ _=>un16 fun ha hb g0 g1 g2 g3 g4 g5 g6 g7 g8 g9 g10 g11 g12 g13=>un4 fun g14 g15 g16 g17 g18 hl hd K hK=>?_;subst ha
       simp[Region.binds]at hd;dsimp only at hK ⊢;have e9:=g9 (by simp[hd]);subst e9;have h7:L 7=true:=by simp[hd]
       obtain ⟨g11x,c11x,e6,o6⟩:=g7 h7;subst e6;have bb:=g11 hl;have cc:=bb.cell 5;simp only[jA,jZ,jS]at cc;have ff:=bb.frozen 5;have hlt:=bb.lt;go_simp;have kg:w'.grownBy (w'.setCell ⟨N,5,none⟩ (.slice (some ⟨g11x,0,none⟩) (l.length+1) c11x)) (some N):=grownBy_set w' ⟨N,5,none⟩ (.slice (some ⟨g11x,0,none⟩) (l.length+1) c11x);have kb:=bb.set_ 5 (.slice (some ⟨g11x,0,none⟩) (l.length+1) c11x);simp only[jI,jY,jT]at kb;exact hK _ _ ⟨_,_,_,_,_,_,_,_,_,_,rfl,hb.grown kg (fun k hk _=>by injection hk with hk;exact .inr hk.symm),g0,g1,g2,g3,g4,g5,fun h=>(g6 h).elim fun A6 h=>⟨A6,h.1,h.2.1,h.2.2.row kg (show A6≠N by have:=h.2.1;have:=BN2.out.lt;omega)⟩,fun _=>⟨g11x,c11x,rfl,own_row o6 kg (fun b hb2 e=>own_blk_ne o6 bb (by decide) (by rw[hb2,e]))⟩,g8,g9,(fun h=>absurd (show L 7=false from h) (by rw[h7];simp)),nofun,fun _=>kb,fun _=>h7,g14.row kg hgN,g15.row kg (by omega),g16.row kg (by omega),g17,Nat.le_trans g18 kg.size⟩
     intro a w9 hI
     revert hI;refine ex8 fun _ _ _ _ _ _ _ _=>ex2 fun _ _=>un16 fun ha hb g0 g1 g2 g3 g4 g5 g6 g7 g8 g9 g10 g11 g12 g13=>un4 fun g14 g15 g16 g17 g18=>?_;subst ha
     have e0:=g0 rfl;subst e0;have e1:=g1 rfl;subst e1;have e2:=g2 rfl;subst e2;have e3:=g3 rfl;subst e3;have e4:=g4 rfl;subst e4;have e5:=g5 rfl;subst e5;have e8:=g8 rfl;subst e8;have e9:=g9 rfl;subst e9;obtain ⟨A6,e6,_,_⟩:=g6 rfl;subst e6;obtain ⟨g9x,c9x,e7,o7⟩:=g7 rfl;subst e7;have KB:=Lib.hid (g12 rfl);have HO9:=Lib.hid (show w9.ownsRow w.heap.size 64 3 (.slice (some ⟨g9x,0,none⟩) (l.length+1) c9x) (l ++ [(⟨vb,vn,vs⟩:Vl)]).length (vls (l ++ [(⟨vb,vn,vs⟩:Vl)])) by rw[List.length_append,vls_snoc];exact o7);have HK9:=Lib.hid hb;have HG9:=Lib.hid g14;have HC9:=Lib.hid g15;have h9:=g15.lt;clear g6 g7 g10 g11 g12 g13 g14 g15 g16 g17 g18 o7 hb;go_wp2;go_roundg f
     case rel=>exact ⟨m,f - 1,l ++ [(⟨vb,vn,vs⟩:Vl)],_,by omega,by simp;omega,hmS,HG9.out,KB.out,HC9.out,HO9.out,Lib.hid (by rw[show f - 1+1=f by omega];exact HR.out.symm),HK9.out,h9⟩
     case measure=>have:=HQ.out;omega
    ·have q7:(er != 0)=true:=by simpa using her
     have HR:=Lib.hid (H4'.out (by rw[HVE.out];exact her));clear H4' H5' her;go_wp2_with fail
     refine (HFL.out m _ _ wr5 BG2.out).mono ?_;rintro _ w6 ⟨rfl,hB,ho⟩;have HB6:=Lib.hid hB;have HK6:=Lib.hid (HKA.out.only ho (.inl (.inl rfl)));clear hB ho;go_wp2;go_ret;rw[HR.out,HVE.out];exact ⟨HK6.out,rfl,m,HB6.out⟩
open Go.RowKit Go.Sort

theorem find_succ {P:Nat→Bool} {k:Nat} (h:∀ j,j<k→P j=false) (hk:P k=true) {n:Nat} (hn:k<n):(List.range n).find? P=some k:=by
 rw[List.find?_eq_some_iff_append];refine ⟨hk,List.range k,(List.range' (k+1) (n - (k+1))),?_,fun a ha=>by rw[h a (List.mem_range.1 ha)];rfl⟩
 rw[List.range_eq_range',List.range_eq_range',show n=k+(1+(n - (k+1))) by omega,←List.range'_append_1,←List.range'_append_1];simp;omega
theorem opW_at {l:List UInt8} {k:Nat} (h:∀ j:Nat,j<k→wordP ((j:Int)+1)≠l) (hk:wordP ((k:Int)+1)=l) (h11:k<11):opW l=k+1:=by
 unfold opW
 rw[find_succ (k:=k) (fun j hj=>by simpa using h j hj) (by simpa using hk) h11];rfl
theorem opW_none {l:List UInt8} (h:∀ j:Nat,j<11→wordP ((j:Int)+1)≠l):opW l=0:=by
 unfold opW
 have:(List.range 11).find? (fun k:Nat=>wordP ((k:Int)+1)==l)=none:=by
  rw[List.find?_eq_none];intro k hk
  simpa using h k (List.mem_range.1 hk)
 rw[this];rfl
theorem opW_le (l:List UInt8):opW l≤11:=by
 unfold opW
 cases h:(List.range 11).find? (fun k:Nat=>wordP ((k:Int)+1)==l) with
 | none=>simp
 | some k =>
  have:=List.mem_range.1 (List.mem_of_find?_eq_some h)
  show k+1≤11
  omega
set_option maxRecDepth 100000 in
set_option maxHeartbeats 8000000 in
theorem pidx_any (q:Nat) (W:ByteArray) (w:World) (hB:Blk w q 9 #[.string { data:=#[101,113] },.string { data:=#[110,101] },.string { data:=#[108,116] },.string { data:=#[108,101] },.string { data:=#[103,116] },.string { data:=#[103,101] },.string { data:=#[105,110] },.string { data:=#[110,117,108,108] },.string { data:=#[97,110,100] },.string { data:=#[111,114] },.string { data:=#[110,111,116] }]) :
  Calls Tryz.prog 45 #[.slice (some ⟨q,0,none⟩) 11 11,.string W] w fun e w'=>e=.returned (.int .i64 ((opW W.data.toList:Int) - 1))∧Below w.heap.size w w':=by
 have HB:=Lib.hid hB;clear hB;go_enter Tryz.func45,Tryz.ntmps45
 go_wp2_with fail
 go_loopw [8] (fun n wr=>∃ k:Nat,k≤11∧n=.int .i64 (k:Int)∧Hid (∀ j:Nat,j<k→wordP ((j:Int)+1)≠W.data.toList)∧Below w.heap.size w wr) (fun n _=>11 - (intOf n).toNat)
 case atStart=>exact ⟨0,by omega,rfl,Lib.hid (fun j hj=>by omega),Below.refl _ _⟩
 case round =>
  obtain ⟨k,hk,rfl,hno,hbel⟩:=hrel;have HB2:=Lib.hid (HB.out.below hbel HB.out.lt);have HBE:=Lib.hid hbel;clear hbel;by_cases hlt:k<11
  ·obtain ⟨J,B,hJ,hJ11,hBJ,hBW⟩:=word_at (op:=(k:Int)+1) (by omega) (by omega);obtain rfl:J=k:=by omega
   have cc:=HB2.out.cell J;rw[hBJ]at cc;rw[←hJ]at hBW;have qJ:decide (J<11)=true:=decide_eq_true hlt;have pJ:((J:Int)<11)=True:=eq_true (by omega);have wJ:IntKind.i64.wrap ((J:Int)+1)=(J:Int)+1:=IntWalk.i64_in _ (by omega);by_cases he:W.data.toList=B.data.toList
   ·have q1:(W.toList==B.toList)=true:=by rw[Go.ByteArray.toList_eq,Go.ByteArray.toList_eq,he];exact beq_self_eq_true _
    have HR:=Lib.hid (opW_at hno.out (by rw[he,hBW]) hlt);clear he hBW hBJ hno hJ;go_wp2;go_ret;rw[HR.out];exact ⟨by rw[show (((J+1:Nat):Int) - 1)=(J:Int) by omega];rfl,HBE.out⟩
   ·have q1:(W.toList==B.toList)=false:=by rw[Go.ByteArray.toList_eq,Go.ByteArray.toList_eq];simpa using he
    have HN:=Lib.hid (show ∀ j:Nat,j<J+1→wordP ((j:Int)+1)≠W.data.toList by
     intro j hj
     by_cases e:j=J
     ·subst e;rw[hJ]at *;intro h;exact he (by rw[←h,hBW])
     ·exact hno.out j (by omega))
    clear he hBW hBJ hno hJ;go_wp2;go_roundw
    case rel=>exact ⟨J+1,by omega,by rw[show ((J+1:Nat):Int)=(J:Int)+1 by omega],HN,HBE.out⟩
    case measure=>simp[intOf];omega
  ·obtain rfl:k=11:=by omega
   have HR:=Lib.hid (opW_none hno.out);clear hno;go_wp2;go_ret;rw[HR.out];exact ⟨rfl,HBE.out⟩
def RetNodeP (w:World) (g:Nat) (sv:Value) (key wh e0:Int) (S:ByteArray) (base:Nat) (nv:Value) (r:Except (Nat×Int) (Nat×List Nd)) (e:Ending) (w':World):Prop :=
 Kp (fun i=>i=g∨nv.ownBlock=some i) w w'∧match r with
 | .ok (j,l)=>e=.returned (.bool true)∧j≤S.size∧1≤l.length∧l.length≤64∧∃ nv',Blk w' g 54 #[sv,.int .i64 key,.string S,.int .i64 j,nv',.int .i64 wh,.int .i64 e0]∧OwnNd w' base nv' l∧(∀ b,nv'.ownBlock=some b→nv.ownBlock=some b∨w.heap.size≤b)
 | .error (k,er)=>e=.returned (.bool false)∧∃ (i n c:Nat) (A:Option Addr),n≤64∧Blk w' g 54 #[sv,.int .i64 key,.string S,.int .i64 i,.slice A n c,.int .i64 k,.int .i64 er]
def HNode (w0:World) (g:Nat) (sv:Value) (key wh e0:Int) (S:ByteArray) (cs:List Col) (base f:Nat):Prop :=
 ∀ (i:Nat) (nv:Value) (l:List Nd) (w:World),Blk w g 54 #[sv,.int .i64 key,.string S,.int .i64 i,nv,.int .i64 wh,.int .i64 e0]→i≤S.size→S.size<i+f→OwnNd w base nv l→l.length≤64→Below w0.heap.size w0 w→base≤w.heap.size →
  Calls Tryz.prog 23 #[.pointer (some ⟨g,0,none⟩)] w (RetNodeP w g sv key wh e0 S base nv (parN cs S.data.toList f i l))
def RetChildP (w:World) (g N o:Nat) (sv:Value) (key wh e0:Int) (S:ByteArray) (base:Nat) (Z:Array Value) (nv:Value) (r:Except (Nat×Int) (Nat×List Nd)) (e:Ending) (w':World):Prop :=
 Kp (fun i=>i=g∨i=N∨nv.ownBlock=some i) w w'∧match r with
 | .ok (j,l)=>e=.returned (.bool true)∧j≤S.size∧1≤l.length∧l.length≤64∧∃ nv',Blk w' g 54 #[sv,.int .i64 key,.string S,.int .i64 j,nv',.int .i64 wh,.int .i64 e0]∧OwnNd w' base nv' l∧(∀ b,nv'.ownBlock=some b→nv.ownBlock=some b∨w.heap.size≤b)∧Blk w' N 66 (Z.setIfInBounds o (.int .i64 ((l.length:Int) - 1)))
 | .error (k,er)=>e=.returned (.bool false)∧∃ (i n c:Nat) (A:Option Addr),n≤64∧Blk w' g 54 #[sv,.int .i64 key,.string S,.int .i64 i,.slice A n c,.int .i64 k,.int .i64 er]
theorem OwnNd.turn {w w':World} {base b:Nat} {v:Value} {l:List Nd} (h:OwnNd w base v l) (k:w.grownBy w' (some b)) (hv:v.ownBlock≠some b) {cs:Array Value} {t:TypeId} (hb:Blk w b t cs) (ht:64≠t):OwnNd w' base v l:=by
 obtain ⟨us,h1,h2,h3⟩:=h;exact ⟨us,h1,own_grown h2 k (fun g hg e=>hv (by rw[hg,e])),fun j s u hk hu=>own_grown (h3 j s u hk hu) k (fun g hg e=>own_blk_ne (h3 j s u hk hu) hb ht (by rw[hg,e]))⟩
theorem OwnNd.ne {w:World} {base b:Nat} {v:Value} {l:List Nd} (h:OwnNd w base v l) {cs:Array Value} {t:TypeId} (hb:Blk w b t cs) (ht:66≠t):v.ownBlock≠some b:=by
 obtain ⟨us,h1,h2,h3⟩:=h;exact own_blk_ne h2 hb ht
set_option maxRecDepth 100000 in
set_option maxHeartbeats 8000000 in
theorem pchild_any (w0:World) (g N i f o base:Nat) (sv nv:Value) (l:List Nd) (key wh e0 z:Int) (S:ByteArray) (cs:List Col) (Z:Array Value) (w:World) (hrec:HNode w0 g sv key wh e0 S cs base f)
  (hB:Blk w g 54 #[sv,.int .i64 key,.string S,.int .i64 i,nv,.int .i64 wh,.int .i64 e0]) (hi:i≤S.size) (hf:S.size<i+f) (ho:OwnNd w base nv l) (hl:l.length≤64) (hb0:Below w0.heap.size w0 w) (hbase:base≤w.heap.size) (hN:Blk w N 66 Z) (hZ:Z[o]?=some (.int .i64 z)) (hgN:g≠N) (hnv:nv.ownBlock≠some N) :
  Calls Tryz.prog 69 #[.pointer (some ⟨g,0,none⟩),.pointer (some ⟨N,o,none⟩)] w (RetChildP w g N o sv key wh e0 S base Z nv (parN cs S.data.toList f i l)):=by
 have HC:=Lib.hid (hrec i nv l w hB hi hf ho hl hb0 hbase);obtain ⟨r,hr⟩:∃ r,parN cs S.data.toList f i l=r:=⟨_,rfl⟩
 rw[hr]at HC ⊢;have HN:=Lib.hid hN;have HZ:=Lib.hid hZ;clear hr hrec hB hf ho hb0 hN hZ;go_enter Tryz.func69,Tryz.ntmps69
 go_wp2_with fail
 refine HC.out.mono ?_;rintro e w1 hret;clear HC;cases r with
 | ok r =>
  obtain ⟨j,l1⟩:=r;obtain ⟨hk,rfl,hj,hl1,hl2,nv',hB,hO,hob⟩:=hret;obtain ⟨A,cA,rfl,hc1,hc2⟩:=hO.form;have HK:=Lib.hid hk;have HB:=Lib.hid hB;have HO:=Lib.hid hO;have HOB:=Lib.hid hob;have hNn:¬ (fun i=>i=g∨nv.ownBlock=some i) N:=by rintro (h | h);exact hgN h.symm;exact hnv h
  have hN1:=HN.out.kp hk hNn;have HN1:=Lib.hid hN1;have c4:=hB.cell 4;simp only[jA,jZ,jS]at c4;have co:=hN1.cell o;rw[HZ.out]at co;have fo:=hN1.frozen o;have wl:IntKind.i64.wrap ((l1.length:Int) - 1)=(l1.length:Int) - 1:=IntWalk.i64_in _ (by omega);have hlN:=hN1.lt;clear hk hB hO hob hN1;go_wp2;go_ret;have kg:=grownBy_set w1 ⟨N,o,none⟩ (.int .i64 ((l1.length:Int) - 1));have hvN:(Value.slice A l1.length cA).ownBlock≠some N:=by
   intro h
   rcases HOB.out N h with h|h
   ·exact hnv h
   ·have:=HN.out.lt;omega
  refine ⟨(HK.out.mono (S':=fun i=>i=g∨i=N∨nv.ownBlock=some i) (fun i _ h=>by rcases h with h | h;exact .inl h;exact .inr (.inr h))).set (p:=⟨N,o,none⟩) (.inl (.inr (.inl rfl))) _,rfl,hj,hl1,hl2,_,HB.out.row kg hgN,HO.out.turn kg hvN HN1.out (by decide),HOB.out,HN1.out.set_ o _⟩
 | error r =>
  obtain ⟨k,er⟩:=r;obtain ⟨hk,rfl,j,n,c,A,hn,hB⟩:=hret;have HK:=Lib.hid hk;have HB:=Lib.hid hB;have hNn:¬ (fun i=>i=g∨nv.ownBlock=some i) N:=by rintro (h | h);exact hgN h.symm;exact hnv h
  have hN1:=HN.out.kp hk hNn;have c4:=hB.cell 4;simp only[jA,jZ,jS]at c4;have co:=hN1.cell o;rw[HZ.out]at co;have fo:=hN1.frozen o;have wl:IntKind.i64.wrap ((n:Int) - 1)=(n:Int) - 1:=IntWalk.i64_in _ (by omega);have hlN:=hN1.lt;clear hk hB hN1;go_wp2;go_ret;have kg:=grownBy_set w1 ⟨N,o,none⟩ (.int .i64 ((n:Int) - 1));exact ⟨(HK.out.mono (S':=fun i=>i=g∨i=N∨nv.ownBlock=some i) (fun i _ h=>by rcases h with h | h;exact .inl h;exact .inr (.inr h))).set (p:=⟨N,o,none⟩) (.inl (.inr (.inl rfl))) _,rfl,j,n,c,A,hn,HB.out.row kg hgN⟩
end Go.Proofs.YtjnamjkdjcndiaaGreatDoor
