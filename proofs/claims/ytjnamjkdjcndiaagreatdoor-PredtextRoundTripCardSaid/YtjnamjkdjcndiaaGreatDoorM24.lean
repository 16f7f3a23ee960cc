/-
  Words, plain laws and contracts on which the walks lean, in one text.
-/
import Derived.Test.YtjnamjkdjcndiaaGreatDoorREv4
import Derived.Test.YtjnamjkdjcndiaaGreatDoorM2
import Derived.Test.YtjnamjkdjcndiaaGreatDoorM22
import Derived.Test.YtjnamjkdjcndiaaGreatDoorPredPos
import Derived.Test.YtjnamjkdjcndiaaGreatDoorM17
import Derived.Test.YtjnamjkdjcndiaaGreatDoorM16
import Derived.Test.YtjnamjkdjcndiaaGreatDoorM25
namespace Go.Proofs.YtjnamjkdjcndiaaGreatDoor
open Go.RowKit Go.Sort

structure RowOk (cs:List Col) (row:List Vl):Prop where
 len:row.length=cs.length
 ok:∀ (K:Nat) (c:Col) (v:Vl),cs[K]?=some c→row[K]?=some v→checkV c.ty c.nu v.nu v.n v.s=0
 sz:∀ (K:Nat) (v:Vl),row[K]?=some v→v.s.size≤9223372036854775807
set_option maxRecDepth 100000 in
set_option maxHeartbeats 8000000 in
theorem rcrow_any (sv rv:Value) (key:Int) (cs:List Col) (row:List Vl) (w:World) (hs:Sl w 4 sv cs.length (cols cs)) (hr:Sl w 3 rv row.length (vls row)) (hk:RowOk cs row) (hcl:cs.length≤1000) :
  Calls Tryz.prog 39 #[.agg #[sv,.int .i64 key],rv] w (RetN w 0):=by
 obtain ⟨A,cA,rfl,hc1,hc2⟩:=hs.form;obtain ⟨AR,cR,rfl,hc5,hc6⟩:=hr.form;have HSL:=Lib.hid hs;have HRW:=Lib.hid hr;have HK:=Lib.hid hk;have q0:((row.length:Int) != (cs.length:Int))=false:=by rw[hk.len];simp
 have q0':(row.length != cs.length)=false:=by rw[hk.len];simp
 have HRL:=Lib.hid hk.len;clear hs hr hk;obtain ⟨W,hW⟩:∃ W,W=w.alloc (.cells #[.slice A cs.length cA,.int .i64 key] 28):=⟨_,rfl⟩
 have hb0:Below w.heap.size w W:=by rw[hW];exact (Below.refl _ _).alloc (Nat.le_refl _) _
 have BS:=Lib.hid (show Blk W w.heap.size 28 #[.slice A cs.length cA,.int .i64 key] by rw[hW];exact Blk.new _ _ _);have HB0:=Lib.hid hb0;clear hb0;go_enter Tryz.func39,Tryz.ntmps39
 go_upto_region 1 with (fail)
 rw[←hW];clear hW;have bb:=BS.out;have s0:=bb.cell 0;have s1:=bb.cell 1;simp only[jA,jZ,jS]at s0 s1;clear bb;go_wp2_with fail
 go_loopw [16] (fun i wr=>∃ k:Nat,k≤row.length∧i=.int .i64 (k:Int)∧Below W.heap.size W wr) (fun i _=>row.length - (intOf i).toNat)
 case atStart=>exact ⟨0,by omega,rfl,Below.refl _ _⟩
 case round =>
  clear s0 s1;obtain ⟨k,hk',rfl,hbel⟩:=hrel;have HBw:=Lib.hid (bst HB0.out hbel);by_cases hlt:k<row.length
  ·have hkc:k<cs.length:=by have:=HRL.out;omega
   obtain ⟨ad,v,pz,rfl,hv,hpz,hV⟩:=(HRW.out.below HBw.out).vl_load rfl hlt;obtain ⟨_,z0,z1,z2⟩:=hV;obtain ⟨N5,hN5⟩:∃ N,wr.heap.size=N:=⟨_,rfl⟩
   obtain ⟨V,hV⟩:∃ V,V=wr.alloc (.cells #[.bool v.nu,.int .i64 v.n,.string v.s] 64):=⟨_,rfl⟩
   have hbV:Below wr.heap.size wr V:=by rw[hV];exact (Below.refl _ _).alloc (Nat.le_refl _) _
   have VW:=Lib.hid (bst hbel hbV);have VT:=Lib.hid (bst HBw.out hbV);have VE:=Lib.hid (show Blk V N5 64 #[.bool v.nu,.int .i64 v.n,.string v.s] by rw[hV,←hN5];exact Blk.new _ _ _);have VS:=Lib.hid (BS.out.below (bst hbel hbV) BS.out.lt);obtain ⟨ac,c,pc,rfl,hc,hpc,hC⟩:=(HSL.out.below (bst HBw.out hbV)).col_load rfl hkc;obtain ⟨hclt,d0,d1,d2,d3⟩:=hC;have HV:=Lib.hid (fun (X:World) (_:Below V.heap.size V X)=>(show Calls Tryz.prog 61 #[.agg #[.string c.nm,.int .i64 c.ty,.int .i64 c.sc,.bool c.nu],.agg #[.bool v.nu,.int .i64 v.n,.string v.s]] X (RetN X 0) by rw[←HK.out.ok k c v hc hv];exact rvcheck_any c.nm c.ty c.sc c.nu v.nu v.n v.s X (HK.out.sz k v hv)));clear hbel hbV hv hc;go_upto_region 6 with (fail)
   rw[←hV];try simp only[hN5]
   clear hV hN5 z0 z1 z2 hpz;have D0:=Lib.hid d0;have D1:=Lib.hid d1;have D2:=Lib.hid d2;have D3:=Lib.hid d3;clear d0 d1 d2 d3;refine wp_region_inv (by kernel_rfl) (by kernel_rfl) (fun L a w'=>∃ u21 u22 u23 u24 u25 u26 u27 u7:Value,a=⟨#[.agg #[.slice (some ac) cs.length cA,.int .i64 key],.slice (some ad) row.length cR,.pointer (some ⟨w.heap.size,0,none⟩),undef,u4,.int .i64 k,.pointer (some ⟨N5,0,none⟩),u7,.slice (some ad) row.length cR,.int .i64 row.length,.pointer (some ⟨w.heap.size,0,none⟩),.slice (some ac) cs.length cA,.int .i64 cs.length,.bool false,.slice (some ad) row.length cR,.int .i64 row.length,.int .i64 k,.bool true,.int .i64 k,.pointer (some pz),.agg #[.bool v.nu,.int .i64 v.n,.string v.s],u21,u22,u23,u24,u25,u26,u27,u28,u29,u30,u31],[]⟩ ∧
     Below V.heap.size V w'∧Got (L 0) u21 (.pointer (some ⟨w.heap.size,0,none⟩))∧Got (L 1) u22 (.slice (some ac) cs.length cA)∧Got (L 2) u23 (.int .i64 (k:Int))∧Got (L 3) u24 (.pointer (some pc))∧Got (L 4) u25 (.agg #[.string c.nm,.int .i64 c.ty,.int .i64 c.sc,.bool c.nu])∧Got (L 5) u26 (.agg #[.bool v.nu,.int .i64 v.n,.string v.s])∧Got (L 6) u27 (.int .i64 0)∧Got (L 7) u7 (.int .i64 0))
    ?_ ?_ ?_
   ·exact ⟨_,_,_,_,_,_,_,_,rfl,(Below.refl _ _).drew,nofun,nofun,nofun,nofun,nofun,nofun,nofun,nofun⟩
   ·refine ⟨?_,?_,?_,?_,?_,?_,?_,?_,trivial⟩
    ·refine fun L a w'=>ex8 fun _ _ _ _ _ _ _ _=>un8 fun ha hb g0 g1 g2 g3 g4 g5=>un1 fun g6 g7 hl hd K hK=>?_;subst ha
     dsimp only at hK ⊢;go_simp;exact hK _ _ ⟨_,_,_,_,_,_,_,_,rfl,hb,fun _=>rfl,g1,g2,g3,g4,g5,g6,g7⟩
    ·refine fun L a w'=>ex8 fun _ _ _ _ _ _ _ _=>un8 fun ha hb g0 g1 g2 g3 g4 g5=>un1 fun g6 g7 hl hd K hK=>?_;subst ha
     simp[Region.binds]at hd;dsimp only at hK ⊢;have e0:=g0 (by simp[hd]);subst e0;have bb:=VS.out.below hb VS.out.lt;have s0:=bb.cell 0;have s1:=bb.cell 1;simp only[jA,jZ,jS]at s0 s1;clear bb;go_simp;exact hK _ _ ⟨_,_,_,_,_,_,_,_,rfl,hb,g0,fun _=>rfl,g2,g3,g4,g5,g6,g7⟩
    ·refine fun L a w'=>ex8 fun _ _ _ _ _ _ _ _=>un8 fun ha hb g0 g1 g2 g3 g4 g5=>un1 fun g6 g7 hl hd K hK=>?_;subst ha
     dsimp only at hK ⊢;go_simp;exact hK _ _ ⟨_,_,_,_,_,_,_,_,rfl,hb,g0,g1,fun _=>rfl,g3,g4,g5,g6,g7⟩
    ·refine fun L a w'=>ex8 fun _ _ _ _ _ _ _ _=>un8 fun ha hb g0 g1 g2 g3 g4 g5=>un1 fun g6 g7 hl hd K hK=>?_;subst ha
     simp[Region.binds]at hd;dsimp only at hK ⊢;have e1:=g1 (by simp[hd]);subst e1;have e2:=g2 (by simp[hd]);subst e2;go_simp;exact hK _ _ ⟨_,_,_,_,_,_,_,_,rfl,hb,g0,g1,g2,fun _=>rfl,g4,g5,g6,g7⟩
    ·refine fun L a w'=>ex8 fun _ _ _ _ _ _ _ _=>un8 fun ha hb g0 g1 g2 g3 g4 g5=>un1 fun g6 g7 hl hd K hK=>?_;subst ha
     simp[Region.binds]at hd;dsimp only at hK ⊢;have e3:=g3 (by simp[hd]);subst e3;have e0:=(hb.cell (p:=pc) hclt).trans D0.out;have e1:=(hb.cell (p:=⟨pc.block,pc.off+1,none⟩) hclt).trans D1.out;have e2:=(hb.cell (p:=⟨pc.block,pc.off+2,none⟩) hclt).trans D2.out;have e3:=(hb.cell (p:=⟨pc.block,pc.off+3,none⟩) hclt).trans D3.out;go_simp;exact hK _ _ ⟨_,_,_,_,_,_,_,_,rfl,hb,g0,g1,g2,g3,fun _=>rfl,g5,g6,g7⟩
    ·refine fun L a w'=>ex8 fun _ _ _ _ _ _ _ _=>un8 fun ha hb g0 g1 g2 g3 g4 g5=>un1 fun g6 g7 hl hd K hK=>?_;subst ha
     dsimp only at hK ⊢;have bb:=VE.out.below hb VE.out.lt;have n0:=bb.cell 0;have n1:=bb.cell 1;have n2:=bb.cell 2;simp only[jA,jZ,jS]at n0 n1 n2;clear bb;go_simp;exact hK _ _ ⟨_,_,_,_,_,_,_,_,rfl,hb,g0,g1,g2,g3,g4,fun _=>rfl,g6,g7⟩
    ·refine fun L a w'=>ex8 fun _ _ _ _ _ _ _ _=>un8 fun ha hb g0 g1 g2 g3 g4 g5=>un1 fun g6 g7 hl hd K hK=>?_;subst ha
     simp[Region.binds]at hd;dsimp only at hK ⊢;have e4:=g4 (by simp[hd]);subst e4;have e5:=g5 (by simp[hd]);subst e5;go_wp2_with fail
     refine (HV.out w' hb).mono ?_;rintro _ w4 ⟨rfl,hb4⟩;exact hK _ _ ⟨_,_,_,_,_,_,_,_,rfl,bst hb hb4,g0,g1,g2,g3,g4,g5,fun _=>rfl,g7⟩
    ·refine fun L a w'=>ex8 fun _ _ _ _ _ _ _ _=>un8 fun ha hb g0 g1 g2 g3 g4 g5=>un1 fun g6 g7 hl hd K hK=>?_;subst ha
     simp[Region.binds]at hd;dsimp only at hK ⊢;have e6:=g6 (by simp[hd]);subst e6;go_simp;exact hK _ _ ⟨_,_,_,_,_,_,_,_,rfl,hb,g0,g1,g2,g3,g4,g5,g6,fun _=>rfl⟩
   intro a w9 hI
   revert hI;refine ex8 fun _ _ _ _ _ _ _ _=>un8 fun ha hb g0 g1 g2 g3 g4 g5=>un1 fun g6 g7=>?_;subst ha
   have e7:=g7 rfl;subst e7;have H4:=Lib.hid (bst VW.out hb);clear g0 g1 g2 g3 g4 g5 g6 hb HV;go_wp2;go_roundw
   case rel=>exact ⟨k+1,by omega,by go_num,H4.out⟩
   case measure=>simp[intOf];omega
  ·go_wp2;go_ret;exact RetN.mk_ rfl HBw.out

set_option maxRecDepth 100000 in
set_option maxHeartbeats 8000000 in
theorem reval_any (sv pv rv:Value) (key:Int) (cs:List Col) (p:List Nd) (row:List Vl) (w:World) (hs:Sl w 4 sv cs.length (cols cs)) (hp:SlNd w pv p) (hr:Sl w 3 rv row.length (vls row)) (hok:pchkV cs key p=0) (hk:PredOk cs p) (hro:RowOk cs row) (hcl:cs.length≤1000)
  (hnm:∀ c ∈ cs,c.nm.size≤9223372036854775807) (hvs:∀ x ∈ p,x.v.s.size≤9223372036854775807) (hls:∀ x ∈ p,∀ e ∈ x.l,e.s.size≤9223372036854775807) :
  Calls Tryz.prog 21 #[.agg #[sv,.int .i64 key],pv,rv] w fun e w'=>e=.returned (.tuple #[.int .i64 (evV cs row p),.int .i64 0])∧Below w.heap.size w w':=by
 obtain ⟨A,cA,rfl,hc1,hc2⟩:=hs.form;obtain ⟨AP,cP,rfl,hc3,hc4⟩:=hp.form;obtain ⟨AR,cR,rfl,hc5,hc6⟩:=hr.form;obtain ⟨W,hW⟩:∃ W,W=w.alloc (.cells #[.slice A cs.length cA,.int .i64 key] 28):=⟨_,rfl⟩
 have hb0:Below w.heap.size w W:=by rw[hW];exact (Below.refl _ _).alloc (Nat.le_refl _) _
 have BS:=Lib.hid (show Blk W w.heap.size 28 #[.slice A cs.length cA,.int .i64 key] by rw[hW];exact Blk.new _ _ _);have HB0:=Lib.hid hb0;have hpl:=hk.len;have C1:=Lib.hid (rpchk_any (.slice A cs.length cA) (.slice AP p.length cP) key cs p W (hs.below hb0) (hp.below hb0) (by omega) (by omega) hnm hvs hls);rw[hok]at C1;have C2:=Lib.hid (fun (X:World) (hX:Below w.heap.size w X)=>rcrow_any (.slice A cs.length cA) (.slice AR row.length cR) key cs row X (hs.below hX) (hr.below hX) hro hcl);have C3:=Lib.hid (fun (X:World) (hX:Below w.heap.size w X)=>revalr_any (.slice A cs.length cA) (.slice AP p.length cP) (.slice AR row.length cR) key cs p row X (hs.below hX) (hp.below hX) (hr.below hX) hro.len hk hcl);obtain ⟨E,hE⟩:∃ E,evV cs row p=E:=⟨_,rfl⟩
 rw[hE]at C3 ⊢;clear hs hp hr hok hk hro hnm hvs hls hb0 hE hpl;go_enter Tryz.func21,Tryz.ntmps21
 go_upto_region 1 with (fail)
 rw[←hW];clear hW;have bb:=BS.out;have s0:=bb.cell 0;have s1:=bb.cell 1;simp only[jA,jZ,jS]at s0 s1;clear bb;go_wp2_with fail
 refine C1.out.mono ?_;rintro _ w2 ⟨rfl,hb2⟩;have HB2:=Lib.hid (bst HB0.out hb2);have BS2:=Lib.hid (BS.out.below hb2 BS.out.lt);clear hb2 C1 s0 s1;have bb:=BS2.out;have s0:=bb.cell 0;have s1:=bb.cell 1;simp only[jA,jZ,jS]at s0 s1;clear bb;go_wp2_with fail
 refine (C2.out _ HB2.out).mono ?_;rintro _ w3 ⟨rfl,hb3⟩;have HB3:=Lib.hid (bst HB2.out hb3);have BS3:=Lib.hid (BS2.out.below hb3 BS2.out.lt);clear hb3 C2 s0 s1;have bb:=BS3.out;have s0:=bb.cell 0;have s1:=bb.cell 1;simp only[jA,jZ,jS]at s0 s1;clear bb;go_wp2_with fail
 refine (C3.out _ HB3.out).mono ?_;rintro _ w4 ⟨rfl,hb4⟩;have HB4:=Lib.hid (bst HB3.out hb4);clear hb4 C3 s0 s1;go_wp2;go_ret2
 exact ⟨rfl,HB4.out⟩
theorem rt_vals {c:Col}:∀ (l:List Vl),(∀ v ∈ l,-9223372036854775808≤v.n∧v.n≤9223372036854775807)→(vtxts c l).length≤201 * l.length
 | [],_=>by simp[vtxts]
 | v::r,h=>by
  have h1:=rt_vals (c:=c) r (fun y hy=>h y (List.mem_cons_of_mem _ hy));have h2:=fmtV_len c.ty c.sc true v.nu v.n v.s (h v (List.mem_cons_self ..));have h3:(vtxt c v).length≤200:=h2;unfold vtxts at h1 ⊢
  rw[List.flatMap_cons];simp only[List.length_append,List.length_cons]at h1 ⊢;omega
theorem rt_word (op:Int):(wordP op).length≤4:=by
 unfold wordP;split <;> decide
theorem rt_bd {cs:List Col} {l:List Nd} (h:GenP cs l) (hn:∀ c ∈ cs,c.nm.size≤1) {x:Nd} {i:Nat} (hx:l[i]?=some x):(leafP cs x).length≤820:=by
 unfold leafP
 cases hc:cs[x.col.toNat]? with
 | none=>simp
 | some c =>
  show (leafC c x).length≤820
  have h1:=hn c (List.mem_of_getElem? hc);have hk:=h.ok i x hx;have h2:(valsP x).length≤4:=by
   unfold valsP
   split
   ·simp
   ·split
    ·simp
    ·exact hk.ll
  have h3:=rt_vals (c:=c) (valsP x) (fun v hv=>by
   unfold valsP at hv
   split at hv
   ·simp at hv;subst hv;exact ⟨hk.rv.1,hk.rv.2.1⟩
   ·split at hv
    ·simp at hv
    ·exact ⟨(hk.rl v hv).1,(hk.rl v hv).2.1⟩)
  have h4:=rt_word x.op;unfold leafC
  have h5:c.nm.data.toList.length=c.nm.size:=size_data _;simp only[List.length_append,List.length_cons,List.length_nil];omega
theorem rt_siz {cs:List Col} {key:Int} {l:List Nd} (h:GenP cs l) (hs:schkV cs key=0) (hn:∀ c ∈ cs,c.nm.size≤1):∀ (i:Nat) (x:Nd),l[i]?=some x→sizI cs l i+8≤828 * 2 ^ i:=by
 intro i
 induction i using Nat.strongRecOn with
 | _ i ih =>
  intro x hx
  have hg:=h.good hs;rw[sizI_eq hx];by_cases h9:x.op<9
  ·have h1:=rt_bd h hn hx;have h2:1≤2 ^ i:=Nat.one_le_two_pow;unfold sizN
   rw[if_pos h9];omega
  ·obtain ⟨ho,ha,⟨y,hy⟩,hb⟩:=hg.sub hx h9;have h1:=ih _ ha y hy;obtain ⟨j,rfl⟩:∃ j,i=j+1:=⟨i - 1,by omega⟩
   have p1:2 ^ x.a.toNat≤2 ^ j:=Nat.pow_le_pow_right (by decide) (by omega);have p0:1≤2 ^ j:=Nat.one_le_two_pow;have p2:2 ^ (j+1)=2 * 2 ^ j:=by rw[Nat.pow_succ];omega
   unfold sizN
   rw[if_neg h9,sizs_get cs l ha];by_cases h11:x.op=11
   ·rw[if_pos h11,p2];omega
   ·obtain ⟨hb,z,hz⟩:=hb h11;have h2:=ih _ hb z hz;have p3:2 ^ x.b.toNat≤2 ^ j:=Nat.pow_le_pow_right (by decide) (by omega);have h4:=rt_word x.op;rw[if_neg h11,sizs_get cs l hb,p2];omega
theorem rt_fmt {cs:List Col} {key:Int} {l:List Nd} (h:GenP cs l) (hs:schkV cs key=0) (hn:∀ c ∈ cs,c.nm.size≤1) :
  (l=[]∧fmtP cs key l=([],0))∨∃ (i:Nat) (x:Nd) (E:List Nd),l[i]?=some x∧i+1=l.length∧fmtP cs key l=(txtI cs l i,0)∧sizI cs l i≤65536∧(txtI cs l i).length≤65536∧Exp l i 0 E:=by
 have hg:=h.good hs;have hc:=hg.chk hs;by_cases h0:l.length=0
 ·left;exact ⟨List.length_eq_zero_iff.1 h0,by unfold fmtP;rw[if_neg (by rw[hc];simp),if_pos h0]⟩
 ·have hx:=List.getElem?_eq_getElem (show l.length - 1<l.length by omega);have h1:=rt_siz h hs hn _ _ hx;have h2:2 ^ (l.length - 1)≤2 ^ 6:=Nat.pow_le_pow_right (by decide) (by have:=h.len;omega);have h6:¬ 65536<sizI cs l (l.length - 1):=by omega
  right
  obtain ⟨E,hE⟩:=exp_ex hg _ _ hx 0;refine ⟨l.length - 1,_,E,hx,by omega,?_,by omega,?_,hE⟩
  ·unfold fmtP;rw[if_neg (by rw[hc];simp),if_neg h0,if_neg h6]
  ·rw[(siz_txt hg.ok _ _ hx (by omega)).1];omega
theorem nrm_vr {x:Nd} (h1:VR x.v) (h2:∀ y ∈ x.l,VR y):VR (nrm x).v∧∀ y ∈ (nrm x).l,VR y:=by
 refine ⟨?_,fun y hy=>?_⟩
 ·show VR (if x.op<7 then x.v else v0)
  split
  ·exact h1
  ·exact vr0
 ·have hy:y ∈ (if x.op=7 then x.l else []):=hy;split at hy
  ·exact h2 y hy
  ·simp at hy
theorem exp_vr {p:List Nd} (h1:∀ x ∈ p,VR x.v) (h2:∀ x ∈ p,∀ y ∈ x.l,VR y) {i n:Nat} {E:List Nd} (h:Exp p i n E):∀ x ∈ E,VR x.v∧∀ y ∈ x.l,VR y:=by
 have ht:∀ (o a b:Int),VR (Nd.mk o 0 v0 [] a b).v∧∀ y ∈ (Nd.mk o 0 v0 [] a b).l,VR y:=fun o a b=>⟨vr0,nofun⟩
 induction h with
 | leaf hx h9 =>
  intro y hy
  simp only[List.mem_singleton]at hy;subst hy;have hm:=List.mem_of_getElem? hx;exact nrm_vr (h1 _ hm) (h2 _ hm)
 | neg hx h11 hA ih =>
  intro y hy
  rcases List.mem_append.1 hy with hy|hy
  ·exact ih y hy
  ·simp only[List.mem_singleton]at hy;subst hy;exact ht _ _ _
 | two hx h9 hA hB ihA ihB =>
  intro y hy
  rcases List.mem_append.1 hy with hy|hy
  ·rcases List.mem_append.1 hy with hy | hy
   ·exact ihA y hy
   ·exact ihB y hy
  ·simp only[List.mem_singleton]at hy;subst hy;exact ht _ _ _
structure RtOk (cs:List Col) (key:Int) (l:List Nd) (R:List Nd):Prop where
 good:GoodP cs R
 vr:∀ x ∈ R,VR x.v
 vl:∀ x ∈ R,∀ y ∈ x.l,VR y
 fmt:fmtP cs key R=((fmtP cs key l).1,0)
 ev:∀ row:List Vl,evV cs row R=evV cs row l
theorem rt_law {cs:List Col} {key:Int} {l:List Nd} (h:GenP cs l) (hs:schkV cs key=0) (hn:∀ c ∈ cs,c.nm.size≤1) {R:List Nd×Nat×Int} (hR:parP cs key (fmtP cs key l).1=R) :
  (fmtP cs key l).2=0∧(fmtP cs key l).1.length≤65536∧((R.2.2=7∧0<R.2.1)∨(R.2.2=0∧RtOk cs key l R.1)):=by
 have hg:=h.good hs;have hv1:∀ x ∈ l,VR x.v:=fun x hx=>by obtain ⟨i,hi⟩:=List.mem_iff_getElem?.1 hx;exact (h.ok i x hi).rv
 have hv2:∀ x ∈ l,∀ y ∈ x.l,VR y:=fun x hx=>by obtain ⟨i,hi⟩:=List.mem_iff_getElem?.1 hx;exact (h.ok i x hi).rl
 rcases rt_fmt h hs hn with ⟨rfl,he⟩|⟨i,x,E,hx,hi,he,h6,hl,hE⟩
 ·rw[he]at hR;have e:parP cs key []=([],0,0):=pp_nil hs rfl;rw[show (([]:List UInt8),(0:Int)).1=[] from rfl,e]at hR;subst hR;refine ⟨by rw[he],by rw[he];simp,.inr ⟨rfl,hg,hv1,hv2,by rw[he],fun _=>rfl⟩⟩
 ·rw[he]at hR;have hR:parP cs key (txtI cs l i)=R:=hR;refine ⟨by rw[he],by rw[he];exact hl,?_⟩
  have h1:=parse_words hg hs hx hE (U:=txtI cs l i) rfl hl;rw[hR]at h1;by_cases h64:E.length≤64
  ·right
   rw[if_pos h64]at h1;have e1:R.1=E:=congrArg Prod.fst h1;have e2:R.2.2=0:=congrArg Prod.snd h1;refine ⟨e2,?_⟩
   rw[e1];have hq:=exp_good hg hE h64;have hv:=exp_vr hv1 hv2 hE;refine ⟨hq,fun x hx=>(hv x hx).1,fun x hx=>(hv x hx).2,by rw[he];exact fmt_exp hg hs hE h64 h6,fun row=>?_⟩
   have hr:=exp_rep hE [] [] rfl;simp only[List.nil_append,List.append_nil,Nat.zero_add]at hr;have hpos:=exp_pos hE;unfold evV
   rw[if_neg (by omega),if_neg (by omega),show l.length - 1=i by omega];exact tru_rep (fun x hx=>lfR_nrm cs row x hx) hg hq hr
  ·left
   rw[if_neg h64]at h1;have e2:R.2.2=7:=congrArg Prod.snd h1;refine ⟨e2,?_⟩
   rw[←hR]at e2 ⊢;exact parP_pos hs hl e2

theorem gen_ty2 {l:List Col} (h:GenS l.length l):∀ c ∈ l,1≤c.ty∧c.ty≤5:=by
 intro c hc
 obtain ⟨i,hi⟩:=List.mem_iff_getElem?.1 hc;exact (h i c hi).ty
theorem rt_pbd {ys:List Col} {l:List Nd} (h:GenP ys l) (hl:ys.length≤4) (hn:∀ c ∈ ys,c.nm.size≤1):PBd ys l :=
 ⟨by omega,by have:=h.len;omega,fun c hc=>by have:=hn c hc;omega,fun x hx=>by obtain ⟨i,hi⟩:=List.mem_iff_getElem?.1 hx;exact (h.ok i x hi).rv,fun x hx=>by obtain ⟨i,hi⟩:=List.mem_iff_getElem?.1 hx;exact (h.ok i x hi).rl⟩
theorem rt_pbd2 {ys:List Col} {key:Int} {l q:List Nd} (h:RtOk ys key l q) (hl:ys.length≤4) (hn:∀ c ∈ ys,c.nm.size≤1):PBd ys q :=
 ⟨by omega,by have:=h.good.ok.len;omega,fun c hc=>by have:=hn c hc;omega,h.vr,h.vl⟩
theorem rt_row {ys:List Col} {l:List Vl} (h:RGood ys l) (ht:∀ c ∈ ys,1≤c.ty∧c.ty≤5):RowOk ys l where
 len:=h.len
 ok:=fun K c v hc hv=>by
  have:=ht c (List.mem_of_getElem? hc)
  exact chk_of_ok (h.gen K c v hc hv) this.1 this.2
 sz:=fun K v hv=>by
  have hK:=(List.getElem?_eq_some_iff.1 hv).1;have hc:=List.getElem?_eq_getElem (show K<ys.length by have:=h.len;omega);have:=ok_small (h.gen K _ v hc hv)
  omega
theorem rt_ev {ys:List Col} {key:Int} {l:List Nd} (hk:GoodP ys l) (hs:schkV ys key=0) (hl:ys.length≤4) (hn:∀ c ∈ ys,c.nm.size≤1) (hv:∀ x ∈ l,VR x.v) (hw:∀ x ∈ l,∀ y ∈ x.l,VR y) {sv pv rv:Value} {row:List Vl} {w:World} (hro:RowOk ys row)
  (h1:Sl w 4 sv ys.length (cols ys)) (h2:SlNd w pv l) (h3:Sl w 3 rv row.length (vls row)) :
  Calls Tryz.prog 21 #[.agg #[sv,.int .i64 key],pv,rv] w fun e w'=>e=.returned (.tuple #[.int .i64 (evV ys row l),.int .i64 0])∧Below w.heap.size w w' :=
 reval_any sv pv rv key ys l row w h1 h2 h3 (hk.chk hs) hk.ok hro (by omega) (fun c hc=>by have:=hn c hc;omega) (fun x hx=>(hv x hx).2.2) (fun x hx y hy=>(hw x hx y hy).2.2)
set_option maxRecDepth 100000 in
set_option maxHeartbeats 8000000 in
theorem predtextRoundTrip_walk (xv lv mv:Value) (xs ls ms:List Int) (w:World) (hE:Env w)
  (hx:Sl w 1 xv xs.length (ints xs)) (hxl:xs.length≤9223372036854775807) (hxr:∀ x ∈ xs,-9223372036854775808≤x∧x≤9223372036854775807)
  (hl:Sl w 1 lv ls.length (ints ls)) (hll:ls.length≤9223372036854775807) (hlr:∀ x ∈ ls,-9223372036854775808≤x∧x≤9223372036854775807)
  (hm:Sl w 1 mv ms.length (ints ms)) (hml:ms.length≤9223372036854775807) (hmr:∀ x ∈ ms,-9223372036854775808≤x∧x≤9223372036854775807) :
  Calls Tryz.prog 6 #[xv,lv,mv] w fun e w'=>e=.returned (.bool true)∧Below w.heap.size w w':=by
 obtain ⟨AX,cX,rfl,_,_⟩:=hx.form;obtain ⟨AL,cL,rfl,_,_⟩:=hl.form;obtain ⟨AM,cM,rfl,_,_⟩:=hm.form;have HKS:=Lib.hid (kschema_any _ xs w hx hxl hxr);have HL:=Lib.hid (⟨hl,hll,hlr⟩:_∧_∧_);have HM:=Lib.hid (⟨hm,hml,hmr⟩:_∧_∧_);have HE:=Lib.hid hE;clear hx hxl hxr hl hll hlr hE hm hml hmr;go_enter Tryz.func6,Tryz.ntmps6
 go_wp2_with fail
 refine HKS.out.mono ?_;rintro _ w1 ⟨yv,y,yk,rfl,hy1,hy4,hg,hk0,hk1,hys,hb1⟩;obtain ⟨AY,cY,rfl,_,_⟩:=hys.form;obtain ⟨W2,hW2⟩:∃ W,W=w1.alloc (.cells #[.slice AY y.length cY,.int .i64 yk] 28):=⟨_,rfl⟩
 have ha2:Below w1.heap.size w1 W2:=by rw[hW2];exact below_new _ _
 have HB2:=Lib.hid (bst hb1 ha2);have BY2:=Lib.hid (show Blk W2 w1.heap.size 28 #[.slice AY y.length cY,.int .i64 yk] by rw[hW2];exact Blk.new _ _ _);have HYS:=Lib.hid (hys.below ha2);have HG:=Lib.hid hg;have HV:=Lib.hid (gen_valid hy1 hy4 hg hk0 hk1);have HN:=Lib.hid (gen_small hg);have HT5:=Lib.hid (gen_ty2 hg);obtain ⟨N,hN⟩:∃ N,w1.heap.size=N:=⟨_,rfl⟩
 go_upto_region 1 with (fail)
 rw[←hW2];try simp only[hN]
 rw[hN]at BY2;clear hW2 hN hb1 ha2 hys hg hk0 hk1 HKS;have bb:=BY2.out;have s0:=bb.cell 0;have s1:=bb.cell 1;simp only[jA,jZ,jS]at s0 s1;clear bb;go_wp2_with fail
 with_reducible refine (kpred_any _ _ yk y ls _ HYS.out (by omega) (by omega) HT5.out (HL.out.1.below HB2.out) HL.out.2.1 HL.out.2.2).mono ?_
 rintro _ w3 ⟨pv,pl,rfl,hgp,hsp,hb3⟩;obtain ⟨AP,cP,ep,hpc1,hpc2⟩:=hsp.form;subst ep;clear s0 s1 hpc1 hpc2;have HB3:=Lib.hid (bst HB2.out hb3);have BY3:=Lib.hid (BY2.out.below hb3 BY2.out.lt);have HY3:=Lib.hid (HYS.out.below hb3);have HGP:=Lib.hid hgp;have HSP:=Lib.hid hsp;have HPB:=Lib.hid (rt_pbd hgp hy4 HN.out);have HGD:=Lib.hid (hgp.good HV.out);have HPV:=Lib.hid (⟨fun x hx=>by obtain ⟨i,hi⟩:=List.mem_iff_getElem?.1 hx;exact (hgp.ok i x hi).rv,fun x hx=>by obtain ⟨i,hi⟩:=List.mem_iff_getElem?.1 hx;exact (hgp.ok i x hi).rl⟩:(∀ x ∈ pl,VR x.v)∧∀ x ∈ pl,∀ y ∈ x.l,VR y);obtain ⟨R0,hR0⟩:∃ R,parP y yk (fmtP y yk pl).1=R:=⟨_,rfl⟩
 obtain ⟨l1,l2,l3⟩:=rt_law hgp HV.out HN.out hR0;have HF2:=Lib.hid l1;have HF3:=Lib.hid l3;have HR0:=Lib.hid hR0;obtain ⟨T,hT⟩:∃ T:ByteArray,(⟨(fmtP y yk pl).1.toArray⟩:ByteArray)=T:=⟨_,rfl⟩
 have HT:=Lib.hid (show T.data.toList=(fmtP y yk pl).1 by rw[←hT]);have HTT:=Lib.hid hT;have hTs:T.size≤65536:=by rw[←size_data,HT.out];exact l2
 clear hb3 hgp hsp hR0 l1 l2 l3 hT BY2 HYS HGP;have bb:=BY3.out;have s0:=bb.cell 0;have s1:=bb.cell 1;simp only[jA,jZ,jS]at s0 s1;clear bb;go_wp2_with fail
 with_reducible refine (pfmt_any _ _ yk y pl w3 ⟨(HE.out.below HB3.out).1,HY3.out,HSP.out⟩ HPB.out).mono ?_
 rintro _ w4 ⟨rfl,hb4⟩;rw[HF2.out,HTT.out];clear s0 s1;have HB4:=Lib.hid (bst HB3.out hb4);have BY4:=Lib.hid (BY3.out.below hb4 BY3.out.lt);have HY4:=Lib.hid (HY3.out.below hb4);have HSP4:=Lib.hid (HSP.out.below hb4);clear hb4 BY3 HY3 HSP HF2 HPB;have bb:=BY4.out;have s0:=bb.cell 0;have s1:=bb.cell 1;simp only[jA,jZ,jS]at s0 s1;clear bb;go_wp2_with fail
 have HP1:=Lib.hid (show Calls Tryz.prog 8 #[.agg #[.slice AY y.length cY,.int .i64 yk],.string T] w4 (RetPar w4 R0) by
  have h:=pparse_any _ yk y T w4 (HE.out.below HB4.out) HY4.out (by omega) (fun c hc=>by have:=HN.out c hc;omega) (by omega);rw[HT.out,HR0.out]at h;exact h)
 with_reducible refine HP1.out.mono ?_
 rintro _ w5 ⟨qv,rfl,ho5,hb5⟩;obtain ⟨AQ,cQ,rfl,_,_⟩:=ho5.form;have HQ5:=Lib.hid ho5.sl;have HB5:=Lib.hid (bst HB4.out hb5);have BY5:=Lib.hid (BY4.out.below hb5 BY4.out.lt);have HY5:=Lib.hid (HY4.out.below hb5);have HSP5:=Lib.hid (HSP4.out.below hb5);obtain ⟨q,at1,e1⟩:=R0;have h3:=HF3.out;dsimp only at h3 HQ5 ⊢;clear hb5 ho5 HP1 s0 s1 BY4 HY4 HSP4 HF3;rcases h3 with ⟨h7,hat⟩|⟨h0,hq⟩
 ·subst h7;have qat:decide ((at1:Int) > 0)=true:=by simpa using hat
  have qat2:decide (0<(at1:Int))=true:=by simpa using hat
  have qat3:decide (0<at1)=true:=by simpa using hat
  have hAW:=Lib.hid (awake22_any w5 (HE.out.below HB5.out).1);clear hat;go_wp2_with fail
  refine hAW.out.mono ?_;rintro _ w6 ⟨rfl,hb6⟩;have HB6:=Lib.hid (bst HB5.out hb6);clear hb6 hAW;go_wp2;go_ret;exact ⟨rfl,HB6.out⟩
 ·subst h0;have HQO:=Lib.hid hq;clear hq;have HPB2:=Lib.hid (rt_pbd2 HQO.out hy4 HN.out);have bb:=BY5.out;have s0:=bb.cell 0;have s1:=bb.cell 1;simp only[jA,jZ,jS]at s0 s1;clear bb;go_wp2_with fail
  have HP1:=Lib.hid (show Calls Tryz.prog 11 #[.agg #[.slice AY y.length cY,.int .i64 yk],.slice AQ q.length cQ] w5 (fun e w'=>e=.returned (.tuple #[.string T,.int .i64 0])∧Below w5.heap.size w5 w') by
   have h:=pfmt_any (.slice AY y.length cY) (.slice AQ q.length cQ) yk y q w5 ⟨(HE.out.below HB5.out).1,HY5.out,HQ5.out⟩ HPB2.out;rw[HQO.out.fmt]at h;unfold RetDec at h
   rw[HTT.out]at h;exact h)
  with_reducible refine HP1.out.mono ?_
  rintro _ w6 ⟨rfl,hb6⟩;have HB6:=Lib.hid (bst HB5.out hb6);have BY6:=Lib.hid (BY5.out.below hb6 BY5.out.lt);have HY6:=Lib.hid (HY5.out.below hb6);have HSP6:=Lib.hid (HSP5.out.below hb6);have HQ6:=Lib.hid (HQ5.out.below hb6);clear hb6 s0 s1 BY5 HY5 HSP5 HQ5 HP1 HPB2;have qT:(T.toList==T.toList)=true:=by simp
  have bb:=BY6.out;have s0:=bb.cell 0;have s1:=bb.cell 1;simp only[jA,jZ,jS]at s0 s1;clear bb;go_wp2_with fail
  with_reducible refine (krows_any _ _ yk y ms _ HY6.out (by omega) HT5.out (HM.out.1.below HB6.out) HM.out.2.1 HM.out.2.2).mono ?_
  rintro _ w7 ⟨rv,L,rfl,hL6,hLg,hLo,hb7⟩;have HB7:=Lib.hid (bst HB6.out hb7);have BY7:=Lib.hid (BY6.out.below hb7 BY6.out.lt);have HY7:=Lib.hid (HY6.out.below hb7);have HSP7:=Lib.hid (HSP6.out.below hb7);have HQ7:=Lib.hid (HQ6.out.below hb7);obtain ⟨us,u1,u2,u3⟩:=hLo;have u4:=Sl.of_own u2;obtain ⟨AR,cR,rfl,_,_⟩:=u4.form;have HU4:=Lib.hid u4;have HU3:=Lib.hid u3;have HU1:=Lib.hid u1;have HLG:=Lib.hid hLg;have HGQ:=Lib.hid HQO.out.good;have HQV:=Lib.hid (⟨HQO.out.vr,HQO.out.vl⟩:(∀ x ∈ q,VR x.v)∧∀ x ∈ q,∀ y ∈ x.l,VR y);have HEV:=Lib.hid HQO.out.ev;clear hb7 s0 s1 BY6 HY6 HSP6 HQ6 u1 u2 u3 u4 hLg HQO;go_wp2_with fail
  go_loopw [70] (fun i wr=>∃ k:Nat,k≤L.length∧i=.int .i64 (k:Int)∧Below w7.heap.size w7 wr) (fun i _=>L.length - (intOf i).toNat)
  case atStart=>exact ⟨0,by omega,rfl,Below.refl _ _⟩
  case round =>
   obtain ⟨k,hk,rfl,hbel⟩:=hrel;have HBL:=Lib.hid hbel;clear hbel;by_cases hlt:k<L.length
   ·obtain ⟨ad,u,rfl,had,hu,hc⟩:=(HU4.out.below HBL.out).at_ hlt;have hLk:=List.getElem?_eq_getElem hlt;obtain ⟨l,hl⟩:∃ l,L[k]=l:=⟨_,rfl⟩
    rw[hl]at hLk;have hR7:=Sl.of_own (HU3.out k l u hLk hu);obtain ⟨AU,cU,rfl,_,_⟩:=hR7.form;have HRW:=Lib.hid (hR7.below HBL.out);have HRO:=Lib.hid (rt_row (HLG.out k l hLk) HT5.out);have hadd:decide (k<L.length)=true:=decide_eq_true hlt;have pj:(k<L.length)=True:=eq_true hlt;have wj:IntKind.i64.wrap ((k:Int)+1)=(k:Int)+1:=IntWalk.i64_in _ (by omega);have HBr:=Lib.hid (bst HB7.out HBL.out);have BYr:=Lib.hid (BY7.out.below HBL.out BY7.out.lt);have HYr:=Lib.hid (HY7.out.below HBL.out);have HSPr:=Lib.hid (HSP7.out.below HBL.out);have HQr:=Lib.hid (HQ7.out.below HBL.out);clear hR7 hLk hl hu had;have bb:=BYr.out;have s0:=bb.cell 0;have s1:=bb.cell 1;simp only[jA,jZ,jS]at s0 s1;clear bb;go_wp2_with fail
    with_reducible refine (rt_ev HGD.out HV.out hy4 HN.out HPV.out.1 HPV.out.2 HRO.out HYr.out HSPr.out HRW.out).mono ?_
    rintro _ x1 ⟨rfl,hx1⟩;obtain ⟨E,hE⟩:∃ E,evV y l pl=E:=⟨_,rfl⟩
    have HEQ:=Lib.hid (show evV y l q=E by rw[HEV.out,hE]);rw[hE];have BYs:=Lib.hid (BYr.out.below hx1 BYr.out.lt);have HYs:=Lib.hid (HYr.out.below hx1);have HQs:=Lib.hid (HQr.out.below hx1);have HRWs:=Lib.hid (HRW.out.below hx1);have HX1:=Lib.hid (bst HBL.out hx1);clear hx1 hE s0 s1 HYr HQr HRW BYr;have bb:=BYs.out;have s0:=bb.cell 0;have s1:=bb.cell 1;simp only[jA,jZ,jS]at s0 s1;clear bb;go_wp2_with fail
    with_reducible refine (rt_ev HGQ.out HV.out hy4 HN.out HQV.out.1 HQV.out.2 HRO.out HYs.out HQs.out HRWs.out).mono ?_
    rintro _ x2 ⟨rfl,hx2⟩;rw[HEQ.out];have HX2:=Lib.hid (bst HX1.out hx2);clear hx2 s0 s1;go_wp2;go_roundw
    case rel=>exact ⟨k+1,by omega,by rw[show ((k+1:Nat):Int)=(k:Int)+1 by omega],HX2.out⟩
    case measure=>simp[intOf];omega
   ·have hkd:decide (k<L.length)=false:=decide_eq_false hlt;have HBr:=Lib.hid (bst HB7.out HBL.out);have hAW:=Lib.hid (awake22_any wr (HE.out.below HBr.out).1);go_wp2_with fail
    refine hAW.out.mono ?_;rintro _ x3 ⟨rfl,hx3⟩;have HX3:=Lib.hid (bst HBr.out hx3);clear hx3 hAW;go_wp2;go_ret;exact ⟨rfl,HX3.out⟩
end Go.Proofs.YtjnamjkdjcndiaaGreatDoor
