/-
  Words, plain laws and contracts on which the walks lean, in one text.
-/
import Derived.Test.YtjnamjkdjcndiaaGreatDoorPLeaf
import Derived.Test.YtjnamjkdjcndiaaGreatDoorM13
import Derived.Test.YtjnamjkdjcndiaaGreatDoorM12
import Derived.Test.YtjnamjkdjcndiaaGreatDoorBuilder
import Derived.Test.YtjnamjkdjcndiaaGreatDoorM5
namespace Go.Proofs.YtjnamjkdjcndiaaGreatDoor
open Go.RowKit Go.Sort

def VR (y:Vl):Prop:=-9223372036854775808≤y.n∧y.n≤9223372036854775807∧y.s.size≤9223372036854775807
structure POk (cs:List Col) (p:List Nd):Prop where
 ok:PredOk cs p
 cl:cs.length≤12
 cv:∀ c ∈ cs,ColValid c
 rv:∀ x ∈ p,VR x.v
 rl:∀ x ∈ p,∀ e ∈ x.l,VR e
structure PEnv (w:World) (v:Value) (cs:List Col) (pv:Value) (p:List Nd):Prop where
 ht:Tab w
 hs:Sl w 4 v cs.length (cols cs)
 hp:SlNd w pv p
theorem POk.leaf {cs:List Col} {p:List Nd} (h:POk cs p) {i:Nat} {x:Nd} (hx:p[i]?=some x) (h9:x.op<9) :
  ∃ (K:Nat) (c:Col),x.col=(K:Int)∧cs[K]?=some c∧c.nm.size≤1000∧¬(c.ty=5∧(c.sc<0∨18<c.sc))∧(∀ y ∈ valsP x,VlOk c y)∧(valsP x).length≤16∧leafP cs x=leafC c x∧1≤x.op:=by
 have hn:=h.ok.node i x hx;have hm:=List.mem_of_getElem? hx;obtain ⟨k1,k2,c,hc⟩:=node_col hn h9;have hv:=h.cv c (List.mem_of_getElem? hc);obtain ⟨v1,v2,v3⟩:=node_vals hn h9 hc;refine ⟨x.col.toNat,c,by omega,hc,by have:=hv.nm;omega,by have:=hv.sc;omega,fun y hy=>?_,v2,by unfold leafP;rw[hc],(node_op hn).1⟩
 have hr:VR y:=by
  unfold valsP at hy
  split at hy
  ·simp at hy;subst hy;exact h.rv x hm
  ·split at hy
   ·simp at hy
   ·exact h.rl x hm y hy
 exact ⟨v1 y hy,hr.1,hr.2.1,hr.2.2⟩
theorem leafC_len {c:Col} {x:Nd} (hn:c.nm.size≤1000) (hv:∀ y ∈ valsP x,VlOk c y) (hl:(valsP x).length≤16):(leafC c x).length≤4300:=by
 have h3:=vtxts_take (c:=c) hv hl (valsP x).length;rw[List.take_length]at h3;have:=wordP_len x.op
 have:=sizeD c.nm
 unfold leafC
 simp only[List.length_cons,List.length_append,List.length_nil];omega
theorem leaf_at {w0 w:World} {v pv u:Value} {key:Int} {cs:List Col} {p:List Nd} {i:Nat} {x:Nd} (he:PEnv w0 v cs pv p) (hk:POk cs p) (hx:p[i]?=some x) (h9:x.op<9) (hu:Sl w 3 u x.l.length (vls x.l)) (hb:Below w0.heap.size w0 w) :
  Calls Tryz.prog 50 #[.agg #[v,.int .i64 key],.agg #[.int .i64 x.op,.int .i64 x.col,.bool x.v.nu,.int .i64 x.v.n,.string x.v.s,u,.int .i64 x.a,.int .i64 x.b]] w (RetT w (leafP cs x))∧(leafP cs x).length≤4300:=by
 obtain ⟨K,c,hK,hc,hn,hs,hv,hl,hlf,h1⟩:=hk.leaf hx h9;have e:x=⟨x.op,K,⟨x.v.nu,x.v.n,x.v.s⟩,x.l,x.a,x.b⟩:=by rw[←hK]
 rw[hlf];refine ⟨?_,leafC_len hn hv hl⟩
 have hvl:=hv;have hll:=hl;rw[e]at hvl hll;have h:=pleaf_any v key cs x.op K x.v.nu x.v.n x.v.s x.l u x.a x.b c w (he.ht.below hb) (he.hs.below hb) hu (by have:=hk.cl;omega) hc hn hs h1 (by omega) hvl hll;rw[←e]at h;rw[hK];exact h
noncomputable def szL (cs:List Col) (p:List Nd):List Int:=(List.range p.length).map fun i=>(sizI cs p i:Int)
theorem szL_get {cs:List Col} {p:List Nd} {i:Nat} (h:i<p.length):(szL cs p)[i]?=some (sizI cs p i:Int):=by
 unfold szL;rw[List.getElem?_map,List.getElem?_range h];rfl
theorem szL_len (cs:List Col) (p:List Nd):(szL cs p).length=p.length:=by unfold szL;rw[List.length_map,List.length_range]
def SzTo (cs:List Col) (p:List Nd) (zs:List Int) (k:Nat):Prop:=zs.length=p.length∧∀ j,j<k→zs[j]?=some (sizI cs p j:Int)
theorem SzTo.set {cs:List Col} {p:List Nd} {zs:List Int} {k:Nat} (h:SzTo cs p zs k) (hk:k<p.length) {z:Int} (hz:z=(sizI cs p k:Int)):SzTo cs p (zs.set k z) (k+1):=by
 refine ⟨by rw[List.length_set];exact h.1,fun j hj=>?_⟩
 rw[List.getElem?_set];by_cases e:k=j
 ·subst e;rw[if_pos rfl,if_pos (by rw[h.1];exact hk),hz]
 ·rw[if_neg e];exact h.2 j (by omega)
theorem SzTo.all {cs:List Col} {p:List Nd} {zs:List Int} (h:SzTo cs p zs p.length):zs=szL cs p:=by
 apply List.ext_getElem?
 intro j
 by_cases hj:j<p.length
 ·rw[h.2 j hj,szL_get hj]
 ·rw[List.getElem?_eq_none (by rw[h.1];omega),List.getElem?_eq_none (by rw[szL_len];omega)]
theorem ints_set (zs:List Int) (k:Nat) (z:Int):(ints zs).set k (.int .i64 z)=ints (zs.set k z):=by unfold ints;rw[List.map_set]
theorem made_ints (n:Nat):(madeCells (Value.int IntKind.i64 0).cells (n * 1)).toList=ints (List.replicate n 0):=by
 unfold madeCells ints
 rw[Array.toList_map,Array.toList_range,Nat.mul_one,List.map_replicate];apply List.ext_getElem
 ·simp
 ·intro i h1 h2
  simp[Value.cells,Nat.mod_one]
theorem own_setI {w:World} {base g n cap j:Nat} {zs:List Int} {z:Int} (h:w.ownsRow base 3 1 (.slice (some ⟨g,0,none⟩) n cap) n (ints zs)) :
  (w.setCell ⟨g,j,none⟩ (.int .i64 z)).ownsRow base 3 1 (.slice (some ⟨g,0,none⟩) n cap) n (ints (zs.set j z)):=by
 rw[←ints_set];obtain ⟨h1,h2⟩:=h;rcases h2 with ⟨h2,_⟩|⟨g',cap',cur,e0,hb,hg,hn2,hc,hcs,ht⟩
 ·cases h2
 injection e0 with e1 _ e3
 injection e1 with e1
 injection e1 with e1
 subst e1 e3;refine ⟨by rw[List.length_set,h1],.inr ⟨g,cap,_,rfl,hb,Go.heap_setCell_same w g j cur 3 (.int .i64 z) hg,hn2,hc,by simpa using hcs,?_⟩⟩
 rw[Array.toList_setIfInBounds,←ht,List.take_set]
theorem own_frozI {w:World} {base:Nat} {t:TypeId} {sz g n cap:Nat} {xs:List Value} (h:w.ownsRow base t sz (.slice (some ⟨g,0,none⟩) n cap) n xs) (j:Nat):w.frozen? ⟨g,j,none⟩=false:=by
 rcases h.2 with ⟨e,_⟩|⟨g',cap',cur,e0,_,hg,_⟩
 ·cases e
 injection e0 with e1 _ e3
 injection e1 with e1
 injection e1 with e1
 subst e1;simp[World.frozen?,hg]
theorem own_cellI {w:World} {base g n cap j:Nat} {zs:List Int} {z:Int} (h:w.ownsRow base 3 1 (.slice (some ⟨g,0,none⟩) n cap) n (ints zs)) (hj:zs[j]?=some z):w.cell? ⟨g,j,none⟩=some (.int .i64 z):=by
 have h:=World.ownsRow.cells h (g:=g) rfl j (.int .i64 z) (by unfold ints;rw[List.getElem?_map,hj];rfl);rw[Addr.add_lit,Nat.zero_add]at h;exact h

theorem info_intP:(Tryz.prog.info? 3).map (fun i=>(i.zero,i.size,i.bytes))=some (some (.int .i64 0),1,8):=by kernel_rfl
theorem siz_leaf {cs:List Col} {p:List Nd} {i:Nat} {x:Nd} (hx:p[i]?=some x) (h9:x.op<9):sizI cs p i=min (leafP cs x).length 65537:=by rw[sizI_eq hx];unfold sizN;rw[if_pos h9]
theorem siz_not {cs:List Col} {p:List Nd} {i:Nat} {x:Nd} (hx:p[i]?=some x) (h:x.op=11) (ha:x.a.toNat<i):sizI cs p i=min (6+sizI cs p x.a.toNat) 65537:=by
 rw[sizI_eq hx];unfold sizN;rw[if_neg (by omega),if_pos h,sizs_get cs p ha]
theorem siz_two {cs:List Col} {p:List Nd} {i:Nat} {x:Nd} (hx:p[i]?=some x) (h9:¬ x.op<9) (h:x.op≠11) (ha:x.a.toNat<i) (hb:x.b.toNat<i):sizI cs p i=min (4+(wordP x.op).length+sizI cs p x.a.toNat+sizI cs p x.b.toNat) 65537:=by
 rw[sizI_eq hx];unfold sizN;rw[if_neg h9,if_neg h,sizs_get cs p ha,sizs_get cs p hb]
set_option maxRecDepth 100000 in
set_option maxHeartbeats 8000000 in
theorem plen_any (v pv:Value) (key:Int) (cs:List Col) (p:List Nd) (w:World) (he:PEnv w v cs pv p) (hk:POk cs p) :
  Calls Tryz.prog 26 #[.agg #[v,.int .i64 key],pv] w (RetRow w 3 1 p.length (ints (szL cs p))):=by
 obtain ⟨A,cA,rfl,hc1,hc2⟩:=he.hs.form;obtain ⟨AP,cP,rfl,hc3,hc4⟩:=he.hp.form;have HE:=Lib.hid he;have HK:=Lib.hid hk;have hp64:p.length≤64:=hk.ok.len;obtain ⟨W,hW⟩:∃ W,W=w.alloc (.cells #[.slice A cs.length cA,.int .i64 key] 28):=⟨_,rfl⟩
 have hb0:Below w.heap.size w W:=by rw[hW];exact (Below.refl _ _).alloc (Nat.le_refl _) _
 have bS:Blk W w.heap.size 28 #[.slice A cs.length cA,.int .i64 key]:=by rw[hW];exact Blk.new _ _ _
 obtain ⟨i0,hi,hz0,hz1,hz2⟩:=info_parts info_intP;obtain ⟨W2,hrun,r1,r2⟩:=run_make_full (P:=Tryz.prog) W W.heap.size 36 3 i0 (.int .i64 0) 1 Tryz.underlying36 hi hz0 hz1 .i64 .i64 p.length (by rw[hz2];omega) (by unfold maxLen;omega) (Nat.le_refl _);have hb1:Below W.heap.size W W2:=⟨r2.os,r2.tape,r2.output,r2.size,fun i hi=>r2.block i hi (by simp)⟩
 rw[made_ints]at r1;obtain ⟨G,hG⟩:∃ G,W.heap.size=G:=⟨_,rfl⟩
 rw[hG]at hrun r1;have hWG:w.heap.size<G:=by rw[←hG];exact bS.lt
 have HO:=Lib.hid (own_mono r1 (Nat.le_of_lt hWG));have HS:=Lib.hid (bS.below hb1 bS.lt);have HB:=Lib.hid (bst hb0 hb1);clear he hk hb0 bS hi hz0 hz1 hz2 r1 r2 hb1;go_enter Tryz.func26,Tryz.ntmps26
 go_upto_region 1 with (fail)
 rw[←hW];clear hW;go_wp2;try simp only[hG]
 clear hrun hG;go_loopw [14] (fun i wr=>∃ (k:Nat) (zs:List Int),k≤p.length∧i=.int .i64 (k:Int)∧Hid (SzTo cs p zs k)∧wr.ownsRow w.heap.size 3 1 (.slice (some ⟨G,0,none⟩) p.length p.length) p.length (ints zs)∧Blk wr w.heap.size 28 #[.slice A cs.length cA,.int .i64 key]∧Below w.heap.size w wr) (fun i _=>p.length - (intOf i).toNat)
 case atStart=>exact ⟨0,List.replicate p.length 0,by omega,rfl,Lib.hid ⟨by simp,fun j hj=>absurd hj (Nat.not_lt_zero _)⟩,HO.out,HS.out,HB.out⟩
 case round =>
  obtain ⟨k,zs,hk',rfl,hz,hown,bS,hbel⟩:=hrel;by_cases hlt:k<p.length
  ·obtain ⟨ad,x,u,px,rfl,hx,hpx,hE,hu⟩:=(HE.out.hp.below hbel).nd_load rfl hlt;obtain ⟨AU,cU,rfl,_,_⟩:=hu.form;obtain ⟨hplt,c0,c1,c2,c3,c4,c5,c6,c7⟩:=hE;have HLT:=Lib.hid hlt;have qm:decide (k<p.length)=true:=decide_eq_true hlt;have HX:=Lib.hid hx;have hn:=HK.out.ok.node k x hx;obtain ⟨o1,o2⟩:=node_op hn;have HSUB:=Lib.hid (fun h=>node_sub hn h);obtain ⟨N5,hN5⟩:∃ N,wr.heap.size=N:=⟨_,rfl⟩
   obtain ⟨V,hV⟩:∃ V,V=wr.alloc (.cells #[.int .i64 x.op,.int .i64 x.col,.bool x.v.nu,.int .i64 x.v.n,.string x.v.s,.slice AU x.l.length cU,.int .i64 x.a,.int .i64 x.b] 66):=⟨_,rfl⟩
   have hbV:Below wr.heap.size wr V:=by rw[hV];exact (Below.refl _ _).alloc (Nat.le_refl _) _
   have VB:=Lib.hid (show Below w.heap.size w V by rw[hV];exact hbel.alloc hbel.size _);have VE:=Lib.hid (show Blk V N5 66 #[.int .i64 x.op,.int .i64 x.col,.bool x.v.nu,.int .i64 x.v.n,.string x.v.s,.slice AU x.l.length cU,.int .i64 x.a,.int .i64 x.b] by rw[hV,←hN5];exact Blk.new _ _ _);have VS:=Lib.hid (bS.below hbV bS.lt);have VO:=Lib.hid (own_below hown hbV);have VU:=Lib.hid (hu.below hbV);have hGN:G<N5:=by rw[←hN5];exact (hown.lt G rfl).2
   clear hx hbel hbV hu hown bS hn;go_upto_region 5 with (fail)
   rw[←hV];try simp only[hN5]
   clear hV hN5 c0 c1 c2 c3 c4 c5 c6 c7 hpx hplt;by_cases h9:x.op<9
   ·have q9:decide (x.op<9)=true:=decide_eq_true h9;obtain ⟨hLF,hll⟩:=leaf_at (key:=key) (w:=V) HE.out HK.out HX.out h9 VU.out VB.out;have HLF:=Lib.hid hLF;have HSZ:=Lib.hid (siz_leaf (cs:=cs) HX.out h9);clear hLF h9;have bb:=VE.out;have n0:=bb.cell 0;have n1:=bb.cell 1;have n2:=bb.cell 2;have n3:=bb.cell 3;have n4:=bb.cell 4;have n5:=bb.cell 5;have n6:=bb.cell 6;have n7:=bb.cell 7;simp only[jA,jZ,jS]at n0 n1 n2 n3 n4 n5 n6 n7;clear bb;have bb:=VS.out;have s0:=bb.cell 0;have s1:=bb.cell 1;simp only[jA,jZ,jS]at s0 s1;clear bb;go_wp2_with fail
    refine HLF.out.mono ?_;rintro _ w4 ⟨S,rfl,hS,hb4⟩;have hSl:=size_of hS;obtain ⟨Ln,hLn⟩:∃ q,S.size=q:=⟨_,rfl⟩
    have hLn2:Ln≤4300:=by omega
    have HLn:=Lib.hid (show (leafP cs x).length=Ln by omega);have O4:=Lib.hid (own_below VO.out hb4);have S4:=Lib.hid (VS.out.below hb4 VS.out.lt);have B4:=Lib.hid (bst VB.out hb4);clear hb4 HLF hS hSl hll;go_upto_region 11 with (fail)
    try simp only[hLn]
    clear hLn;clear n0 n1 n2 n3 n4 n5 n6 n7;clear s0 s1;obtain ⟨zo,hzo⟩:∃ zo,zs[k]?=some zo:=⟨_,List.getElem?_eq_getElem (by rw[hz.out.1];exact HLT.out)⟩
    have kc:=own_cellI O4.out hzo;have kf:=own_frozI O4.out k;have hgb:=(O4.out.lt G rfl).1;obtain ⟨zn,hzn⟩:∃ zn:Int,min ((Ln:Int)) 65537=zn:=⟨_,rfl⟩
    have HZ:=Lib.hid (SzTo.set hz.out HLT.out (z:=zn) (by rw[←hzn];rw[HSZ.out,HLn.out];omega));have kg:=grownBy_set w4 ⟨G,k,none⟩ (.int .i64 zn);obtain ⟨Y,hY⟩:∃ Y,w4.setCell ⟨G,k,none⟩ (.int .i64 zn)=Y:=⟨_,rfl⟩
    have YO:=Lib.hid (own_setI (j:=k) (z:=zn) O4.out);rw[hY]at YO kg;have YS:=Lib.hid (S4.out.row kg (show w.heap.size≠G by omega));have YB:=Lib.hid (below_row B4.out kg (show w.heap.size≤G by omega) B4.out.size);clear hzo kg;go_upto_region 12 with (fail)
    try simp only[hzn]
    try rw[hY]
    clear hY kc kf hzn;go_wp2;go_roundw
    case rel=>exact ⟨k+1,zs.set k zn,HLT.out,by go_num,HZ,YO.out,YS.out,YB.out⟩
    case measure=>have:=HLT.out;simp[intOf];omega
   ·have q9:decide (x.op<9)=false:=decide_eq_false h9;obtain ⟨a0,a1,hb⟩:=HSUB.out (by omega);obtain ⟨ea,hea⟩:=Int.eq_ofNat_of_zero_le a0;have hak:ea<k:=by omega
    have hcA:=own_cellI VO.out (hz.out.2 ea hak);have hsa:=sizI_le cs p ea;obtain ⟨sa,hsae⟩:∃ q,sizI cs p ea=q:=⟨_,rfl⟩
    rw[hsae]at hcA hsa;have qa:decide (ea<p.length)=true:=decide_eq_true (by omega);by_cases h11:x.op=11
    ·have HSZ:=Lib.hid (show sizI cs p k=min (6+sa) 65537 by
      have h:=siz_not (cs:=cs) HX.out h11 (by rw[hea];exact hak);rw[hea]at h;rw[h,Int.toNat_natCast,hsae])
     have ws:IntKind.i64.wrap (6+(sa:Int))=6+(sa:Int):=IntWalk.i64_in _ (by omega);have hea':x.a=(ea:Int):=hea;clear a0 a1 hb hea hsae h9;have bb:=VE.out;have n0:=bb.cell 0;have n1:=bb.cell 1;have n2:=bb.cell 2;have n3:=bb.cell 3;have n4:=bb.cell 4;have n5:=bb.cell 5;have n6:=bb.cell 6;have n7:=bb.cell 7;simp only[jA,jZ,jS]at n0 n1 n2 n3 n4 n5 n6 n7;clear bb;rw[h11]at n0;rw[hea']at n6;go_upto_region 11 with (fail)
     clear n0 n1 n2 n3 n4 n5 n6 n7;clear h11 hea' hcA;obtain ⟨zo,hzo⟩:∃ zo,zs[k]?=some zo:=⟨_,List.getElem?_eq_getElem (by rw[hz.out.1];exact HLT.out)⟩
     have kc:=own_cellI VO.out hzo;have kf:=own_frozI VO.out k;have hgb:=(VO.out.lt G rfl).1;obtain ⟨zn,hzn⟩:∃ zn:Int,min (6+(sa:Int)) 65537=zn:=⟨_,rfl⟩
     have HZ:=Lib.hid (SzTo.set hz.out HLT.out (z:=zn) (by rw[←hzn];rw[HSZ.out];omega));have kg:=grownBy_set V ⟨G,k,none⟩ (.int .i64 zn);obtain ⟨Y,hY⟩:∃ Y,V.setCell ⟨G,k,none⟩ (.int .i64 zn)=Y:=⟨_,rfl⟩
     have YO:=Lib.hid (own_setI (j:=k) (z:=zn) VO.out);rw[hY]at YO kg;have YS:=Lib.hid (VS.out.row kg (show w.heap.size≠G by omega));have YB:=Lib.hid (below_row VB.out kg (show w.heap.size≤G by omega) VB.out.size);clear hzo kg;go_upto_region 12 with (fail)
     try simp only[hzn]
     try rw[hY]
     clear hY kc kf hzn;go_wp2;go_roundw
     case rel=>exact ⟨k+1,zs.set k zn,HLT.out,by go_num,HZ,YO.out,YS.out,YB.out⟩
     case measure=>have:=HLT.out;simp[intOf];omega
    ·obtain ⟨b0,b1⟩:=hb h11;obtain ⟨eb,heb⟩:=Int.eq_ofNat_of_zero_le b0;have hbk:eb<k:=by omega
     have hcB:=own_cellI VO.out (hz.out.2 eb hbk);have hsb:=sizI_le cs p eb;obtain ⟨sb,hsbe⟩:∃ q,sizI cs p eb=q:=⟨_,rfl⟩
     rw[hsbe]at hcB hsb;have qb:decide (eb<p.length)=true:=decide_eq_true (by omega);obtain ⟨J,B0,hJ,hJ11,hBJ,hBW⟩:=word_at o1 o2;have HBJ:=Lib.hid hBJ;have hwl:B0.size≤4:=by rw[size_of hBW];exact wordP_len x.op
     have HSZ:=Lib.hid (show sizI cs p k=min (4+B0.size+sa+sb) 65537 by
      have h:=siz_two (cs:=cs) HX.out h9 h11 (by rw[hea];exact hak) (by rw[heb];exact hbk);rw[hea,heb]at h;rw[h,Int.toNat_natCast,Int.toNat_natCast,hsae,hsbe,size_of hBW])
     have wj:IntKind.i64.wrap (x.op - 1)=(J:Int):=by rw[hJ,show (J:Int)+1 - 1=(J:Int) by omega];exact IntWalk.i64_in _ (by omega)
     have pj:((J:Int)<11)=True:=eq_true (by omega);have qj:decide (J<11)=true:=decide_eq_true hJ11;have q11:(x.op==11)=false:=by simpa using h11
     have hea':x.a=(ea:Int):=hea;have heb':x.b=(eb:Int):=heb;have HEA:=Lib.hid hea';have HEB:=Lib.hid heb';have w1:IntKind.i64.wrap (4+(B0.size:Int))=4+(B0.size:Int):=IntWalk.i64_in _ (by omega);have w2:IntKind.i64.wrap (4+(B0.size:Int)+(sa:Int))=4+(B0.size:Int)+(sa:Int):=IntWalk.i64_in _ (by omega);have w3:IntKind.i64.wrap (4+(B0.size:Int)+(sa:Int)+(sb:Int))=4+(B0.size:Int)+(sa:Int)+(sb:Int):=IntWalk.i64_in _ (by omega);have pa:(ea<p.length)=True:=eq_true (by omega);have pa2:((ea:Int)<(p.length:Int))=True:=eq_true (by omega);have pb:(eb<p.length)=True:=eq_true (by omega);have pb2:((eb:Int)<(p.length:Int))=True:=eq_true (by omega);have HCA:=Lib.hid hcA;have HCB:=Lib.hid hcB;clear a0 a1 b0 b1 hb hea heb hsae hsbe h9 h11 hJ hBW hea' heb' hcA hcB hBJ;have bb:=VE.out;have n0:=bb.cell 0;have n1:=bb.cell 1;have n2:=bb.cell 2;have n3:=bb.cell 3;have n4:=bb.cell 4;have n5:=bb.cell 5;have n6:=bb.cell 6;have n7:=bb.cell 7;simp only[jA,jZ,jS]at n0 n1 n2 n3 n4 n5 n6 n7;clear bb;go_upto_region 6 with (fail)
     clear n0 n1 n2 n3 n4 n5 n6 n7;refine wp_region_inv (by kernel_rfl) (by kernel_rfl) (fun L a w'=>∃ u19 u20 u21 u22 u23 u24 u25 u26 u27 u28 u29 u30 u31 u32 u33 u34 u35 u36 u37 u38 u8:Value,a=⟨#[.agg #[.slice A cs.length cA,.int .i64 key],.slice (some ad) p.length cP,.pointer (some ⟨w.heap.size,0,none⟩),undef,.slice none 0 0,.slice (some ⟨G,0,none⟩) p.length p.length,.int .i64 k,.pointer (some ⟨N5,0,none⟩),u8,.slice (some ad) p.length cP,.int .i64 p.length,.slice (some ⟨G,0,none⟩) p.length p.length,.slice (some ad) p.length cP,.int .i64 p.length,.int .i64 k,.bool true,.int .i64 k,.pointer (some px),.agg #[.int .i64 x.op,.int .i64 x.col,.bool x.v.nu,.int .i64 x.v.n,.string x.v.s,.slice AU x.l.length cU,.int .i64 x.a,.int .i64 x.b],u19,u20,u21,u22,u23,u24,u25,u26,u27,u28,u29,u30,u31,u32,u33,u34,u35,u36,u37,u38,.bool false,.pointer (some ⟨N5,0,none⟩),.int .i64 x.op,.bool false,u43,u44,u45,u46,.bool false,.pointer (some ⟨N5,0,none⟩),.int .i64 x.op,.bool false,u51,u52,u53,u54,u55,u56,u57,u58,u59,u60,u61,u62,undef],[]⟩ ∧
       Below V.heap.size V w'∧GotRow (L 0) V.heap.size u19 11 9 #[.string { data:=#[101,113] },.string { data:=#[110,101] },.string { data:=#[108,116] },.string { data:=#[108,101] },.string { data:=#[103,116] },.string { data:=#[103,101] },.string { data:=#[105,110] },.string { data:=#[110,117,108,108] },.string { data:=#[97,110,100] },.string { data:=#[111,114] },.string { data:=#[110,111,116] }] w'∧Got (L 1) u20 (.pointer (some ⟨N5,0,none⟩))∧Got (L 2) u21 (.int .i64 x.op)∧Got (L 3) u22 (.int .i64 (J:Int))∧GotPtr (L 4) V.heap.size u23 J 9 #[.string { data:=#[101,113] },.string { data:=#[110,101] },.string { data:=#[108,116] },.string { data:=#[108,101] },.string { data:=#[103,116] },.string { data:=#[103,101] },.string { data:=#[105,110] },.string { data:=#[110,117,108,108] },.string { data:=#[97,110,100] },.string { data:=#[111,114] },.string { data:=#[110,111,116] }] w'∧Got (L 5) u24 (.string B0)∧Got (L 6) u25 (.int .i64 (B0.size:Int))∧Got (L 7) u26 (.int .i64 (4+(B0.size:Int)))∧Got (L 8) u27 (.slice (some ⟨G,0,none⟩) p.length p.length)∧Got (L 9) u28 (.pointer (some ⟨N5,6,none⟩))∧Got (L 10) u29 (.int .i64 (ea:Int))∧Got (L 11) u30 (.pointer (some ⟨G,ea,none⟩))∧Got (L 12) u31 (.int .i64 (sa:Int))∧Got (L 13) u32 (.int .i64 (4+(B0.size:Int)+(sa:Int)))∧Got (L 14) u33 (.slice (some ⟨G,0,none⟩) p.length p.length)∧Got (L 15) u34 (.pointer (some ⟨N5,7,none⟩))∧Got (L 16) u35 (.int .i64 (eb:Int))∧Got (L 17) u36 (.pointer (some ⟨G,eb,none⟩))∧Got (L 18) u37 (.int .i64 (sb:Int))∧Got (L 19) u38 (.int .i64 (4+(B0.size:Int)+(sa:Int)+(sb:Int)))∧Got (L 20) u8 (.int .i64 (4+(B0.size:Int)+(sa:Int)+(sb:Int))))
      ?_ ?_ ?_
     ·exact ⟨_,_,_,_,_,_,_,_,_,_,_,_,_,_,_,_,_,_,_,_,_,rfl,(Below.refl _ _).drew,nofun,nofun,nofun,nofun,nofun,nofun,nofun,nofun,nofun,nofun,nofun,nofun,nofun,nofun,nofun,nofun,nofun,nofun,nofun,nofun,nofun⟩
     ·refine ⟨?_,?_,?_,?_,?_,?_,?_,?_,?_,?_,?_,?_,?_,?_,?_,?_,?_,?_,?_,?_,?_,trivial⟩
      ·refine fun L a w'=>ex16 fun _ _ _ _ _ _ _ _ _ _ _ _ _ _ _ _=>ex4 fun _ _ _ _=>ex1 fun _=>un16 fun ha hb g0 g1 g2 g3 g4 g5 g6 g7 g8 g9 g10 g11 g12 g13=>un4 fun g14 g15 g16 g17=>un2 fun g18 g19 g20 hl hd K hK=>?_;subst ha
       dsimp only at hK ⊢;go_wp2_with fail
       refine (pwords_any w').mono ?_;rintro _ w4 ⟨gq,rfl,hg,hB,hb4⟩;exact hK _ _ ⟨_,_,_,_,_,_,_,_,_,_,_,_,_,_,_,_,_,_,_,_,_,rfl,bst hb hb4,fun _=>⟨gq,rfl,Nat.le_trans hb.size hg,hB⟩,g1,g2,g3,g4.below hb4,g5,g6,g7,g8,g9,g10,g11,g12,g13,g14,g15,g16,g17,g18,g19,g20⟩
      ·refine fun L a w'=>ex16 fun _ _ _ _ _ _ _ _ _ _ _ _ _ _ _ _=>ex4 fun _ _ _ _=>ex1 fun _=>un16 fun ha hb g0 g1 g2 g3 g4 g5 g6 g7 g8 g9 g10 g11 g12 g13=>un4 fun g14 g15 g16 g17=>un2 fun g18 g19 g20 hl hd K hK=>?_;subst ha
       dsimp only at hK ⊢;go_simp;exact hK _ _ ⟨_,_,_,_,_,_,_,_,_,_,_,_,_,_,_,_,_,_,_,_,_,rfl,hb,g0,fun _=>rfl,g2,g3,g4,g5,g6,g7,g8,g9,g10,g11,g12,g13,g14,g15,g16,g17,g18,g19,g20⟩
      ·refine fun L a w'=>ex16 fun _ _ _ _ _ _ _ _ _ _ _ _ _ _ _ _=>ex4 fun _ _ _ _=>ex1 fun _=>un16 fun ha hb g0 g1 g2 g3 g4 g5 g6 g7 g8 g9 g10 g11 g12 g13=>un4 fun g14 g15 g16 g17=>un2 fun g18 g19 g20 hl hd K hK=>?_;subst ha
       simp[Region.binds]at hd;dsimp only at hK ⊢;have e1:=g1 (by simp[hd]);subst e1;have bb:=VE.out.below hb VE.out.lt;have c0:=bb.cell 0;have c1:=bb.cell 1;have c2:=bb.cell 2;have c3:=bb.cell 3;have c4:=bb.cell 4;have c5:=bb.cell 5;have c6:=bb.cell 6;have c7:=bb.cell 7;simp only[jA,jZ,jS]at c0 c1 c2 c3 c4 c5 c6 c7;rw[HEA.out]at c6;rw[HEB.out]at c7;clear bb;go_simp;exact hK _ _ ⟨_,_,_,_,_,_,_,_,_,_,_,_,_,_,_,_,_,_,_,_,_,rfl,hb,g0,g1,fun _=>rfl,g3,g4,g5,g6,g7,g8,g9,g10,g11,g12,g13,g14,g15,g16,g17,g18,g19,g20⟩
      ·refine fun L a w'=>ex16 fun _ _ _ _ _ _ _ _ _ _ _ _ _ _ _ _=>ex4 fun _ _ _ _=>ex1 fun _=>un16 fun ha hb g0 g1 g2 g3 g4 g5 g6 g7 g8 g9 g10 g11 g12 g13=>un4 fun g14 g15 g16 g17=>un2 fun g18 g19 g20 hl hd K hK=>?_;subst ha
       simp[Region.binds]at hd;dsimp only at hK ⊢;have e2:=g2 (by simp[hd]);subst e2;go_simp;exact hK _ _ ⟨_,_,_,_,_,_,_,_,_,_,_,_,_,_,_,_,_,_,_,_,_,rfl,hb,g0,g1,g2,fun _=>rfl,g4,g5,g6,g7,g8,g9,g10,g11,g12,g13,g14,g15,g16,g17,g18,g19,g20⟩
      ·refine fun L a w'=>ex16 fun _ _ _ _ _ _ _ _ _ _ _ _ _ _ _ _=>ex4 fun _ _ _ _=>ex1 fun _=>un16 fun ha hb g0 g1 g2 g3 g4 g5 g6 g7 g8 g9 g10 g11 g12 g13=>un4 fun g14 g15 g16 g17=>un2 fun g18 g19 g20 hl hd K hK=>?_;subst ha
       simp[Region.binds]at hd;dsimp only at hK ⊢;have e3:=g3 (by simp[hd]);subst e3;obtain ⟨gq,hg0,hgN,hgB⟩:=g0 (by simp[hd]);subst hg0;go_simp;exact hK _ _ ⟨_,_,_,_,_,_,_,_,_,_,_,_,_,_,_,_,_,_,_,_,_,rfl,hb,fun _=>⟨gq,rfl,hgN,hgB⟩,g1,g2,g3,fun _=>⟨gq,rfl,hgN,hgB⟩,g5,g6,g7,g8,g9,g10,g11,g12,g13,g14,g15,g16,g17,g18,g19,g20⟩
      ·refine fun L a w'=>ex16 fun _ _ _ _ _ _ _ _ _ _ _ _ _ _ _ _=>ex4 fun _ _ _ _=>ex1 fun _=>un16 fun ha hb g0 g1 g2 g3 g4 g5 g6 g7 g8 g9 g10 g11 g12 g13=>un4 fun g14 g15 g16 g17=>un2 fun g18 g19 g20 hl hd K hK=>?_;subst ha
       simp[Region.binds]at hd;dsimp only at hK ⊢;obtain ⟨gq,hg0,hgN,hgB⟩:=g4 (by simp[hd]);subst hg0;have cc:=(hgB.cell J).trans HBJ.out;go_simp;exact hK _ _ ⟨_,_,_,_,_,_,_,_,_,_,_,_,_,_,_,_,_,_,_,_,_,rfl,hb,g0,g1,g2,g3,fun _=>⟨gq,rfl,hgN,hgB⟩,fun _=>rfl,g6,g7,g8,g9,g10,g11,g12,g13,g14,g15,g16,g17,g18,g19,g20⟩
      ·refine fun L a w'=>ex16 fun _ _ _ _ _ _ _ _ _ _ _ _ _ _ _ _=>ex4 fun _ _ _ _=>ex1 fun _=>un16 fun ha hb g0 g1 g2 g3 g4 g5 g6 g7 g8 g9 g10 g11 g12 g13=>un4 fun g14 g15 g16 g17=>un2 fun g18 g19 g20 hl hd K hK=>?_;subst ha
       simp[Region.binds]at hd;dsimp only at hK ⊢;have e5:=g5 (by simp[hd]);subst e5;go_simp;exact hK _ _ ⟨_,_,_,_,_,_,_,_,_,_,_,_,_,_,_,_,_,_,_,_,_,rfl,hb,g0,g1,g2,g3,g4,g5,fun _=>rfl,g7,g8,g9,g10,g11,g12,g13,g14,g15,g16,g17,g18,g19,g20⟩
      ·refine fun L a w'=>ex16 fun _ _ _ _ _ _ _ _ _ _ _ _ _ _ _ _=>ex4 fun _ _ _ _=>ex1 fun _=>un16 fun ha hb g0 g1 g2 g3 g4 g5 g6 g7 g8 g9 g10 g11 g12 g13=>un4 fun g14 g15 g16 g17=>un2 fun g18 g19 g20 hl hd K hK=>?_;subst ha
       simp[Region.binds]at hd;dsimp only at hK ⊢;have e6:=g6 (by simp[hd]);subst e6;go_simp;exact hK _ _ ⟨_,_,_,_,_,_,_,_,_,_,_,_,_,_,_,_,_,_,_,_,_,rfl,hb,g0,g1,g2,g3,g4,g5,g6,fun _=>rfl,g8,g9,g10,g11,g12,g13,g14,g15,g16,g17,g18,g19,g20⟩
      ·refine fun L a w'=>ex16 fun _ _ _ _ _ _ _ _ _ _ _ _ _ _ _ _=>ex4 fun _ _ _ _=>ex1 fun _=>un16 fun ha hb g0 g1 g2 g3 g4 g5 g6 g7 g8 g9 g10 g11 g12 g13=>un4 fun g14 g15 g16 g17=>un2 fun g18 g19 g20 hl hd K hK=>?_;subst ha
       dsimp only at hK ⊢;go_simp;exact hK _ _ ⟨_,_,_,_,_,_,_,_,_,_,_,_,_,_,_,_,_,_,_,_,_,rfl,hb,g0,g1,g2,g3,g4,g5,g6,g7,fun _=>rfl,g9,g10,g11,g12,g13,g14,g15,g16,g17,g18,g19,g20⟩
      ·refine fun L a w'=>ex16 fun _ _ _ _ _ _ _ _ _ _ _ _ _ _ _ _=>ex4 fun _ _ _ _=>ex1 fun _=>un16 fun ha hb g0 g1 g2 g3 g4 g5 g6 g7 g8 g9 g10 g11 g12 g13=>un4 fun g14 g15 g16 g17=>un2 fun g18 g19 g20 hl hd K hK=>?_;subst ha
       dsimp only at hK ⊢;go_simp;exact hK _ _ ⟨_,_,_,_,_,_,_,_,_,_,_,_,_,_,_,_,_,_,_,_,_,rfl,hb,g0,g1,g2,g3,g4,g5,g6,g7,g8,fun _=>rfl,g10,g11,g12,g13,g14,g15,g16,g17,g18,g19,g20⟩
      ·refine fun L a w'=>ex16 fun _ _ _ _ _ _ _ _ _ _ _ _ _ _ _ _=>ex4 fun _ _ _ _=>ex1 fun _=>un16 fun ha hb g0 g1 g2 g3 g4 g5 g6 g7 g8 g9 g10 g11 g12 g13=>un4 fun g14 g15 g16 g17=>un2 fun g18 g19 g20 hl hd K hK=>?_;subst ha
       simp[Region.binds]at hd;dsimp only at hK ⊢;have e9:=g9 (by simp[hd]);subst e9;have bb:=VE.out.below hb VE.out.lt;have c0:=bb.cell 0;have c1:=bb.cell 1;have c2:=bb.cell 2;have c3:=bb.cell 3;have c4:=bb.cell 4;have c5:=bb.cell 5;have c6:=bb.cell 6;have c7:=bb.cell 7;simp only[jA,jZ,jS]at c0 c1 c2 c3 c4 c5 c6 c7;rw[HEA.out]at c6;rw[HEB.out]at c7;clear bb;go_simp;exact hK _ _ ⟨_,_,_,_,_,_,_,_,_,_,_,_,_,_,_,_,_,_,_,_,_,rfl,hb,g0,g1,g2,g3,g4,g5,g6,g7,g8,g9,fun _=>rfl,g11,g12,g13,g14,g15,g16,g17,g18,g19,g20⟩
      ·refine fun L a w'=>ex16 fun _ _ _ _ _ _ _ _ _ _ _ _ _ _ _ _=>ex4 fun _ _ _ _=>ex1 fun _=>un16 fun ha hb g0 g1 g2 g3 g4 g5 g6 g7 g8 g9 g10 g11 g12 g13=>un4 fun g14 g15 g16 g17=>un2 fun g18 g19 g20 hl hd K hK=>?_;subst ha
       simp[Region.binds]at hd;dsimp only at hK ⊢;have e8:=g8 (by simp[hd]);subst e8;have e10:=g10 (by simp[hd]);subst e10;go_simp;exact hK _ _ ⟨_,_,_,_,_,_,_,_,_,_,_,_,_,_,_,_,_,_,_,_,_,rfl,hb,g0,g1,g2,g3,g4,g5,g6,g7,g8,g9,g10,fun _=>rfl,g12,g13,g14,g15,g16,g17,g18,g19,g20⟩
      ·refine fun L a w'=>ex16 fun _ _ _ _ _ _ _ _ _ _ _ _ _ _ _ _=>ex4 fun _ _ _ _=>ex1 fun _=>un16 fun ha hb g0 g1 g2 g3 g4 g5 g6 g7 g8 g9 g10 g11 g12 g13=>un4 fun g14 g15 g16 g17=>un2 fun g18 g19 g20 hl hd K hK=>?_;subst ha
       simp[Region.binds]at hd;dsimp only at hK ⊢;have e11:=g11 (by simp[hd]);subst e11;have cc:=(hb.cell (p:=⟨G,ea,none⟩) (by show G<_;have:=(VO.out.lt G rfl).2;exact this)).trans HCA.out;go_simp;exact hK _ _ ⟨_,_,_,_,_,_,_,_,_,_,_,_,_,_,_,_,_,_,_,_,_,rfl,hb,g0,g1,g2,g3,g4,g5,g6,g7,g8,g9,g10,g11,fun _=>rfl,g13,g14,g15,g16,g17,g18,g19,g20⟩
      ·refine fun L a w'=>ex16 fun _ _ _ _ _ _ _ _ _ _ _ _ _ _ _ _=>ex4 fun _ _ _ _=>ex1 fun _=>un16 fun ha hb g0 g1 g2 g3 g4 g5 g6 g7 g8 g9 g10 g11 g12 g13=>un4 fun g14 g15 g16 g17=>un2 fun g18 g19 g20 hl hd K hK=>?_;subst ha
       simp[Region.binds]at hd;dsimp only at hK ⊢;have e7:=g7 (by simp[hd]);subst e7;have e12:=g12 (by simp[hd]);subst e12;go_simp;exact hK _ _ ⟨_,_,_,_,_,_,_,_,_,_,_,_,_,_,_,_,_,_,_,_,_,rfl,hb,g0,g1,g2,g3,g4,g5,g6,g7,g8,g9,g10,g11,g12,fun _=>rfl,g14,g15,g16,g17,g18,g19,g20⟩
      ·refine fun L a w'=>ex16 fun _ _ _ _ _ _ _ _ _ _ _ _ _ _ _ _=>ex4 fun _ _ _ _=>ex1 fun _=>un16 fun ha hb g0 g1 g2 g3 g4 g5 g6 g7 g8 g9 g10 g11 g12 g13=>un4 fun g14 g15 g16 g17=>un2 fun g18 g19 g20 hl hd K hK=>?_;subst ha
       dsimp only at hK ⊢;go_simp;exact hK _ _ ⟨_,_,_,_,_,_,_,_,_,_,_,_,_,_,_,_,_,_,_,_,_,rfl,hb,g0,g1,g2,g3,g4,g5,g6,g7,g8,g9,g10,g11,g12,g13,fun _=>rfl,g15,g16,g17,g18,g19,g20⟩
      ·refine fun L a w'=>ex16 fun _ _ _ _ _ _ _ _ _ _ _ _ _ _ _ _=>ex4 fun _ _ _ _=>ex1 fun _=>un16 fun ha hb g0 g1 g2 g3 g4 g5 g6 g7 g8 g9 g10 g11 g12 g13=>un4 fun g14 g15 g16 g17=>un2 fun g18 g19 g20 hl hd K hK=>?_;subst ha
       dsimp only at hK ⊢;go_simp;exact hK _ _ ⟨_,_,_,_,_,_,_,_,_,_,_,_,_,_,_,_,_,_,_,_,_,rfl,hb,g0,g1,g2,g3,g4,g5,g6,g7,g8,g9,g10,g11,g12,g13,g14,fun _=>rfl,g16,g17,g18,g19,g20⟩
      ·refine fun L a w'=>ex16 fun _ _ _ _ _ _ _ _ _ _ _ _ _ _ _ _=>ex4 fun _ _ _ _=>ex1 fun _=>un16 fun ha hb g0 g1 g2 g3 g4 g5 g6 g7 g8 g9 g10 g11 g12 g13=>un4 fun g14 g15 g16 g17=>un2 fun g18 g19 g20 hl hd K hK=>?_;subst ha
       simp[Region.binds]at hd;dsimp only at hK ⊢;have e15:=g15 (by simp[hd]);subst e15;have bb:=VE.out.below hb VE.out.lt;have c0:=bb.cell 0;have c1:=bb.cell 1;have c2:=bb.cell 2;have c3:=bb.cell 3;have c4:=bb.cell 4;have c5:=bb.cell 5;have c6:=bb.cell 6;have c7:=bb.cell 7;simp only[jA,jZ,jS]at c0 c1 c2 c3 c4 c5 c6 c7;rw[HEA.out]at c6;rw[HEB.out]at c7;clear bb;go_simp;exact hK _ _ ⟨_,_,_,_,_,_,_,_,_,_,_,_,_,_,_,_,_,_,_,_,_,rfl,hb,g0,g1,g2,g3,g4,g5,g6,g7,g8,g9,g10,g11,g12,g13,g14,g15,fun _=>rfl,g17,g18,g19,g20⟩
      ·refine fun L a w'=>ex16 fun _ _ _ _ _ _ _ _ _ _ _ _ _ _ _ _=>ex4 fun _ _ _ _=>ex1 fun _=>un16 fun ha hb g0 g1 g2 g3 g4 g5 g6 g7 g8 g9 g10 g11 g12 g13=>un4 fun g14 g15 g16 g17=>un2 fun g18 g19 g20 hl hd K hK=>?_;subst ha
       simp[Region.binds]at hd;dsimp only at hK ⊢;have e14:=g14 (by simp[hd]);subst e14;have e16:=g16 (by simp[hd]);subst e16;go_simp;exact hK _ _ ⟨_,_,_,_,_,_,_,_,_,_,_,_,_,_,_,_,_,_,_,_,_,rfl,hb,g0,g1,g2,g3,g4,g5,g6,g7,g8,g9,g10,g11,g12,g13,g14,g15,g16,fun _=>rfl,g18,g19,g20⟩
      ·refine fun L a w'=>ex16 fun _ _ _ _ _ _ _ _ _ _ _ _ _ _ _ _=>ex4 fun _ _ _ _=>ex1 fun _=>un16 fun ha hb g0 g1 g2 g3 g4 g5 g6 g7 g8 g9 g10 g11 g12 g13=>un4 fun g14 g15 g16 g17=>un2 fun g18 g19 g20 hl hd K hK=>?_;subst ha
       simp[Region.binds]at hd;dsimp only at hK ⊢;have e17:=g17 (by simp[hd]);subst e17;have cc:=(hb.cell (p:=⟨G,eb,none⟩) (by show G<_;have:=(VO.out.lt G rfl).2;exact this)).trans HCB.out;go_simp;exact hK _ _ ⟨_,_,_,_,_,_,_,_,_,_,_,_,_,_,_,_,_,_,_,_,_,rfl,hb,g0,g1,g2,g3,g4,g5,g6,g7,g8,g9,g10,g11,g12,g13,g14,g15,g16,g17,fun _=>rfl,g19,g20⟩
      ·refine fun L a w'=>ex16 fun _ _ _ _ _ _ _ _ _ _ _ _ _ _ _ _=>ex4 fun _ _ _ _=>ex1 fun _=>un16 fun ha hb g0 g1 g2 g3 g4 g5 g6 g7 g8 g9 g10 g11 g12 g13=>un4 fun g14 g15 g16 g17=>un2 fun g18 g19 g20 hl hd K hK=>?_;subst ha
       simp[Region.binds]at hd;dsimp only at hK ⊢;have e13:=g13 (by simp[hd]);subst e13;have e18:=g18 (by simp[hd]);subst e18;go_simp;exact hK _ _ ⟨_,_,_,_,_,_,_,_,_,_,_,_,_,_,_,_,_,_,_,_,_,rfl,hb,g0,g1,g2,g3,g4,g5,g6,g7,g8,g9,g10,g11,g12,g13,g14,g15,g16,g17,g18,fun _=>rfl,g20⟩
      ·refine fun L a w'=>ex16 fun _ _ _ _ _ _ _ _ _ _ _ _ _ _ _ _=>ex4 fun _ _ _ _=>ex1 fun _=>un16 fun ha hb g0 g1 g2 g3 g4 g5 g6 g7 g8 g9 g10 g11 g12 g13=>un4 fun g14 g15 g16 g17=>un2 fun g18 g19 g20 hl hd K hK=>?_;subst ha
       simp[Region.binds]at hd;dsimp only at hK ⊢;have e19:=g19 (by simp[hd]);subst e19;go_simp;exact hK _ _ ⟨_,_,_,_,_,_,_,_,_,_,_,_,_,_,_,_,_,_,_,_,_,rfl,hb,g0,g1,g2,g3,g4,g5,g6,g7,g8,g9,g10,g11,g12,g13,g14,g15,g16,g17,g18,g19,fun _=>rfl⟩
     intro a w7 hI
     revert hI;refine ex16 fun _ _ _ _ _ _ _ _ _ _ _ _ _ _ _ _=>ex4 fun _ _ _ _=>ex1 fun _=>un16 fun ha hb g0 g1 g2 g3 g4 g5 g6 g7 g8 g9 g10 g11 g12 g13=>un4 fun g14 g15 g16 g17=>un2 fun g18 g19 g20=>?_;subst ha
     have e20:=g20 rfl;subst e20;have O7:=Lib.hid (own_below VO.out hb);have S7:=Lib.hid (VS.out.below hb VS.out.lt);have B7:=Lib.hid (bst VB.out hb);clear g0 g1 g2 g3 g4 g5 g6 g7 g8 g9 g10 g11 g12 g13 g14 g15 g16 g17 g18 g19 g20 hb w1 w2 w3;go_upto_region 11 with (fail)
     obtain ⟨zo,hzo⟩:∃ zo,zs[k]?=some zo:=⟨_,List.getElem?_eq_getElem (by rw[hz.out.1];exact HLT.out)⟩
     have kc:=own_cellI O7.out hzo;have kf:=own_frozI O7.out k;have hgb:=(O7.out.lt G rfl).1;obtain ⟨zn,hzn⟩:∃ zn:Int,min (4+(B0.size:Int)+(sa:Int)+(sb:Int)) 65537=zn:=⟨_,rfl⟩
     have HZ:=Lib.hid (SzTo.set hz.out HLT.out (z:=zn) (by rw[←hzn];rw[HSZ.out];omega));have kg:=grownBy_set w7 ⟨G,k,none⟩ (.int .i64 zn);obtain ⟨Y,hY⟩:∃ Y,w7.setCell ⟨G,k,none⟩ (.int .i64 zn)=Y:=⟨_,rfl⟩
     have YO:=Lib.hid (own_setI (j:=k) (z:=zn) O7.out);rw[hY]at YO kg;have YS:=Lib.hid (S7.out.row kg (show w.heap.size≠G by omega));have YB:=Lib.hid (below_row B7.out kg (show w.heap.size≤G by omega) B7.out.size);clear hzo kg;go_upto_region 12 with (fail)
     try simp only[hzn]
     try rw[hY]
     clear hY kc kf hzn;go_wp2;go_roundw
     case rel=>exact ⟨k+1,zs.set k zn,HLT.out,by go_num,HZ,YO.out,YS.out,YB.out⟩
     case measure=>have:=HLT.out;simp[intOf];omega
  ·have qm:decide (k<p.length)=false:=decide_eq_false hlt;have HZ:=Lib.hid (show zs=szL cs p by
    have h:=hz.out;rw[show k=p.length by omega]at h;exact h.all)
   have HR:=Lib.hid (RetRow.mk_ hbel hown rfl (by rw[HZ.out]));clear hbel hown bS;go_wp2;go_ret;exact HR.out
set_option linter.unusedVariables false
theorem isB_below {B b:Nat} {bs:List Value} {w w':World} (h:IsB B b bs w) (hb:Below w.heap.size w w'):IsB B b bs w':=by
 have g:∀ p,Lib.BuilderAt 61 5 B b p bs w→Lib.BuilderAt 61 5 B b p bs w':=fun p hp=>by
  have hlt:=hp.lt;obtain ⟨h1,v,h2,h3,h4⟩:=hp;exact ⟨h1,v,(hb.block b hlt).trans h2,own_below h3 hb,h4⟩
 exact h.imp (g _) (g _)
theorem isB_len {B b:Nat} {bs:List Value} {w:World} (h:IsB B b bs w):b<w.heap.size:=by
 rcases h with h|h
 ·exact h.lt
 ·exact h.lt
theorem byteCells_len (l:List UInt8):(Lib.byteCells l).length=l.length:=by unfold Lib.byteCells;rw[List.length_map]
theorem bytes_next {l:List UInt8} {s:ByteArray} {m:List UInt8} (h:l++s.data.toList=m):Lib.byteCells l++Lib.strCells s=Lib.byteCells m:=by
 rw[Lib.strCells_eq,←Lib.byteCells_append,h]
def RetW (B b:Nat) (m:List UInt8) (s:ByteArray) (w:World) (e:Ending) (w':World):Prop:=e=.returned (.tuple #[.int .i64 s.size,.nilIface])∧IsB B b (Lib.byteCells m) w'∧Below B w w'∧KeepsB b w w'∧B≤w'.heap.size
theorem write_any {B b:Nat} {l m:List UInt8} (s:ByteArray) (w:World) (h:IsB B b (Lib.byteCells l) w) (hm:l++s.data.toList=m) (hlen:l.length+s.size≤1000000) (hBw:B≤w.heap.size) :
  Calls Tryz.prog 51 #[.pointer (some ⟨b,0,none⟩),.string s] w (RetW B b m s w) :=
 (writeString_any B b _ s w h (by rw[byteCells_len];omega) hBw).mono fun _ _ ⟨h1,h2,h3,h4⟩=>⟨h1,by rw[←bytes_next hm];exact h2,h3,h4,Nat.le_trans hBw h3.size⟩
theorem GotRow.keepB {p:Bool} {N b:Nat} {u:Value} {n:Nat} {T:TypeId} {cs:Array Value} {w w':World} (h:GotRow p N u n T cs w) (hk:KeepsB b w w') (hT:T≠5) (hN:b<N):GotRow p N u n T cs w':=fun hp=>by
 obtain ⟨A,e,hA,hB⟩:=h hp;exact ⟨A,e,hA,hk _ _ _ (by omega) hT hB⟩
theorem GotPtr.keepB {p:Bool} {N b:Nat} {u:Value} {k:Nat} {T:TypeId} {cs:Array Value} {w w':World} (h:GotPtr p N u k T cs w) (hk:KeepsB b w w') (hT:T≠5) (hN:b<N):GotPtr p N u k T cs w':=fun hp=>by
 obtain ⟨A,e,hA,hB⟩:=h hp;exact ⟨A,e,hA,hk _ _ _ (by omega) hT hB⟩
end Go.Proofs.YtjnamjkdjcndiaaGreatDoor
