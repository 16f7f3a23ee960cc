/-
 The contract of ref21.EvalRow.
-/
import Derived.Test.YtjnamjkdjcndiaaGreatDoorM23
import Derived.Test.YtjnamjkdjcndiaaGreatDoorM14
namespace Go.Proofs.YtjnamjkdjcndiaaGreatDoor
open Go.RowKit Go.Sort

theorem info_intE:(Tryz.prog.info? 3).map (fun i=>(i.zero,i.size,i.bytes))=some (some (.int .i64 0),1,8):=by kernel_rfl
def lfR (cs:List Col) (row:List Vl) (x:Nd):Int :=
 match cs[x.col.toNat]?,row[x.col.toNat]? with
 | some c,some v=>leafTr c.ty x v
 | _,_=>0
theorem lfR_eq {cs:List Col} {row:List Vl} {x:Nd} {K:Nat} {c:Col} {v:Vl} (h:x.col=(K:Int)) (hc:cs[K]?=some c) (hv:row[K]?=some v):lfR cs row x=leafTr c.ty x v:=by
 unfold lfR;rw[h,Int.toNat_natCast,hc,hv]
theorem lfR_in (cs:List Col) (row:List Vl) (x:Nd):0≤lfR cs row x∧lfR cs row x≤2:=by
 unfold lfR
 split
 ·exact leafTr_in _ _ _
 ·omega
theorem lfR_nrm (cs:List Col) (row:List Vl) (x:Nd) (h:x.op<9):lfR cs row (nrm x)=lfR cs row x:=by
 unfold lfR
 show (match cs[x.col.toNat]?,row[x.col.toNat]? with | some c,some v=>leafTr c.ty (nrm x) v | _,_=>0)=_
 split
 ·rw[leafTr_nrm _ _ _ h]
 ·rfl
theorem trus_in {lf:Nd→Int} (hl:∀ x,0≤lf x∧lf x≤2) (p:List Nd):∀ (k:Nat) (j:Nat),0≤(trus lf p k).getD j 0∧(trus lf p k).getD j 0≤2
 | 0,j=>by show 0≤(([]:List Int)[j]?).getD 0∧(([]:List Int)[j]?).getD 0≤2;simp
 | k+1,j=>by
  have ih:=trus_in hl p k;show 0≤(trus lf p k ++ [truO lf (trus lf p k) p[k]?]).getD j 0∧(trus lf p k ++ [truO lf (trus lf p k) p[k]?]).getD j 0≤2
  rw[List.getD_eq_getElem?_getD];by_cases h:j<k
  ·rw[List.getElem?_append_left (by rw[trus_len];exact h),←List.getD_eq_getElem?_getD];exact ih j
  ·by_cases h2:j=k
   ·rw[List.getElem?_append_right (by rw[trus_len];omega),trus_len,h2,Nat.sub_self];show 0≤truO lf (trus lf p k) p[k]?∧truO lf (trus lf p k) p[k]?≤2
    cases p[k]? with
    | none=>show (0:Int)≤0∧(0:Int)≤2;decide
    | some x =>
     show 0≤truN lf (trus lf p k) x∧truN lf (trus lf p k) x≤2
     unfold truN
     split
     ·exact andT_in _ _
     ·split
      ·exact orT_in _ _
      ·split
       ·exact notT_in (ih _).1 (ih _).2
       ·exact hl x
   ·rw[List.getElem?_append_right (by rw[trus_len];omega),trus_len,List.getElem?_eq_none (by simp;omega)];simp
theorem truI_in {lf:Nd→Int} (hl:∀ x,0≤lf x∧lf x≤2) (p:List Nd) (i:Nat):0≤truI lf p i∧truI lf p i≤2:=trus_in hl p _ _
theorem tr_leaf {lf:Nd→Int} {p:List Nd} {i:Nat} {x:Nd} (hx:p[i]?=some x) (h9:x.op<9):truI lf p i=lf x:=by
 rw[truI_eq hx];unfold truN;rw[if_neg (by omega),if_neg (by omega),if_neg (by omega)]
theorem tr_not {lf:Nd→Int} {p:List Nd} {i a:Nat} {x:Nd} (hx:p[i]?=some x) (h:x.op=11) (ha:x.a=(a:Int)) (hi:a<i):truI lf p i=notT (truI lf p a):=by
 rw[truI_eq hx];unfold truN;rw[if_neg (by omega),if_neg (by omega),if_pos h,ha,Int.toNat_natCast,trus_get lf p hi]
theorem tr_and {lf:Nd→Int} {p:List Nd} {i a b:Nat} {x:Nd} (hx:p[i]?=some x) (h:x.op=9) (ha:x.a=(a:Int)) (hi:a<i) (hb:x.b=(b:Int)) (hj:b<i):truI lf p i=andT (truI lf p a) (truI lf p b):=by
 rw[truI_eq hx];unfold truN;rw[if_pos h,ha,hb,Int.toNat_natCast,Int.toNat_natCast,trus_get lf p hi,trus_get lf p hj]
theorem tr_or {lf:Nd→Int} {p:List Nd} {i a b:Nat} {x:Nd} (hx:p[i]?=some x) (h:x.op=10) (ha:x.a=(a:Int)) (hi:a<i) (hb:x.b=(b:Int)) (hj:b<i):truI lf p i=orT (truI lf p a) (truI lf p b):=by
 rw[truI_eq hx];unfold truN;rw[if_neg (by omega),if_pos h,ha,hb,Int.toNat_natCast,Int.toNat_natCast,trus_get lf p hi,trus_get lf p hj]
def TrTo (lf:Nd→Int) (p:List Nd) (zs:List Int) (k:Nat):Prop:=zs.length=p.length∧∀ j,j<k→zs[j]?=some (truI lf p j)
theorem TrTo.set {lf:Nd→Int} {p:List Nd} {zs:List Int} {k:Nat} (h:TrTo lf p zs k) (hk:k<p.length) {z:Int} (hz:z=truI lf p k):TrTo lf p (zs.set k z) (k+1):=by
 refine ⟨by rw[List.length_set];exact h.1,fun j hj=>?_⟩
 rw[List.getElem?_set];by_cases e:k=j
 ·subst e;rw[if_pos rfl,if_pos (by rw[h.1];exact hk),hz]
 ·rw[if_neg e];exact h.2 j (by omega)
def evV (cs:List Col) (row:List Vl) (p:List Nd):Int:=if p.length=0 then 1 else truI (lfR cs row) p (p.length - 1)
set_option maxRecDepth 100000 in
set_option maxHeartbeats 8000000 in
theorem revalr_any (v pv rv:Value) (key:Int) (cs:List Col) (p:List Nd) (row:List Vl) (w:World) (hs:Sl w 4 v cs.length (cols cs)) (hp:SlNd w pv p) (hr:Sl w 3 rv row.length (vls row)) (hrl:row.length=cs.length) (hk:PredOk cs p) (hcl:cs.length≤1000) :
  Calls Tryz.prog 40 #[.agg #[v,.int .i64 key],pv,rv] w fun e w'=>e=.returned (.int .i64 (evV cs row p))∧Below w.heap.size w w':=by
 obtain ⟨A,cA,rfl,hc1,hc2⟩:=hs.form;obtain ⟨AP,cP,rfl,hc3,hc4⟩:=hp.form;obtain ⟨AR,cR,rfl,hc5,hc6⟩:=hr.form;have HSL:=Lib.hid hs;have HP:=Lib.hid hp;have HRW:=Lib.hid hr;have HK:=Lib.hid hk;have hp64:p.length≤64:=hk.len;obtain ⟨lf,hlf⟩:∃ lf,lfR cs row=lf:=⟨_,rfl⟩
 have HLI:=Lib.hid (show ∀ i,0≤truI lf p i∧truI lf p i≤2 from fun i=>by rw[←hlf];exact truI_in (lfR_in cs row) p i);have HLF:=Lib.hid (fun (x:Nd) (K:Nat) (c:Col) (z:Vl) (h:x.col=(K:Int)) (hc:cs[K]?=some c) (hv:row[K]?=some z)=>show lf x=leafTr c.ty x z by rw[←hlf];exact lfR_eq h hc hv);have HEV:=Lib.hid (show evV cs row p=if p.length=0 then 1 else truI lf p (p.length - 1) by unfold evV;rw[hlf]);obtain ⟨E,hE⟩:∃ E,evV cs row p=E:=⟨_,rfl⟩
 rw[hE]at HEV ⊢;have HRL:=Lib.hid hrl;clear hE hlf hs hp hr hk hrl;obtain ⟨W,hW⟩:∃ W,W=w.alloc (.cells #[.slice A cs.length cA,.int .i64 key] 28):=⟨_,rfl⟩
 have hb0:Below w.heap.size w W:=by rw[hW];exact (Below.refl _ _).alloc (Nat.le_refl _) _
 have bS:Blk W w.heap.size 28 #[.slice A cs.length cA,.int .i64 key]:=by rw[hW];exact Blk.new _ _ _
 by_cases hp0:p.length=0
 ·have q0:((p.length:Int)==0)=true:=by rw[hp0];rfl
  have q0':(p.length==0)=true:=by rw[hp0];rfl
  have HB:=Lib.hid hb0;have HZ:=Lib.hid (show E=1 by rw[HEV.out,if_pos hp0]);clear hb0 bS hp0;go_enter Tryz.func40,Tryz.ntmps40
  go_upto_region 1 with (fail)
  rw[←hW];clear hW;go_wp2;go_ret;exact ⟨by rw[HZ.out];rfl,HB.out⟩
 have q0:((p.length:Int)==0)=false:=by rw[beq_eq_false_iff_ne];omega
 have q0':(p.length==0)=false:=by rw[beq_eq_false_iff_ne];omega
 have HE:=Lib.hid (show E=truI lf p (p.length - 1) by rw[HEV.out,if_neg hp0]);clear HEV;obtain ⟨i0,hi,hz0,hz1,hz2⟩:=info_parts info_intE;obtain ⟨W2,hrun,r1,r2⟩:=run_make_full (P:=Tryz.prog) W W.heap.size 36 3 i0 (.int .i64 0) 1 Tryz.underlying36 hi hz0 hz1 .i64 .i64 p.length (by rw[hz2];omega) (by unfold maxLen;omega) (Nat.le_refl _);have hb1:Below W.heap.size W W2:=⟨r2.os,r2.tape,r2.output,r2.size,fun i hi=>r2.block i hi (by simp)⟩
 rw[made_ints]at r1;obtain ⟨G,hG⟩:∃ G,W.heap.size=G:=⟨_,rfl⟩
 rw[hG]at hrun r1;have hWG:w.heap.size<G:=by rw[←hG];exact bS.lt
 have HO:=Lib.hid (own_mono r1 (Nat.le_of_lt hWG));have HS:=Lib.hid (bS.below hb1 bS.lt);have HB:=Lib.hid (bst hb0 hb1);clear hb0 bS hi hz0 hz1 hz2 r1 r2 hb1;go_enter Tryz.func40,Tryz.ntmps40
 go_upto_region 1 with (fail)
 rw[←hW];clear hW;go_upto_region 4 with (fail)
 try simp only[hG]
 clear hrun hG;go_wp2_with fail
 go_loopw [18] (fun i wr=>∃ (k:Nat) (zs:List Int),k≤p.length∧i=.int .i64 (k:Int)∧Hid (TrTo lf p zs k)∧wr.ownsRow w.heap.size 3 1 (.slice (some ⟨G,0,none⟩) p.length p.length) p.length (ints zs)∧Blk wr w.heap.size 28 #[.slice A cs.length cA,.int .i64 key]∧Below w.heap.size w wr) (fun i _=>p.length - (intOf i).toNat)
 case atStart=>exact ⟨0,List.replicate p.length 0,by omega,rfl,Lib.hid ⟨by simp,fun j hj=>absurd hj (Nat.not_lt_zero _)⟩,HO.out,HS.out,HB.out⟩
 case round =>
  obtain ⟨k,zs,hk',rfl,hz,hown,bS,hbel⟩:=hrel;by_cases hlt:k<p.length
  ·obtain ⟨ad,x,u,px,rfl,hx,hpx,hE,hu⟩:=(HP.out.below hbel).nd_load rfl hlt;obtain ⟨AU,cU,rfl,_,_⟩:=hu.form;obtain ⟨hplt,c0,c1,c2,c3,c4,c5,c6,c7⟩:=hE;have HLT:=Lib.hid hlt;have qm:decide (k<p.length)=true:=decide_eq_true hlt;have HX:=Lib.hid hx;have hn:=HK.out.node k x hx;obtain ⟨o1,o2⟩:=node_op hn;have HSUB:=Lib.hid (fun h=>node_sub hn h);have HCOL:=Lib.hid (fun h=>node_col hn h);obtain ⟨N5,hN5⟩:∃ N,wr.heap.size=N:=⟨_,rfl⟩
   obtain ⟨V,hV⟩:∃ V,V=wr.alloc (.cells #[.int .i64 x.op,.int .i64 x.col,.bool x.v.nu,.int .i64 x.v.n,.string x.v.s,.slice AU x.l.length cU,.int .i64 x.a,.int .i64 x.b] 66):=⟨_,rfl⟩
   have hbV:Below wr.heap.size wr V:=by rw[hV];exact (Below.refl _ _).alloc (Nat.le_refl _) _
   have VB:=Lib.hid (show Below w.heap.size w V by rw[hV];exact hbel.alloc hbel.size _);have VE:=Lib.hid (show Blk V N5 66 #[.int .i64 x.op,.int .i64 x.col,.bool x.v.nu,.int .i64 x.v.n,.string x.v.s,.slice AU x.l.length cU,.int .i64 x.a,.int .i64 x.b] by rw[hV,←hN5];exact Blk.new _ _ _);have VS:=Lib.hid (bS.below hbV bS.lt);have VO:=Lib.hid (own_below hown hbV);have VU:=Lib.hid (hu.below hbV);have hGN:G<N5:=by rw[←hN5];exact (hown.lt G rfl).2
   clear hx hbel hbV hu hown bS hn;go_upto_region 7 with (fail)
   rw[←hV];try simp only[hN5]
   clear hV hN5 c0 c1 c2 c3 c4 c5 c6 c7 hpx hplt;by_cases h9:x.op<9
   ·obtain ⟨m0,m1,c,hc⟩:=HCOL.out h9;obtain ⟨K,hK⟩:=Int.eq_ofNat_of_zero_le m0;have hK':x.col=(K:Int):=hK;rw[hK',Int.toNat_natCast]at hc;have hKc:K<cs.length:=(List.getElem?_eq_some_iff.1 hc).1;obtain ⟨ar,z,pz,rfl,hzv,hpz,hZ⟩:=(HRW.out.below VB.out).vl_load rfl (show K<row.length by have:=HRL.out;omega);obtain ⟨hzlt,z0,z1,z2⟩:=hZ;have HV:=Lib.hid (fun (X:World) (hX:Below V.heap.size V X)=>rleafT_any (.slice A cs.length cA) key cs K c x (.slice AU x.l.length cU) z X (HSL.out.below (bst VB.out hX)) (VU.out.below hX) hc hK' o1 (by omega));have HT:=Lib.hid (show leafTr c.ty x z=truI lf p k by rw[tr_leaf HX.out h9];exact (HLF.out x K c z hK' hc hzv).symm);have hKr:K<row.length:=by have:=HRL.out;omega
    have q9:(x.op==9)=false:=by rw[beq_eq_false_iff_ne];omega
    have q10:(x.op==10)=false:=by rw[beq_eq_false_iff_ne];omega
    have q11:(x.op==11)=false:=by rw[beq_eq_false_iff_ne];omega
    clear h9 hc hzv m0 m1 hK;have bb:=VE.out;have n0:=bb.cell 0;have n1:=bb.cell 1;have n2:=bb.cell 2;have n3:=bb.cell 3;have n4:=bb.cell 4;have n5:=bb.cell 5;have n6:=bb.cell 6;have n7:=bb.cell 7;simp only[jA,jZ,jS]at n0 n1 n2 n3 n4 n5 n6 n7;clear bb;have bb:=VS.out;have s0:=bb.cell 0;have s1:=bb.cell 1;simp only[jA,jZ,jS]at s0 s1;clear bb;rw[HT.out,hK']at HV;go_upto_region 8 with (fail)
    clear q9 q10 q11;clear n0 n1 n2 n3 n4 n5 n6 n7;clear s0 s1;have Z0:=Lib.hid z0;have Z1:=Lib.hid z1;have Z2:=Lib.hid z2;have HKK:=Lib.hid hK';clear z0 z1 z2 hK';obtain ⟨zo,hzo⟩:∃ zo,zs[k]?=some zo:=⟨_,List.getElem?_eq_getElem (by rw[hz.out.1];exact HLT.out)⟩
    refine wp_region_inv (by kernel_rfl) (by kernel_rfl) (fun L a w'=>∃ u25 u26 u27 u28 u29 u30 u31 u32 u33 u34 u35:Value,a=⟨#[.agg #[.slice A cs.length cA,.int .i64 key],.slice (some ad) p.length cP,.slice (some ar) row.length cR,.pointer (some ⟨w.heap.size,0,none⟩),undef,undef,.int .i64 0,.slice (some ⟨G,0,none⟩) p.length p.length,.int .i64 k,.pointer (some ⟨N5,0,none⟩),.slice (some ad) p.length cP,.int .i64 p.length,.bool false,.slice (some ad) p.length cP,.int .i64 p.length,.slice (some ⟨G,0,none⟩) p.length p.length,.slice (some ad) p.length cP,.int .i64 p.length,.int .i64 k,.bool true,.int .i64 k,.pointer (some px),.agg #[.int .i64 x.op,.int .i64 x.col,.bool x.v.nu,.int .i64 x.v.n,.string x.v.s,.slice AU x.l.length cU,.int .i64 x.a,.int .i64 x.b],.pointer (some ⟨N5,0,none⟩),.int .i64 x.op,u25,u26,u27,u28,u29,u30,u31,u32,u33,u34,u35,.bool false,.bool false,u38,u39,u40,u41,u42,u43,u44,u45,u46,u47,u48,u49,u50,u51,.bool false,.bool false,u54,u55,u56,u57,u58,u59,u60,u61,u62,u63,u64,u65,u66,u67,.bool false,.bool false,u70,u71,u72,u73,u74,u75,u76,u77,u78,u79,undef,undef,undef,undef,undef,undef],[]⟩ ∧
      (L 11=false→Below V.heap.size V w')∧Got (L 0) u25 (.slice (some ⟨G,0,none⟩) p.length p.length)∧Got (L 1) u26 (.int .i64 (k:Int))∧Got (L 2) u27 (.agg #[.slice A cs.length cA,.int .i64 key])∧Got (L 3) u28 (.agg #[.int .i64 x.op,.int .i64 (K:Int),.bool x.v.nu,.int .i64 x.v.n,.string x.v.s,.slice AU x.l.length cU,.int .i64 x.a,.int .i64 x.b])∧Got (L 4) u29 (.slice (some ar) row.length cR)∧Got (L 5) u30 (.pointer (some ⟨N5,1,none⟩))∧Got (L 6) u31 (.int .i64 (K:Int))∧Got (L 7) u32 (.pointer (some pz))∧Got (L 8) u33 (.agg #[.bool z.nu,.int .i64 z.n,.string z.s])∧Got (L 9) u34 (.int .i64 (truI lf p k))∧Got (L 10) u35 (.pointer (some ⟨G,k,none⟩))∧(L 11=true→L 0=true)∧(L 11=true→L 1=true)∧(L 11=true→L 2=true)∧(L 11=true→L 3=true)∧(L 11=true→L 4=true)∧(L 11=true→L 5=true)∧(L 11=true→L 6=true)∧(L 11=true→L 7=true)∧(L 11=true→L 8=true)∧(L 11=true→L 9=true)∧(L 11=true→L 10=true)∧(L 11=true→∃ X,Below V.heap.size V X∧w'=X.setCell ⟨G,k,none⟩ (.int .i64 (truI lf p k))))
     ?_ ?_ ?_
    ·exact ⟨_,_,_,_,_,_,_,_,_,_,_,rfl,(fun _=>(Below.refl _ _).drew),nofun,nofun,nofun,nofun,nofun,nofun,nofun,nofun,nofun,nofun,nofun,nofun,nofun,nofun,nofun,nofun,nofun,nofun,nofun,nofun,nofun,nofun,nofun⟩
    ·refine ⟨?_,?_,?_,?_,?_,?_,?_,?_,?_,?_,?_,?_,trivial⟩
     ·refine fun L a w'=>ex8 fun _ _ _ _ _ _ _ _=>ex2 fun _ _=>ex1 fun _=>un16 fun ha hb g0 g1 g2 g3 g4 g5 g6 g7 g8 g9 g10 g11 g12 g13=>un8 fun g14 g15 g16 g17 g18 g19 g20 g21 g22 hl hd K hK=>?_;subst ha
      dsimp only at hK ⊢;have h11:L 11=false:=by
       cases h:L 11 with
       | false=>rfl
       | true=>have:=g11 h;rw[hl]at this;cases this
      have hb:=hb h11;go_simp;exact hK _ _ ⟨_,_,_,_,_,_,_,_,_,_,_,rfl,fun _=>hb,fun _=>rfl,g1,g2,g3,g4,g5,g6,g7,g8,g9,g10,fun _=>rfl,g12,g13,g14,g15,g16,g17,g18,g19,g20,g21,(fun h=>absurd (show L 11=true from h) (by rw[h11];simp))⟩
     ·refine fun L a w'=>ex8 fun _ _ _ _ _ _ _ _=>ex2 fun _ _=>ex1 fun _=>un16 fun ha hb g0 g1 g2 g3 g4 g5 g6 g7 g8 g9 g10 g11 g12 g13=>un8 fun g14 g15 g16 g17 g18 g19 g20 g21 g22 hl hd K hK=>?_;subst ha
      dsimp only at hK ⊢;have h11:L 11=false:=by
       cases h:L 11 with
       | false=>rfl
       | true=>have:=g12 h;rw[hl]at this;cases this
      have hb:=hb h11;go_simp;exact hK _ _ ⟨_,_,_,_,_,_,_,_,_,_,_,rfl,fun _=>hb,g0,fun _=>rfl,g2,g3,g4,g5,g6,g7,g8,g9,g10,g11,fun _=>rfl,g13,g14,g15,g16,g17,g18,g19,g20,g21,(fun h=>absurd (show L 11=true from h) (by rw[h11];simp))⟩
     ·refine fun L a w'=>ex8 fun _ _ _ _ _ _ _ _=>ex2 fun _ _=>ex1 fun _=>un16 fun ha hb g0 g1 g2 g3 g4 g5 g6 g7 g8 g9 g10 g11 g12 g13=>un8 fun g14 g15 g16 g17 g18 g19 g20 g21 g22 hl hd K hK=>?_;subst ha
      dsimp only at hK ⊢;have h11:L 11=false:=by
       cases h:L 11 with
       | false=>rfl
       | true=>have:=g13 h;rw[hl]at this;cases this
      have hb:=hb h11;have bb:=VS.out.below hb VS.out.lt;have s0:=bb.cell 0;have s1:=bb.cell 1;simp only[jA,jZ,jS]at s0 s1;clear bb;go_simp;exact hK _ _ ⟨_,_,_,_,_,_,_,_,_,_,_,rfl,fun _=>hb,g0,g1,fun _=>rfl,g3,g4,g5,g6,g7,g8,g9,g10,g11,g12,fun _=>rfl,g14,g15,g16,g17,g18,g19,g20,g21,(fun h=>absurd (show L 11=true from h) (by rw[h11];simp))⟩
     ·refine fun L a w'=>ex8 fun _ _ _ _ _ _ _ _=>ex2 fun _ _=>ex1 fun _=>un16 fun ha hb g0 g1 g2 g3 g4 g5 g6 g7 g8 g9 g10 g11 g12 g13=>un8 fun g14 g15 g16 g17 g18 g19 g20 g21 g22 hl hd K hK=>?_;subst ha
      dsimp only at hK ⊢;have h11:L 11=false:=by
       cases h:L 11 with
       | false=>rfl
       | true=>have:=g14 h;rw[hl]at this;cases this
      have hb:=hb h11;have bb:=VE.out.below hb VE.out.lt;have n0:=bb.cell 0;have n1:=bb.cell 1;have n2:=bb.cell 2;have n3:=bb.cell 3;have n4:=bb.cell 4;have n5:=bb.cell 5;have n6:=bb.cell 6;have n7:=bb.cell 7;simp only[jA,jZ,jS]at n0 n1 n2 n3 n4 n5 n6 n7;rw[HKK.out]at n1;clear bb;go_simp;exact hK _ _ ⟨_,_,_,_,_,_,_,_,_,_,_,rfl,fun _=>hb,g0,g1,g2,fun _=>rfl,g4,g5,g6,g7,g8,g9,g10,g11,g12,g13,fun _=>rfl,g15,g16,g17,g18,g19,g20,g21,(fun h=>absurd (show L 11=true from h) (by rw[h11];simp))⟩
     ·refine fun L a w'=>ex8 fun _ _ _ _ _ _ _ _=>ex2 fun _ _=>ex1 fun _=>un16 fun ha hb g0 g1 g2 g3 g4 g5 g6 g7 g8 g9 g10 g11 g12 g13=>un8 fun g14 g15 g16 g17 g18 g19 g20 g21 g22 hl hd K hK=>?_;subst ha
      dsimp only at hK ⊢;have h11:L 11=false:=by
       cases h:L 11 with
       | false=>rfl
       | true=>have:=g15 h;rw[hl]at this;cases this
      have hb:=hb h11;go_simp;exact hK _ _ ⟨_,_,_,_,_,_,_,_,_,_,_,rfl,fun _=>hb,g0,g1,g2,g3,fun _=>rfl,g5,g6,g7,g8,g9,g10,g11,g12,g13,g14,fun _=>rfl,g16,g17,g18,g19,g20,g21,(fun h=>absurd (show L 11=true from h) (by rw[h11];simp))⟩
     ·refine fun L a w'=>ex8 fun _ _ _ _ _ _ _ _=>ex2 fun _ _=>ex1 fun _=>un16 fun ha hb g0 g1 g2 g3 g4 g5 g6 g7 g8 g9 g10 g11 g12 g13=>un8 fun g14 g15 g16 g17 g18 g19 g20 g21 g22 hl hd K hK=>?_;subst ha
      dsimp only at hK ⊢;have h11:L 11=false:=by
       cases h:L 11 with
       | false=>rfl
       | true=>have:=g16 h;rw[hl]at this;cases this
      have hb:=hb h11;go_simp;exact hK _ _ ⟨_,_,_,_,_,_,_,_,_,_,_,rfl,fun _=>hb,g0,g1,g2,g3,g4,fun _=>rfl,g6,g7,g8,g9,g10,g11,g12,g13,g14,g15,fun _=>rfl,g17,g18,g19,g20,g21,(fun h=>absurd (show L 11=true from h) (by rw[h11];simp))⟩
     ·refine fun L a w'=>ex8 fun _ _ _ _ _ _ _ _=>ex2 fun _ _=>ex1 fun _=>un16 fun ha hb g0 g1 g2 g3 g4 g5 g6 g7 g8 g9 g10 g11 g12 g13=>un8 fun g14 g15 g16 g17 g18 g19 g20 g21 g22 hl hd K hK=>?_;subst ha
      simp[Region.binds]at hd;dsimp only at hK ⊢;have e5:=g5 (by simp[hd]);subst e5;have h11:L 11=false:=by
       cases h:L 11 with
       | false=>rfl
       | true=>have:=g17 h;rw[hl]at this;cases this
      have hb:=hb h11;have bb:=VE.out.below hb VE.out.lt;have n1:=bb.cell 1;simp only[jA,jZ,jS]at n1;rw[HKK.out]at n1;clear bb;go_simp;exact hK _ _ ⟨_,_,_,_,_,_,_,_,_,_,_,rfl,fun _=>hb,g0,g1,g2,g3,g4,g5,fun _=>rfl,g7,g8,g9,g10,g11,g12,g13,g14,g15,g16,fun _=>rfl,g18,g19,g20,g21,(fun h=>absurd (show L 11=true from h) (by rw[h11];simp))⟩
     ·refine fun L a w'=>ex8 fun _ _ _ _ _ _ _ _=>ex2 fun _ _=>ex1 fun _=>un16 fun ha hb g0 g1 g2 g3 g4 g5 g6 g7 g8 g9 g10 g11 g12 g13=>un8 fun g14 g15 g16 g17 g18 g19 g20 g21 g22 hl hd K hK=>?_;subst ha
      simp[Region.binds]at hd;dsimp only at hK ⊢;have e4:=g4 (by simp[hd]);subst e4;have e6:=g6 (by simp[hd]);subst e6;have h11:L 11=false:=by
       cases h:L 11 with
       | false=>rfl
       | true=>have:=g18 h;rw[hl]at this;cases this
      have hb:=hb h11;go_simp;exact hK _ _ ⟨_,_,_,_,_,_,_,_,_,_,_,rfl,fun _=>hb,g0,g1,g2,g3,g4,g5,g6,fun _=>rfl,g8,g9,g10,g11,g12,g13,g14,g15,g16,g17,fun _=>rfl,g19,g20,g21,(fun h=>absurd (show L 11=true from h) (by rw[h11];simp))⟩
     ·refine fun L a w'=>ex8 fun _ _ _ _ _ _ _ _=>ex2 fun _ _=>ex1 fun _=>un16 fun ha hb g0 g1 g2 g3 g4 g5 g6 g7 g8 g9 g10 g11 g12 g13=>un8 fun g14 g15 g16 g17 g18 g19 g20 g21 g22 hl hd K hK=>?_;subst ha
      simp[Region.binds]at hd;dsimp only at hK ⊢;have e7:=g7 (by simp[hd]);subst e7;have h11:L 11=false:=by
       cases h:L 11 with
       | false=>rfl
       | true=>have:=g19 h;rw[hl]at this;cases this
      have hb:=hb h11;have hz0:=(hb.cell (p:=pz) hzlt).trans Z0.out;have hz1:=(hb.cell (p:=⟨pz.block,pz.off+1,none⟩) hzlt).trans Z1.out;have hz2:=(hb.cell (p:=⟨pz.block,pz.off+2,none⟩) hzlt).trans Z2.out;go_simp;exact hK _ _ ⟨_,_,_,_,_,_,_,_,_,_,_,rfl,fun _=>hb,g0,g1,g2,g3,g4,g5,g6,g7,fun _=>rfl,g9,g10,g11,g12,g13,g14,g15,g16,g17,g18,fun _=>rfl,g20,g21,(fun h=>absurd (show L 11=true from h) (by rw[h11];simp))⟩
     ·refine fun L a w'=>ex8 fun _ _ _ _ _ _ _ _=>ex2 fun _ _=>ex1 fun _=>un16 fun ha hb g0 g1 g2 g3 g4 g5 g6 g7 g8 g9 g10 g11 g12 g13=>un8 fun g14 g15 g16 g17 g18 g19 g20 g21 g22 hl hd K hK=>?_;subst ha
      simp[Region.binds]at hd;dsimp only at hK ⊢;have e2:=g2 (by simp[hd]);subst e2;have e3:=g3 (by simp[hd]);subst e3;have e8:=g8 (by simp[hd]);subst e8;have h11:L 11=false:=by
       cases h:L 11 with
       | false=>rfl
       | true=>have:=g20 h;rw[hl]at this;cases this
      have hb:=hb h11;go_wp2_with fail
      refine (HV.out w' hb).mono ?_;rintro _ w4 ⟨rfl,hb4⟩;exact hK _ _ ⟨_,_,_,_,_,_,_,_,_,_,_,rfl,fun _=>bst hb hb4,g0,g1,g2,g3,g4,g5,g6,g7,g8,fun _=>rfl,g10,g11,g12,g13,g14,g15,g16,g17,g18,g19,fun _=>rfl,g21,(fun h=>absurd (show L 11=true from h) (by rw[h11];simp))⟩
     ·refine fun L a w'=>ex8 fun _ _ _ _ _ _ _ _=>ex2 fun _ _=>ex1 fun _=>un16 fun ha hb g0 g1 g2 g3 g4 g5 g6 g7 g8 g9 g10 g11 g12 g13=>un8 fun g14 g15 g16 g17 g18 g19 g20 g21 g22 hl hd K hK=>?_;subst ha
      simp[Region.binds]at hd;dsimp only at hK ⊢;have e0:=g0 (by simp[hd]);subst e0;have e1:=g1 (by simp[hd]);subst e1;have h11:L 11=false:=by
       cases h:L 11 with
       | false=>rfl
       | true=>have:=g21 h;rw[hl]at this;cases this
      have hb:=hb h11;go_simp;exact hK _ _ ⟨_,_,_,_,_,_,_,_,_,_,_,rfl,fun _=>hb,g0,g1,g2,g3,g4,g5,g6,g7,g8,g9,fun _=>rfl,g11,g12,g13,g14,g15,g16,g17,g18,g19,g20,fun _=>rfl,(fun h=>absurd (show L 11=true from h) (by rw[h11];simp))⟩
     ·refine fun L a w'=>ex8 fun _ _ _ _ _ _ _ _=>ex2 fun _ _=>ex1 fun _=>un16 fun ha hb g0 g1 g2 g3 g4 g5 g6 g7 g8 g9 g10 g11 g12 g13=>un8 fun g14 g15 g16 g17 g18 g19 g20 g21 g22 hl hd K hK=>?_;subst ha
      simp[Region.binds]at hd;dsimp only at hK ⊢;have e10:=g10 (by simp[hd]);subst e10;have e9:=g9 (by simp[hd]);subst e9;have hb:=hb hl;have OO:=own_below VO.out hb;have kc:=own_cellI OO hzo;have kf:=own_frozI OO k;have hgb:=(OO.lt G rfl).1;have d0:L 0=true:=by simp[hd]
      have d1:L 1=true:=by simp[hd]
      have d2:L 2=true:=by simp[hd]
      have d3:L 3=true:=by simp[hd]
      have d4:L 4=true:=by simp[hd]
      have d5:L 5=true:=by simp[hd]
      have d6:L 6=true:=by simp[hd]
      have d7:L 7=true:=by simp[hd]
      have d8:L 8=true:=by simp[hd]
      have d9:L 9=true:=by simp[hd]
      have d10:L 10=true:=by simp[hd]
      go_simp;exact hK _ _ ⟨_,_,_,_,_,_,_,_,_,_,_,rfl,nofun,g0,g1,g2,g3,g4,g5,g6,g7,g8,g9,g10,fun _=>d0,fun _=>d1,fun _=>d2,fun _=>d3,fun _=>d4,fun _=>d5,fun _=>d6,fun _=>d7,fun _=>d8,fun _=>d9,fun _=>d10,fun _=>⟨_,hb,rfl⟩⟩
    intro a w9 hI
    revert hI;refine ex8 fun _ _ _ _ _ _ _ _=>ex2 fun _ _=>ex1 fun _=>un16 fun ha hb g0 g1 g2 g3 g4 g5 g6 g7 g8 g9 g10 g11 g12 g13=>un8 fun g14 g15 g16 g17 g18 g19 g20 g21 g22=>?_;subst ha
    obtain ⟨X,hX,rfl⟩:=g22 rfl;have OO:=own_below VO.out hX;have hgb:=(OO.lt G rfl).1;obtain ⟨zn,hzn⟩:∃ zn:Int,truI lf p k=zn:=⟨_,rfl⟩
    rw[hzn];have HZ:=Lib.hid (TrTo.set hz.out HLT.out (z:=zn) hzn.symm);have kg:=grownBy_set X ⟨G,k,none⟩ (.int .i64 zn);obtain ⟨Y,hY⟩:∃ Y,X.setCell ⟨G,k,none⟩ (.int .i64 zn)=Y:=⟨_,rfl⟩
    have YO:=Lib.hid (own_setI (j:=k) (z:=zn) OO);rw[hY]at YO kg ⊢;have YS:=Lib.hid ((VS.out.below hX VS.out.lt).row kg (show w.heap.size≠G by omega));have YB:=Lib.hid (below_row (bst VB.out hX) kg (show w.heap.size≤G by omega) (bst VB.out hX).size);clear g0 g1 g2 g3 g4 g5 g6 g7 g8 g9 g10 g11 g12 g13 g14 g15 g16 g17 g18 g19 g20 g21 hb hX OO hzo kg hzn hY;go_wp2;go_roundw
    case rel=>exact ⟨k+1,zs.set k zn,HLT.out,by go_num,HZ,YO.out,YS.out,YB.out⟩
    case measure=>have:=HLT.out;simp[intOf];omega
   ·obtain ⟨a0,a1,hb⟩:=HSUB.out (by omega);obtain ⟨ea,hea⟩:=Int.eq_ofNat_of_zero_le a0;have hak:ea<k:=by omega
    have hea':x.a=(ea:Int):=hea;have hcA:=own_cellI VO.out (hz.out.2 ea hak);have ra:=HLI.out ea;have qa:decide (ea<p.length)=true:=decide_eq_true (by omega);by_cases h11:x.op=11
    ·have HT:=Lib.hid (show notT (truI lf p ea)=truI lf p k from (tr_not HX.out h11 hea' hak).symm);have HV:=Lib.hid (fun X=>rnot_any (truI lf p ea) X ra.1 ra.2);obtain ⟨ta,hta⟩:∃ q,truI lf p ea=q:=⟨_,rfl⟩
     rw[hta]at HT HV hcA;have q9:(x.op==9)=false:=by rw[beq_eq_false_iff_ne];omega
     have q10:(x.op==10)=false:=by rw[beq_eq_false_iff_ne];omega
     have q11:(x.op==11)=true:=by rw[beq_iff_eq];omega
     clear hta h9 a0 a1 hb hea ra h11;have bb:=VE.out;have n0:=bb.cell 0;have n1:=bb.cell 1;have n2:=bb.cell 2;have n3:=bb.cell 3;have n4:=bb.cell 4;have n5:=bb.cell 5;have n6:=bb.cell 6;have n7:=bb.cell 7;simp only[jA,jZ,jS]at n0 n1 n2 n3 n4 n5 n6 n7;clear bb;rw[hea']at n6;go_wp2_with fail
     refine (HV.out _).mono ?_;rintro _ _ ⟨rfl,rfl⟩;rw[HT.out];clear HV;clear n0 n1 n2 n3 n4 n5 n6 n7;obtain ⟨zo,hzo⟩:∃ zo,zs[k]?=some zo:=⟨_,List.getElem?_eq_getElem (by rw[hz.out.1];exact HLT.out)⟩
     have kc:=own_cellI VO.out hzo;have kf:=own_frozI VO.out k;have hgb:=(VO.out.lt G rfl).1;obtain ⟨zn,hzn⟩:∃ zn:Int,truI lf p k=zn:=⟨_,rfl⟩
     have HZ:=Lib.hid (TrTo.set hz.out HLT.out (z:=zn) hzn.symm);have kg:=grownBy_set V ⟨G,k,none⟩ (.int .i64 zn);obtain ⟨Y,hY⟩:∃ Y,V.setCell ⟨G,k,none⟩ (.int .i64 zn)=Y:=⟨_,rfl⟩
     have YO:=Lib.hid (own_setI (j:=k) (z:=zn) VO.out);rw[hY]at YO kg;have YS:=Lib.hid (VS.out.row kg (show w.heap.size≠G by omega));have YB:=Lib.hid (below_row VB.out kg (show w.heap.size≤G by omega) VB.out.size);clear hzo kg;try rw[hzn]
     go_upto_region 15 with (fail)
     try simp only[hzn]
     try rw[hY]
     clear hY kc kf hzn;go_wp2;go_roundw
     case rel=>exact ⟨k+1,zs.set k zn,HLT.out,by go_num,HZ,YO.out,YS.out,YB.out⟩
     case measure=>have:=HLT.out;simp[intOf];omega
    ·obtain ⟨b0,b1⟩:=hb h11;obtain ⟨eb,heb⟩:=Int.eq_ofNat_of_zero_le b0;have hbk:eb<k:=by omega
     have heb':x.b=(eb:Int):=heb;have hcB:=own_cellI VO.out (hz.out.2 eb hbk);have rb:=HLI.out eb;have qb:decide (eb<p.length)=true:=decide_eq_true (by omega);by_cases h10:x.op=10
     ·have HT:=Lib.hid (show orT (truI lf p ea) (truI lf p eb)=truI lf p k from (tr_or HX.out h10 hea' hak heb' hbk).symm);have HV:=Lib.hid (fun X=>ror_any (truI lf p ea) (truI lf p eb) X ra.1 ra.2 rb.1 rb.2);obtain ⟨ta,hta⟩:∃ q,truI lf p ea=q:=⟨_,rfl⟩
      obtain ⟨tb,htb⟩:∃ q,truI lf p eb=q:=⟨_,rfl⟩
      rw[hta]at HT HV hcA;rw[htb]at HT HV hcB;have q9:(x.op==9)=false:=by rw[beq_eq_false_iff_ne];omega
      have q10:(x.op==10)=true:=by rw[beq_iff_eq];omega
      have q11:(x.op==11)=false:=by rw[beq_eq_false_iff_ne];omega
      clear hta htb h9 a0 a1 b0 b1 hb hea heb ra rb h10 h11;have bb:=VE.out;have n0:=bb.cell 0;have n1:=bb.cell 1;have n2:=bb.cell 2;have n3:=bb.cell 3;have n4:=bb.cell 4;have n5:=bb.cell 5;have n6:=bb.cell 6;have n7:=bb.cell 7;simp only[jA,jZ,jS]at n0 n1 n2 n3 n4 n5 n6 n7;clear bb;rw[HT.out]at HV;go_upto_region 12 with (fail)
      clear q9 q10 q11;clear n0 n1 n2 n3 n4 n5 n6 n7;have hlA:ea<p.length:=by omega
      have hlB:eb<p.length:=by omega
      have HEA:=Lib.hid hea';have HEB:=Lib.hid heb';have HCA:=Lib.hid hcA;have HCB:=Lib.hid hcB;clear hcA hcB hea' heb';obtain ⟨zo,hzo⟩:∃ zo,zs[k]?=some zo:=⟨_,List.getElem?_eq_getElem (by rw[hz.out.1];exact HLT.out)⟩
      refine wp_region_inv (by kernel_rfl) (by kernel_rfl) (fun L a w'=>∃ u54 u55 u56 u57 u58 u59 u60 u61 u62 u63 u64 u65 u66 u67:Value,a=⟨#[.agg #[.slice A cs.length cA,.int .i64 key],.slice (some ad) p.length cP,.slice AR row.length cR,.pointer (some ⟨w.heap.size,0,none⟩),undef,undef,.int .i64 0,.slice (some ⟨G,0,none⟩) p.length p.length,.int .i64 k,.pointer (some ⟨N5,0,none⟩),.slice (some ad) p.length cP,.int .i64 p.length,.bool false,.slice (some ad) p.length cP,.int .i64 p.length,.slice (some ⟨G,0,none⟩) p.length p.length,.slice (some ad) p.length cP,.int .i64 p.length,.int .i64 k,.bool true,.int .i64 k,.pointer (some px),.agg #[.int .i64 x.op,.int .i64 x.col,.bool x.v.nu,.int .i64 x.v.n,.string x.v.s,.slice AU x.l.length cU,.int .i64 x.a,.int .i64 x.b],.pointer (some ⟨N5,0,none⟩),.int .i64 x.op,u25,u26,u27,u28,u29,u30,u31,u32,u33,u34,u35,.bool false,.bool false,u38,u39,u40,u41,u42,u43,u44,u45,u46,u47,u48,u49,u50,u51,.bool true,.bool true,u54,u55,u56,u57,u58,u59,u60,u61,u62,u63,u64,u65,u66,u67,u68,u69,u70,u71,u72,u73,u74,u75,u76,u77,u78,u79,undef,undef,undef,undef,undef,undef],[]⟩ ∧
        (L 14=false→Below V.heap.size V w')∧Got (L 0) u54 (.slice (some ⟨G,0,none⟩) p.length p.length)∧Got (L 1) u55 (.int .i64 (k:Int))∧Got (L 2) u56 (.slice (some ⟨G,0,none⟩) p.length p.length)∧Got (L 3) u57 (.pointer (some ⟨N5,6,none⟩))∧Got (L 4) u58 (.int .i64 (ea:Int))∧Got (L 5) u59 (.pointer (some ⟨G,ea,none⟩))∧Got (L 6) u60 (.int .i64 ta)∧Got (L 7) u61 (.slice (some ⟨G,0,none⟩) p.length p.length)∧Got (L 8) u62 (.pointer (some ⟨N5,7,none⟩))∧Got (L 9) u63 (.int .i64 (eb:Int))∧Got (L 10) u64 (.pointer (some ⟨G,eb,none⟩))∧Got (L 11) u65 (.int .i64 tb)∧Got (L 12) u66 (.int .i64 (truI lf p k))∧Got (L 13) u67 (.pointer (some ⟨G,k,none⟩))∧(L 14=true→L 0=true)∧(L 14=true→L 1=true)∧(L 14=true→L 2=true)∧(L 14=true→L 3=true)∧(L 14=true→L 4=true)∧(L 14=true→L 5=true)∧(L 14=true→L 6=true)∧(L 14=true→L 7=true)∧(L 14=true→L 8=true)∧(L 14=true→L 9=true)∧(L 14=true→L 10=true)∧(L 14=true→L 11=true)∧(L 14=true→L 12=true)∧(L 14=true→L 13=true)∧(L 14=true→∃ X,Below V.heap.size V X∧w'=X.setCell ⟨G,k,none⟩ (.int .i64 (truI lf p k))))
       ?_ ?_ ?_
      ·exact ⟨_,_,_,_,_,_,_,_,_,_,_,_,_,_,rfl,(fun _=>(Below.refl _ _).drew),nofun,nofun,nofun,nofun,nofun,nofun,nofun,nofun,nofun,nofun,nofun,nofun,nofun,nofun,nofun,nofun,nofun,nofun,nofun,nofun,nofun,nofun,nofun,nofun,nofun,nofun,nofun,nofun,nofun⟩
      ·refine ⟨?_,?_,?_,?_,?_,?_,?_,?_,?_,?_,?_,?_,?_,?_,?_,trivial⟩
       ·refine fun L a w'=>ex8 fun _ _ _ _ _ _ _ _=>ex4 fun _ _ _ _=>ex2 fun _ _=>un16 fun ha hb g0 g1 g2 g3 g4 g5 g6 g7 g8 g9 g10 g11 g12 g13=>un8 fun g14 g15 g16 g17 g18 g19 g20 g21=>un4 fun g22 g23 g24 g25=>un2 fun g26 g27 g28 hl hd K hK=>?_;subst ha
        dsimp only at hK ⊢;have h11:L 14=false:=by
         cases h:L 14 with
         | false=>rfl
         | true=>have:=g14 h;rw[hl]at this;cases this
        have hb:=hb h11;go_simp;exact hK _ _ ⟨_,_,_,_,_,_,_,_,_,_,_,_,_,_,rfl,fun _=>hb,fun _=>rfl,g1,g2,g3,g4,g5,g6,g7,g8,g9,g10,g11,g12,g13,fun _=>rfl,g15,g16,g17,g18,g19,g20,g21,g22,g23,g24,g25,g26,g27,(fun h=>absurd (show L 14=true from h) (by rw[h11];simp))⟩
       ·refine fun L a w'=>ex8 fun _ _ _ _ _ _ _ _=>ex4 fun _ _ _ _=>ex2 fun _ _=>un16 fun ha hb g0 g1 g2 g3 g4 g5 g6 g7 g8 g9 g10 g11 g12 g13=>un8 fun g14 g15 g16 g17 g18 g19 g20 g21=>un4 fun g22 g23 g24 g25=>un2 fun g26 g27 g28 hl hd K hK=>?_;subst ha
        dsimp only at hK ⊢;have h11:L 14=false:=by
         cases h:L 14 with
         | false=>rfl
         | true=>have:=g15 h;rw[hl]at this;cases this
        have hb:=hb h11;go_simp;exact hK _ _ ⟨_,_,_,_,_,_,_,_,_,_,_,_,_,_,rfl,fun _=>hb,g0,fun _=>rfl,g2,g3,g4,g5,g6,g7,g8,g9,g10,g11,g12,g13,g14,fun _=>rfl,g16,g17,g18,g19,g20,g21,g22,g23,g24,g25,g26,g27,(fun h=>absurd (show L 14=true from h) (by rw[h11];simp))⟩
       ·refine fun L a w'=>ex8 fun _ _ _ _ _ _ _ _=>ex4 fun _ _ _ _=>ex2 fun _ _=>un16 fun ha hb g0 g1 g2 g3 g4 g5 g6 g7 g8 g9 g10 g11 g12 g13=>un8 fun g14 g15 g16 g17 g18 g19 g20 g21=>un4 fun g22 g23 g24 g25=>un2 fun g26 g27 g28 hl hd K hK=>?_;subst ha
        dsimp only at hK ⊢;have h11:L 14=false:=by
         cases h:L 14 with
         | false=>rfl
         | true=>have:=g16 h;rw[hl]at this;cases this
        have hb:=hb h11;go_simp;exact hK _ _ ⟨_,_,_,_,_,_,_,_,_,_,_,_,_,_,rfl,fun _=>hb,g0,g1,fun _=>rfl,g3,g4,g5,g6,g7,g8,g9,g10,g11,g12,g13,g14,g15,fun _=>rfl,g17,g18,g19,g20,g21,g22,g23,g24,g25,g26,g27,(fun h=>absurd (show L 14=true from h) (by rw[h11];simp))⟩
       ·refine fun L a w'=>ex8 fun _ _ _ _ _ _ _ _=>ex4 fun _ _ _ _=>ex2 fun _ _=>un16 fun ha hb g0 g1 g2 g3 g4 g5 g6 g7 g8 g9 g10 g11 g12 g13=>un8 fun g14 g15 g16 g17 g18 g19 g20 g21=>un4 fun g22 g23 g24 g25=>un2 fun g26 g27 g28 hl hd K hK=>?_;subst ha
        dsimp only at hK ⊢;have h11:L 14=false:=by
         cases h:L 14 with
         | false=>rfl
         | true=>have:=g17 h;rw[hl]at this;cases this
        have hb:=hb h11;go_simp;exact hK _ _ ⟨_,_,_,_,_,_,_,_,_,_,_,_,_,_,rfl,fun _=>hb,g0,g1,g2,fun _=>rfl,g4,g5,g6,g7,g8,g9,g10,g11,g12,g13,g14,g15,g16,fun _=>rfl,g18,g19,g20,g21,g22,g23,g24,g25,g26,g27,(fun h=>absurd (show L 14=true from h) (by rw[h11];simp))⟩
       ·refine fun L a w'=>ex8 fun _ _ _ _ _ _ _ _=>ex4 fun _ _ _ _=>ex2 fun _ _=>un16 fun ha hb g0 g1 g2 g3 g4 g5 g6 g7 g8 g9 g10 g11 g12 g13=>un8 fun g14 g15 g16 g17 g18 g19 g20 g21=>un4 fun g22 g23 g24 g25=>un2 fun g26 g27 g28 hl hd K hK=>?_;subst ha
        simp[Region.binds]at hd;dsimp only at hK ⊢;have e3:=g3 (by simp[hd]);subst e3;have h11:L 14=false:=by
         cases h:L 14 with
         | false=>rfl
         | true=>have:=g18 h;rw[hl]at this;cases this
        have hb:=hb h11;have bb:=VE.out.below hb VE.out.lt;have n0:=bb.cell 0;have n1:=bb.cell 1;have n2:=bb.cell 2;have n3:=bb.cell 3;have n4:=bb.cell 4;have n5:=bb.cell 5;have n6:=bb.cell 6;have n7:=bb.cell 7;simp only[jA,jZ,jS]at n0 n1 n2 n3 n4 n5 n6 n7;rw[HEA.out]at n6;rw[HEB.out]at n7;clear bb;go_simp;exact hK _ _ ⟨_,_,_,_,_,_,_,_,_,_,_,_,_,_,rfl,fun _=>hb,g0,g1,g2,g3,fun _=>rfl,g5,g6,g7,g8,g9,g10,g11,g12,g13,g14,g15,g16,g17,fun _=>rfl,g19,g20,g21,g22,g23,g24,g25,g26,g27,(fun h=>absurd (show L 14=true from h) (by rw[h11];simp))⟩
       ·refine fun L a w'=>ex8 fun _ _ _ _ _ _ _ _=>ex4 fun _ _ _ _=>ex2 fun _ _=>un16 fun ha hb g0 g1 g2 g3 g4 g5 g6 g7 g8 g9 g10 g11 g12 g13=>un8 fun g14 g15 g16 g17 g18 g19 g20 g21=>un4 fun g22 g23 g24 g25=>un2 fun g26 g27 g28 hl hd K hK=>?_;subst ha
        simp[Region.binds]at hd;dsimp only at hK ⊢;have e2:=g2 (by simp[hd]);subst e2;have e4:=g4 (by simp[hd]);subst e4;have h11:L 14=false:=by
         cases h:L 14 with
         | false=>rfl
         | true=>have:=g19 h;rw[hl]at this;cases this
        have hb:=hb h11;go_simp;exact hK _ _ ⟨_,_,_,_,_,_,_,_,_,_,_,_,_,_,rfl,fun _=>hb,g0,g1,g2,g3,g4,fun _=>rfl,g6,g7,g8,g9,g10,g11,g12,g13,g14,g15,g16,g17,g18,fun _=>rfl,g20,g21,g22,g23,g24,g25,g26,g27,(fun h=>absurd (show L 14=true from h) (by rw[h11];simp))⟩
       ·refine fun L a w'=>ex8 fun _ _ _ _ _ _ _ _=>ex4 fun _ _ _ _=>ex2 fun _ _=>un16 fun ha hb g0 g1 g2 g3 g4 g5 g6 g7 g8 g9 g10 g11 g12 g13=>un8 fun g14 g15 g16 g17 g18 g19 g20 g21=>un4 fun g22 g23 g24 g25=>un2 fun g26 g27 g28 hl hd K hK=>?_;subst ha
        simp[Region.binds]at hd;dsimp only at hK ⊢;have e5:=g5 (by simp[hd]);subst e5;have h11:L 14=false:=by
         cases h:L 14 with
         | false=>rfl
         | true=>have:=g20 h;rw[hl]at this;cases this
        have hb:=hb h11;have cc:=(hb.cell (p:=⟨G,ea,none⟩) (by show G<_;have:=(VO.out.lt G rfl).2;exact this)).trans HCA.out;go_simp;exact hK _ _ ⟨_,_,_,_,_,_,_,_,_,_,_,_,_,_,rfl,fun _=>hb,g0,g1,g2,g3,g4,g5,fun _=>rfl,g7,g8,g9,g10,g11,g12,g13,g14,g15,g16,g17,g18,g19,fun _=>rfl,g21,g22,g23,g24,g25,g26,g27,(fun h=>absurd (show L 14=true from h) (by rw[h11];simp))⟩
       ·refine fun L a w'=>ex8 fun _ _ _ _ _ _ _ _=>ex4 fun _ _ _ _=>ex2 fun _ _=>un16 fun ha hb g0 g1 g2 g3 g4 g5 g6 g7 g8 g9 g10 g11 g12 g13=>un8 fun g14 g15 g16 g17 g18 g19 g20 g21=>un4 fun g22 g23 g24 g25=>un2 fun g26 g27 g28 hl hd K hK=>?_;subst ha
        dsimp only at hK ⊢;have h11:L 14=false:=by
         cases h:L 14 with
         | false=>rfl
         | true=>have:=g21 h;rw[hl]at this;cases this
        have hb:=hb h11;go_simp;exact hK _ _ ⟨_,_,_,_,_,_,_,_,_,_,_,_,_,_,rfl,fun _=>hb,g0,g1,g2,g3,g4,g5,g6,fun _=>rfl,g8,g9,g10,g11,g12,g13,g14,g15,g16,g17,g18,g19,g20,fun _=>rfl,g22,g23,g24,g25,g26,g27,(fun h=>absurd (show L 14=true from h) (by rw[h11];simp))⟩
       ·refine fun L a w'=>ex8 fun _ _ _ _ _ _ _ _=>ex4 fun _ _ _ _=>ex2 fun _ _=>un16 fun ha hb g0 g1 g2 g3 g4 g5 g6 g7 g8 g9 g10 g11 g12 g13=>un8 fun g14 g15 g16 g17 g18 g19 g20 g21=>un4 fun g22 g23 g24 g25=>un2 fun g26 g27 g28 hl hd K hK=>?_;subst ha
        dsimp only at hK ⊢;have h11:L 14=false:=by
         cases h:L 14 with
         | false=>rfl
         | true=>have:=g22 h;rw[hl]at this;cases this
        have hb:=hb h11;go_simp;exact hK _ _ ⟨_,_,_,_,_,_,_,_,_,_,_,_,_,_,rfl,fun _=>hb,g0,g1,g2,g3,g4,g5,g6,g7,fun _=>rfl,g9,g10,g11,g12,g13,g14,g15,g16,g17,g18,g19,g20,g21,fun _=>rfl,g23,g24,g25,g26,g27,(fun h=>absurd (show L 14=true from h) (by rw[h11];simp))⟩
       ·refine fun L a w'=>ex8 fun _ _ _ _ _ _ _ _=>ex4 fun _ _ _ _=>ex2 fun _ _=>un16 fun ha hb g0 g1 g2 g3 g4 g5 g6 g7 g8 g9 g10 g11 g12 g13=>un8 fun g14 g15 g16 g17 g18 g19 g20 g21=>un4 fun g22 g23 g24 g25=>un2 fun g26 g27 g28 hl hd K hK=>?_;subst ha
        simp[Region.binds]at hd;dsimp only at hK ⊢;have e8:=g8 (by simp[hd]);subst e8;have h11:L 14=false:=by
         cases h:L 14 with
         | false=>rfl
         | true=>have:=g23 h;rw[hl]at this;cases this
        have hb:=hb h11;have bb:=VE.out.below hb VE.out.lt;have n0:=bb.cell 0;have n1:=bb.cell 1;have n2:=bb.cell 2;have n3:=bb.cell 3;have n4:=bb.cell 4;have n5:=bb.cell 5;have n6:=bb.cell 6;have n7:=bb.cell 7;simp only[jA,jZ,jS]at n0 n1 n2 n3 n4 n5 n6 n7;rw[HEA.out]at n6;rw[HEB.out]at n7;clear bb;go_simp;exact hK _ _ ⟨_,_,_,_,_,_,_,_,_,_,_,_,_,_,rfl,fun _=>hb,g0,g1,g2,g3,g4,g5,g6,g7,g8,fun _=>rfl,g10,g11,g12,g13,g14,g15,g16,g17,g18,g19,g20,g21,g22,fun _=>rfl,g24,g25,g26,g27,(fun h=>absurd (show L 14=true from h) (by rw[h11];simp))⟩
       ·refine fun L a w'=>ex8 fun _ _ _ _ _ _ _ _=>ex4 fun _ _ _ _=>ex2 fun _ _=>un16 fun ha hb g0 g1 g2 g3 g4 g5 g6 g7 g8 g9 g10 g11 g12 g13=>un8 fun g14 g15 g16 g17 g18 g19 g20 g21=>un4 fun g22 g23 g24 g25=>un2 fun g26 g27 g28 hl hd K hK=>?_;subst ha
        simp[Region.binds]at hd;dsimp only at hK ⊢;have e7:=g7 (by simp[hd]);subst e7;have e9:=g9 (by simp[hd]);subst e9;have h11:L 14=false:=by
         cases h:L 14 with
         | false=>rfl
         | true=>have:=g24 h;rw[hl]at this;cases this
        have hb:=hb h11;go_simp;exact hK _ _ ⟨_,_,_,_,_,_,_,_,_,_,_,_,_,_,rfl,fun _=>hb,g0,g1,g2,g3,g4,g5,g6,g7,g8,g9,fun _=>rfl,g11,g12,g13,g14,g15,g16,g17,g18,g19,g20,g21,g22,g23,fun _=>rfl,g25,g26,g27,(fun h=>absurd (show L 14=true from h) (by rw[h11];simp))⟩
       ·refine fun L a w'=>ex8 fun _ _ _ _ _ _ _ _=>ex4 fun _ _ _ _=>ex2 fun _ _=>un16 fun ha hb g0 g1 g2 g3 g4 g5 g6 g7 g8 g9 g10 g11 g12 g13=>un8 fun g14 g15 g16 g17 g18 g19 g20 g21=>un4 fun g22 g23 g24 g25=>un2 fun g26 g27 g28 hl hd K hK=>?_;subst ha
        simp[Region.binds]at hd;dsimp only at hK ⊢;have e10:=g10 (by simp[hd]);subst e10;have h11:L 14=false:=by
         cases h:L 14 with
         | false=>rfl
         | true=>have:=g25 h;rw[hl]at this;cases this
        have hb:=hb h11;have cc:=(hb.cell (p:=⟨G,eb,none⟩) (by show G<_;have:=(VO.out.lt G rfl).2;exact this)).trans HCB.out;go_simp;exact hK _ _ ⟨_,_,_,_,_,_,_,_,_,_,_,_,_,_,rfl,fun _=>hb,g0,g1,g2,g3,g4,g5,g6,g7,g8,g9,g10,fun _=>rfl,g12,g13,g14,g15,g16,g17,g18,g19,g20,g21,g22,g23,g24,fun _=>rfl,g26,g27,(fun h=>absurd (show L 14=true from h) (by rw[h11];simp))⟩
       ·refine fun L a w'=>ex8 fun _ _ _ _ _ _ _ _=>ex4 fun _ _ _ _=>ex2 fun _ _=>un16 fun ha hb g0 g1 g2 g3 g4 g5 g6 g7 g8 g9 g10 g11 g12 g13=>un8 fun g14 g15 g16 g17 g18 g19 g20 g21=>un4 fun g22 g23 g24 g25=>un2 fun g26 g27 g28 hl hd K hK=>?_;subst ha
        simp[Region.binds]at hd;dsimp only at hK ⊢;have e6:=g6 (by simp[hd]);subst e6;have e11:=g11 (by simp[hd]);subst e11;have h11:L 14=false:=by
         cases h:L 14 with
         | false=>rfl
         | true=>have:=g26 h;rw[hl]at this;cases this
        have hb:=hb h11;go_wp2_with fail
        refine (HV.out _).mono ?_;rintro _ _ ⟨rfl,rfl⟩;exact hK _ _ ⟨_,_,_,_,_,_,_,_,_,_,_,_,_,_,rfl,fun _=>hb,g0,g1,g2,g3,g4,g5,g6,g7,g8,g9,g10,g11,fun _=>rfl,g13,g14,g15,g16,g17,g18,g19,g20,g21,g22,g23,g24,g25,fun _=>rfl,g27,(fun h=>absurd (show L 14=true from h) (by rw[h11];simp))⟩
       ·refine fun L a w'=>ex8 fun _ _ _ _ _ _ _ _=>ex4 fun _ _ _ _=>ex2 fun _ _=>un16 fun ha hb g0 g1 g2 g3 g4 g5 g6 g7 g8 g9 g10 g11 g12 g13=>un8 fun g14 g15 g16 g17 g18 g19 g20 g21=>un4 fun g22 g23 g24 g25=>un2 fun g26 g27 g28 hl hd K hK=>?_;subst ha
        simp[Region.binds]at hd;dsimp only at hK ⊢;have e0:=g0 (by simp[hd]);subst e0;have e1:=g1 (by simp[hd]);subst e1;have h11:L 14=false:=by
         cases h:L 14 with
         | false=>rfl
         | true=>have:=g27 h;rw[hl]at this;cases this
        have hb:=hb h11;go_simp;exact hK _ _ ⟨_,_,_,_,_,_,_,_,_,_,_,_,_,_,rfl,fun _=>hb,g0,g1,g2,g3,g4,g5,g6,g7,g8,g9,g10,g11,g12,fun _=>rfl,g14,g15,g16,g17,g18,g19,g20,g21,g22,g23,g24,g25,g26,fun _=>rfl,(fun h=>absurd (show L 14=true from h) (by rw[h11];simp))⟩
       ·refine fun L a w'=>ex8 fun _ _ _ _ _ _ _ _=>ex4 fun _ _ _ _=>ex2 fun _ _=>un16 fun ha hb g0 g1 g2 g3 g4 g5 g6 g7 g8 g9 g10 g11 g12 g13=>un8 fun g14 g15 g16 g17 g18 g19 g20 g21=>un4 fun g22 g23 g24 g25=>un2 fun g26 g27 g28 hl hd K hK=>?_;subst ha
        simp[Region.binds]at hd;dsimp only at hK ⊢;have e13:=g13 (by simp[hd]);subst e13;have e12:=g12 (by simp[hd]);subst e12;have hb:=hb hl;have OO:=own_below VO.out hb;have kc:=own_cellI OO hzo;have kf:=own_frozI OO k;have hgb:=(OO.lt G rfl).1;have d0:L 0=true:=by simp[hd]
        have d1:L 1=true:=by simp[hd]
        have d2:L 2=true:=by simp[hd]
        have d3:L 3=true:=by simp[hd]
        have d4:L 4=true:=by simp[hd]
        have d5:L 5=true:=by simp[hd]
        have d6:L 6=true:=by simp[hd]
        have d7:L 7=true:=by simp[hd]
        have d8:L 8=true:=by simp[hd]
        have d9:L 9=true:=by simp[hd]
        have d10:L 10=true:=by simp[hd]
        have d11:L 11=true:=by simp[hd]
        have d12:L 12=true:=by simp[hd]
        have d13:L 13=true:=by simp[hd]
        go_simp;exact hK _ _ ⟨_,_,_,_,_,_,_,_,_,_,_,_,_,_,rfl,nofun,g0,g1,g2,g3,g4,g5,g6,g7,g8,g9,g10,g11,g12,g13,fun _=>d0,fun _=>d1,fun _=>d2,fun _=>d3,fun _=>d4,fun _=>d5,fun _=>d6,fun _=>d7,fun _=>d8,fun _=>d9,fun _=>d10,fun _=>d11,fun _=>d12,fun _=>d13,fun _=>⟨_,hb,rfl⟩⟩
      intro a w9 hI
      revert hI;refine ex8 fun _ _ _ _ _ _ _ _=>ex4 fun _ _ _ _=>ex2 fun _ _=>un16 fun ha hb g0 g1 g2 g3 g4 g5 g6 g7 g8 g9 g10 g11 g12 g13=>un8 fun g14 g15 g16 g17 g18 g19 g20 g21=>un4 fun g22 g23 g24 g25=>un2 fun g26 g27 g28=>?_;subst ha
      obtain ⟨X,hX,rfl⟩:=g28 rfl;have OO:=own_below VO.out hX;have hgb:=(OO.lt G rfl).1;obtain ⟨zn,hzn⟩:∃ zn:Int,truI lf p k=zn:=⟨_,rfl⟩
      rw[hzn];have HZ:=Lib.hid (TrTo.set hz.out HLT.out (z:=zn) hzn.symm);have kg:=grownBy_set X ⟨G,k,none⟩ (.int .i64 zn);obtain ⟨Y,hY⟩:∃ Y,X.setCell ⟨G,k,none⟩ (.int .i64 zn)=Y:=⟨_,rfl⟩
      have YO:=Lib.hid (own_setI (j:=k) (z:=zn) OO);rw[hY]at YO kg ⊢;have YS:=Lib.hid ((VS.out.below hX VS.out.lt).row kg (show w.heap.size≠G by omega));have YB:=Lib.hid (below_row (bst VB.out hX) kg (show w.heap.size≤G by omega) (bst VB.out hX).size);clear g0 g1 g2 g3 g4 g5 g6 g7 g8 g9 g10 g11 g12 g13 g14 g15 g16 g17 g18 g19 g20 g21 g22 g23 g24 g25 g26 g27 hb hX OO hzo kg hzn hY;go_wp2;go_roundw
      case rel=>exact ⟨k+1,zs.set k zn,HLT.out,by go_num,HZ,YO.out,YS.out,YB.out⟩
      case measure=>have:=HLT.out;simp[intOf];omega
     ·have HT:=Lib.hid (show andT (truI lf p ea) (truI lf p eb)=truI lf p k from (tr_and HX.out (by omega) hea' hak heb' hbk).symm);have HV:=Lib.hid (fun X=>rand_any (truI lf p ea) (truI lf p eb) X ra.1 ra.2 rb.1 rb.2);obtain ⟨ta,hta⟩:∃ q,truI lf p ea=q:=⟨_,rfl⟩
      obtain ⟨tb,htb⟩:∃ q,truI lf p eb=q:=⟨_,rfl⟩
      rw[hta]at HT HV hcA;rw[htb]at HT HV hcB;have q9:(x.op==9)=true:=by rw[beq_iff_eq];omega
      have q10:(x.op==10)=false:=by rw[beq_eq_false_iff_ne];omega
      have q11:(x.op==11)=false:=by rw[beq_eq_false_iff_ne];omega
      clear hta htb h9 a0 a1 b0 b1 hb hea heb ra rb h10 h11;have bb:=VE.out;have n0:=bb.cell 0;have n1:=bb.cell 1;have n2:=bb.cell 2;have n3:=bb.cell 3;have n4:=bb.cell 4;have n5:=bb.cell 5;have n6:=bb.cell 6;have n7:=bb.cell 7;simp only[jA,jZ,jS]at n0 n1 n2 n3 n4 n5 n6 n7;clear bb;rw[HT.out]at HV;go_upto_region 10 with (fail)
      clear q9 q10 q11;clear n0 n1 n2 n3 n4 n5 n6 n7;have hlA:ea<p.length:=by omega
      have hlB:eb<p.length:=by omega
      have HEA:=Lib.hid hea';have HEB:=Lib.hid heb';have HCA:=Lib.hid hcA;have HCB:=Lib.hid hcB;clear hcA hcB hea' heb';obtain ⟨zo,hzo⟩:∃ zo,zs[k]?=some zo:=⟨_,List.getElem?_eq_getElem (by rw[hz.out.1];exact HLT.out)⟩
      refine wp_region_inv (by kernel_rfl) (by kernel_rfl) (fun L a w'=>∃ u38 u39 u40 u41 u42 u43 u44 u45 u46 u47 u48 u49 u50 u51:Value,a=⟨#[.agg #[.slice A cs.length cA,.int .i64 key],.slice (some ad) p.length cP,.slice AR row.length cR,.pointer (some ⟨w.heap.size,0,none⟩),undef,undef,.int .i64 0,.slice (some ⟨G,0,none⟩) p.length p.length,.int .i64 k,.pointer (some ⟨N5,0,none⟩),.slice (some ad) p.length cP,.int .i64 p.length,.bool false,.slice (some ad) p.length cP,.int .i64 p.length,.slice (some ⟨G,0,none⟩) p.length p.length,.slice (some ad) p.length cP,.int .i64 p.length,.int .i64 k,.bool true,.int .i64 k,.pointer (some px),.agg #[.int .i64 x.op,.int .i64 x.col,.bool x.v.nu,.int .i64 x.v.n,.string x.v.s,.slice AU x.l.length cU,.int .i64 x.a,.int .i64 x.b],.pointer (some ⟨N5,0,none⟩),.int .i64 x.op,u25,u26,u27,u28,u29,u30,u31,u32,u33,u34,u35,.bool true,.bool true,u38,u39,u40,u41,u42,u43,u44,u45,u46,u47,u48,u49,u50,u51,u52,u53,u54,u55,u56,u57,u58,u59,u60,u61,u62,u63,u64,u65,u66,u67,u68,u69,u70,u71,u72,u73,u74,u75,u76,u77,u78,u79,undef,undef,undef,undef,undef,undef],[]⟩ ∧
        (L 14=false→Below V.heap.size V w')∧Got (L 0) u38 (.slice (some ⟨G,0,none⟩) p.length p.length)∧Got (L 1) u39 (.int .i64 (k:Int))∧Got (L 2) u40 (.slice (some ⟨G,0,none⟩) p.length p.length)∧Got (L 3) u41 (.pointer (some ⟨N5,6,none⟩))∧Got (L 4) u42 (.int .i64 (ea:Int))∧Got (L 5) u43 (.pointer (some ⟨G,ea,none⟩))∧Got (L 6) u44 (.int .i64 ta)∧Got (L 7) u45 (.slice (some ⟨G,0,none⟩) p.length p.length)∧Got (L 8) u46 (.pointer (some ⟨N5,7,none⟩))∧Got (L 9) u47 (.int .i64 (eb:Int))∧Got (L 10) u48 (.pointer (some ⟨G,eb,none⟩))∧Got (L 11) u49 (.int .i64 tb)∧Got (L 12) u50 (.int .i64 (truI lf p k))∧Got (L 13) u51 (.pointer (some ⟨G,k,none⟩))∧(L 14=true→L 0=true)∧(L 14=true→L 1=true)∧(L 14=true→L 2=true)∧(L 14=true→L 3=true)∧(L 14=true→L 4=true)∧(L 14=true→L 5=true)∧(L 14=true→L 6=true)∧(L 14=true→L 7=true)∧(L 14=true→L 8=true)∧(L 14=true→L 9=true)∧(L 14=true→L 10=true)∧(L 14=true→L 11=true)∧(L 14=true→L 12=true)∧(L 14=true→L 13=true)∧(L 14=true→∃ X,Below V.heap.size V X∧w'=X.setCell ⟨G,k,none⟩ (.int .i64 (truI lf p k))))
       ?_ ?_ ?_
      ·exact ⟨_,_,_,_,_,_,_,_,_,_,_,_,_,_,rfl,(fun _=>(Below.refl _ _).drew),nofun,nofun,nofun,nofun,nofun,nofun,nofun,nofun,nofun,nofun,nofun,nofun,nofun,nofun,nofun,nofun,nofun,nofun,nofun,nofun,nofun,nofun,nofun,nofun,nofun,nofun,nofun,nofun,nofun⟩
      ·refine ⟨?_,?_,?_,?_,?_,?_,?_,?_,?_,?_,?_,?_,?_,?_,?_,trivial⟩
       ·refine fun L a w'=>ex8 fun _ _ _ _ _ _ _ _=>ex4 fun _ _ _ _=>ex2 fun _ _=>un16 fun ha hb g0 g1 g2 g3 g4 g5 g6 g7 g8 g9 g10 g11 g12 g13=>un8 fun g14 g15 g16 g17 g18 g19 g20 g21=>un4 fun g22 g23 g24 g25=>un2 fun g26 g27 g28 hl hd K hK=>?_;subst ha
        dsimp only at hK ⊢;have h11:L 14=false:=by
         cases h:L 14 with
         | false=>rfl
         | true=>have:=g14 h;rw[hl]at this;cases this
        have hb:=hb h11;go_simp;exact hK _ _ ⟨_,_,_,_,_,_,_,_,_,_,_,_,_,_,rfl,fun _=>hb,fun _=>rfl,g1,g2,g3,g4,g5,g6,g7,g8,g9,g10,g11,g12,g13,fun _=>rfl,g15,g16,g17,g18,g19,g20,g21,g22,g23,g24,g25,g26,g27,(fun h=>absurd (show L 14=true from h) (by rw[h11];simp))⟩
       ·refine fun L a w'=>ex8 fun _ _ _ _ _ _ _ _=>ex4 fun _ _ _ _=>ex2 fun _ _=>un16 fun ha hb g0 g1 g2 g3 g4 g5 g6 g7 g8 g9 g10 g11 g12 g13=>un8 fun g14 g15 g16 g17 g18 g19 g20 g21=>un4 fun g22 g23 g24 g25=>un2 fun g26 g27 g28 hl hd K hK=>?_;subst ha
        dsimp only at hK ⊢;have h11:L 14=false:=by
         cases h:L 14 with
         | false=>rfl
         | true=>have:=g15 h;rw[hl]at this;cases this
        have hb:=hb h11;go_simp;exact hK _ _ ⟨_,_,_,_,_,_,_,_,_,_,_,_,_,_,rfl,fun _=>hb,g0,fun _=>rfl,g2,g3,g4,g5,g6,g7,g8,g9,g10,g11,g12,g13,g14,fun _=>rfl,g16,g17,g18,g19,g20,g21,g22,g23,g24,g25,g26,g27,(fun h=>absurd (show L 14=true from h) (by rw[h11];simp))⟩
       ·refine fun L a w'=>ex8 fun _ _ _ _ _ _ _ _=>ex4 fun _ _ _ _=>ex2 fun _ _=>un16 fun ha hb g0 g1 g2 g3 g4 g5 g6 g7 g8 g9 g10 g11 g12 g13=>un8 fun g14 g15 g16 g17 g18 g19 g20 g21=>un4 fun g22 g23 g24 g25=>un2 fun g26 g27 g28 hl hd K hK=>?_;subst ha
        dsimp only at hK ⊢;have h11:L 14=false:=by
         cases h:L 14 with
         | false=>rfl
         | true=>have:=g16 h;rw[hl]at this;cases this
        have hb:=hb h11;go_simp;exact hK _ _ ⟨_,_,_,_,_,_,_,_,_,_,_,_,_,_,rfl,fun _=>hb,g0,g1,fun _=>rfl,g3,g4,g5,g6,g7,g8,g9,g10,g11,g12,g13,g14,g15,fun _=>rfl,g17,g18,g19,g20,g21,g22,g23,g24,g25,g26,g27,(fun h=>absurd (show L 14=true from h) (by rw[h11];simp))⟩
       ·refine fun L a w'=>ex8 fun _ _ _ _ _ _ _ _=>ex4 fun _ _ _ _=>ex2 fun _ _=>un16 fun ha hb g0 g1 g2 g3 g4 g5 g6 g7 g8 g9 g10 g11 g12 g13=>un8 fun g14 g15 g16 g17 g18 g19 g20 g21=>un4 fun g22 g23 g24 g25=>un2 fun g26 g27 g28 hl hd K hK=>?_;subst ha
        dsimp only at hK ⊢;have h11:L 14=false:=by
         cases h:L 14 with
         | false=>rfl
         | true=>have:=g17 h;rw[hl]at this;cases this
        have hb:=hb h11;go_simp;exact hK _ _ ⟨_,_,_,_,_,_,_,_,_,_,_,_,_,_,rfl,fun _=>hb,g0,g1,g2,fun _=>rfl,g4,g5,g6,g7,g8,g9,g10,g11,g12,g13,g14,g15,g16,fun _=>rfl,g18,g19,g20,g21,g22,g23,g24,g25,g26,g27,(fun h=>absurd (show L 14=true from h) (by rw[h11];simp))⟩
       ·refine fun L a w'=>ex8 fun _ _ _ _ _ _ _ _=>ex4 fun _ _ _ _=>ex2 fun _ _=>un16 fun ha hb g0 g1 g2 g3 g4 g5 g6 g7 g8 g9 g10 g11 g12 g13=>un8 fun g14 g15 g16 g17 g18 g19 g20 g21=>un4 fun g22 g23 g24 g25=>un2 fun g26 g27 g28 hl hd K hK=>?_;subst ha
        simp[Region.binds]at hd;dsimp only at hK ⊢;have e3:=g3 (by simp[hd]);subst e3;have h11:L 14=false:=by
         cases h:L 14 with
         | false=>rfl
         | true=>have:=g18 h;rw[hl]at this;cases this
        have hb:=hb h11;have bb:=VE.out.below hb VE.out.lt;have n0:=bb.cell 0;have n1:=bb.cell 1;have n2:=bb.cell 2;have n3:=bb.cell 3;have n4:=bb.cell 4;have n5:=bb.cell 5;have n6:=bb.cell 6;have n7:=bb.cell 7;simp only[jA,jZ,jS]at n0 n1 n2 n3 n4 n5 n6 n7;rw[HEA.out]at n6;rw[HEB.out]at n7;clear bb;go_simp;exact hK _ _ ⟨_,_,_,_,_,_,_,_,_,_,_,_,_,_,rfl,fun _=>hb,g0,g1,g2,g3,fun _=>rfl,g5,g6,g7,g8,g9,g10,g11,g12,g13,g14,g15,g16,g17,fun _=>rfl,g19,g20,g21,g22,g23,g24,g25,g26,g27,(fun h=>absurd (show L 14=true from h) (by rw[h11];simp))⟩
       ·refine fun L a w'=>ex8 fun _ _ _ _ _ _ _ _=>ex4 fun _ _ _ _=>ex2 fun _ _=>un16 fun ha hb g0 g1 g2 g3 g4 g5 g6 g7 g8 g9 g10 g11 g12 g13=>un8 fun g14 g15 g16 g17 g18 g19 g20 g21=>un4 fun g22 g23 g24 g25=>un2 fun g26 g27 g28 hl hd K hK=>?_;subst ha
        simp[Region.binds]at hd;dsimp only at hK ⊢;have e2:=g2 (by simp[hd]);subst e2;have e4:=g4 (by simp[hd]);subst e4;have h11:L 14=false:=by
         cases h:L 14 with
         | false=>rfl
         | true=>have:=g19 h;rw[hl]at this;cases this
        have hb:=hb h11;go_simp;exact hK _ _ ⟨_,_,_,_,_,_,_,_,_,_,_,_,_,_,rfl,fun _=>hb,g0,g1,g2,g3,g4,fun _=>rfl,g6,g7,g8,g9,g10,g11,g12,g13,g14,g15,g16,g17,g18,fun _=>rfl,g20,g21,g22,g23,g24,g25,g26,g27,(fun h=>absurd (show L 14=true from h) (by rw[h11];simp))⟩
       ·refine fun L a w'=>ex8 fun _ _ _ _ _ _ _ _=>ex4 fun _ _ _ _=>ex2 fun _ _=>un16 fun ha hb g0 g1 g2 g3 g4 g5 g6 g7 g8 g9 g10 g11 g12 g13=>un8 fun g14 g15 g16 g17 g18 g19 g20 g21=>un4 fun g22 g23 g24 g25=>un2 fun g26 g27 g28 hl hd K hK=>?_;subst ha
        simp[Region.binds]at hd;dsimp only at hK ⊢;have e5:=g5 (by simp[hd]);subst e5;have h11:L 14=false:=by
         cases h:L 14 with
         | false=>rfl
         | true=>have:=g20 h;rw[hl]at this;cases this
        have hb:=hb h11;have cc:=(hb.cell (p:=⟨G,ea,none⟩) (by show G<_;have:=(VO.out.lt G rfl).2;exact this)).trans HCA.out;go_simp;exact hK _ _ ⟨_,_,_,_,_,_,_,_,_,_,_,_,_,_,rfl,fun _=>hb,g0,g1,g2,g3,g4,g5,fun _=>rfl,g7,g8,g9,g10,g11,g12,g13,g14,g15,g16,g17,g18,g19,fun _=>rfl,g21,g22,g23,g24,g25,g26,g27,(fun h=>absurd (show L 14=true from h) (by rw[h11];simp))⟩
       ·refine fun L a w'=>ex8 fun _ _ _ _ _ _ _ _=>ex4 fun _ _ _ _=>ex2 fun _ _=>un16 fun ha hb g0 g1 g2 g3 g4 g5 g6 g7 g8 g9 g10 g11 g12 g13=>un8 fun g14 g15 g16 g17 g18 g19 g20 g21=>un4 fun g22 g23 g24 g25=>un2 fun g26 g27 g28 hl hd K hK=>?_;subst ha
        dsimp only at hK ⊢;have h11:L 14=false:=by
         cases h:L 14 with
         | false=>rfl
         | true=>have:=g21 h;rw[hl]at this;cases this
        have hb:=hb h11;go_simp;exact hK _ _ ⟨_,_,_,_,_,_,_,_,_,_,_,_,_,_,rfl,fun _=>hb,g0,g1,g2,g3,g4,g5,g6,fun _=>rfl,g8,g9,g10,g11,g12,g13,g14,g15,g16,g17,g18,g19,g20,fun _=>rfl,g22,g23,g24,g25,g26,g27,(fun h=>absurd (show L 14=true from h) (by rw[h11];simp))⟩
       ·refine fun L a w'=>ex8 fun _ _ _ _ _ _ _ _=>ex4 fun _ _ _ _=>ex2 fun _ _=>un16 fun ha hb g0 g1 g2 g3 g4 g5 g6 g7 g8 g9 g10 g11 g12 g13=>un8 fun g14 g15 g16 g17 g18 g19 g20 g21=>un4 fun g22 g23 g24 g25=>un2 fun g26 g27 g28 hl hd K hK=>?_;subst ha
        dsimp only at hK ⊢;have h11:L 14=false:=by
         cases h:L 14 with
         | false=>rfl
         | true=>have:=g22 h;rw[hl]at this;cases this
        have hb:=hb h11;go_simp;exact hK _ _ ⟨_,_,_,_,_,_,_,_,_,_,_,_,_,_,rfl,fun _=>hb,g0,g1,g2,g3,g4,g5,g6,g7,fun _=>rfl,g9,g10,g11,g12,g13,g14,g15,g16,g17,g18,g19,g20,g21,fun _=>rfl,g23,g24,g25,g26,g27,(fun h=>absurd (show L 14=true from h) (by rw[h11];simp))⟩
       ·refine fun L a w'=>ex8 fun _ _ _ _ _ _ _ _=>ex4 fun _ _ _ _=>ex2 fun _ _=>un16 fun ha hb g0 g1 g2 g3 g4 g5 g6 g7 g8 g9 g10 g11 g12 g13=>un8 fun g14 g15 g16 g17 g18 g19 g20 g21=>un4 fun g22 g23 g24 g25=>un2 fun g26 g27 g28 hl hd K hK=>?_;subst ha
        simp[Region.binds]at hd;dsimp only at hK ⊢;have e8:=g8 (by simp[hd]);subst e8;have h11:L 14=false:=by
         cases h:L 14 with
         | false=>rfl
         | true=>have:=g23 h;rw[hl]at this;cases this
        have hb:=hb h11;have bb:=VE.out.below hb VE.out.lt;have n0:=bb.cell 0;have n1:=bb.cell 1;have n2:=bb.cell 2;have n3:=bb.cell 3;have n4:=bb.cell 4;have n5:=bb.cell 5;have n6:=bb.cell 6;have n7:=bb.cell 7;simp only[jA,jZ,jS]at n0 n1 n2 n3 n4 n5 n6 n7;rw[HEA.out]at n6;rw[HEB.out]at n7;clear bb;go_simp;exact hK _ _ ⟨_,_,_,_,_,_,_,_,_,_,_,_,_,_,rfl,fun _=>hb,g0,g1,g2,g3,g4,g5,g6,g7,g8,fun _=>rfl,g10,g11,g12,g13,g14,g15,g16,g17,g18,g19,g20,g21,g22,fun _=>rfl,g24,g25,g26,g27,(fun h=>absurd (show L 14=true from h) (by rw[h11];simp))⟩
       ·refine fun L a w'=>ex8 fun _ _ _ _ _ _ _ _=>ex4 fun _ _ _ _=>ex2 fun _ _=>un16 fun ha hb g0 g1 g2 g3 g4 g5 g6 g7 g8 g9 g10 g11 g12 g13=>un8 fun g14 g15 g16 g17 g18 g19 g20 g21=>un4 fun g22 g23 g24 g25=>un2 fun g26 g27 g28 hl hd K hK=>?_;subst ha
        simp[Region.binds]at hd;dsimp only at hK ⊢;have e7:=g7 (by simp[hd]);subst e7;have e9:=g9 (by simp[hd]);subst e9;have h11:L 14=false:=by
         cases h:L 14 with
         | false=>rfl
         | true=>have:=g24 h;rw[hl]at this;cases this
        have hb:=hb h11;go_simp;exact hK _ _ ⟨_,_,_,_,_,_,_,_,_,_,_,_,_,_,rfl,fun _=>hb,g0,g1,g2,g3,g4,g5,g6,g7,g8,g9,fun _=>rfl,g11,g12,g13,g14,g15,g16,g17,g18,g19,g20,g21,g22,g23,fun _=>rfl,g25,g26,g27,(fun h=>absurd (show L 14=true from h) (by rw[h11];simp))⟩
       ·refine fun L a w'=>ex8 fun _ _ _ _ _ _ _ _=>ex4 fun _ _ _ _=>ex2 fun _ _=>un16 fun ha hb g0 g1 g2 g3 g4 g5 g6 g7 g8 g9 g10 g11 g12 g13=>un8 fun g14 g15 g16 g17 g18 g19 g20 g21=>un4 fun g22 g23 g24 g25=>un2 fun g26 g27 g28 hl hd K hK=>?_;subst ha
        simp[Region.binds]at hd;dsimp only at hK ⊢;have e10:=g10 (by simp[hd]);subst e10;have h11:L 14=false:=by
         cases h:L 14 with
         | false=>rfl
         | true=>have:=g25 h;rw[hl]at this;cases this
        have hb:=hb h11;have cc:=(hb.cell (p:=⟨G,eb,none⟩) (by show G<_;have:=(VO.out.lt G rfl).2;exact this)).trans HCB.out;go_simp;exact hK _ _ ⟨_,_,_,_,_,_,_,_,_,_,_,_,_,_,rfl,fun _=>hb,g0,g1,g2,g3,g4,g5,g6,g7,g8,g9,g10,fun _=>rfl,g12,g13,g14,g15,g16,g17,g18,g19,g20,g21,g22,g23,g24,fun _=>rfl,g26,g27,(fun h=>absurd (show L 14=true from h) (by rw[h11];simp))⟩
       ·refine fun L a w'=>ex8 fun _ _ _ _ _ _ _ _=>ex4 fun _ _ _ _=>ex2 fun _ _=>un16 fun ha hb g0 g1 g2 g3 g4 g5 g6 g7 g8 g9 g10 g11 g12 g13=>un8 fun g14 g15 g16 g17 g18 g19 g20 g21=>un4 fun g22 g23 g24 g25=>un2 fun g26 g27 g28 hl hd K hK=>?_;subst ha
        simp[Region.binds]at hd;dsimp only at hK ⊢;have e6:=g6 (by simp[hd]);subst e6;have e11:=g11 (by simp[hd]);subst e11;have h11:L 14=false:=by
         cases h:L 14 with
         | false=>rfl
         | true=>have:=g26 h;rw[hl]at this;cases this
        have hb:=hb h11;go_wp2_with fail
        refine (HV.out _).mono ?_;rintro _ _ ⟨rfl,rfl⟩;exact hK _ _ ⟨_,_,_,_,_,_,_,_,_,_,_,_,_,_,rfl,fun _=>hb,g0,g1,g2,g3,g4,g5,g6,g7,g8,g9,g10,g11,fun _=>rfl,g13,g14,g15,g16,g17,g18,g19,g20,g21,g22,g23,g24,g25,fun _=>rfl,g27,(fun h=>absurd (show L 14=true from h) (by rw[h11];simp))⟩
       ·refine fun L a w'=>ex8 fun _ _ _ _ _ _ _ _=>ex4 fun _ _ _ _=>ex2 fun _ _=>un16 fun ha hb g0 g1 g2 g3 g4 g5 g6 g7 g8 g9 g10 g11 g12 g13=>un8 fun g14 g15 g16 g17 g18 g19 g20 g21=>un4 fun g22 g23 g24 g25=>un2 fun g26 g27 g28 hl hd K hK=>?_;subst ha
        simp[Region.binds]at hd;dsimp only at hK ⊢;have e0:=g0 (by simp[hd]);subst e0;have e1:=g1 (by simp[hd]);subst e1;have h11:L 14=false:=by
         cases h:L 14 with
         | false=>rfl
         | true=>have:=g27 h;rw[hl]at this;cases this
        have hb:=hb h11;go_simp;exact hK _ _ ⟨_,_,_,_,_,_,_,_,_,_,_,_,_,_,rfl,fun _=>hb,g0,g1,g2,g3,g4,g5,g6,g7,g8,g9,g10,g11,g12,fun _=>rfl,g14,g15,g16,g17,g18,g19,g20,g21,g22,g23,g24,g25,g26,fun _=>rfl,(fun h=>absurd (show L 14=true from h) (by rw[h11];simp))⟩
       ·refine fun L a w'=>ex8 fun _ _ _ _ _ _ _ _=>ex4 fun _ _ _ _=>ex2 fun _ _=>un16 fun ha hb g0 g1 g2 g3 g4 g5 g6 g7 g8 g9 g10 g11 g12 g13=>un8 fun g14 g15 g16 g17 g18 g19 g20 g21=>un4 fun g22 g23 g24 g25=>un2 fun g26 g27 g28 hl hd K hK=>?_;subst ha
        simp[Region.binds]at hd;dsimp only at hK ⊢;have e13:=g13 (by simp[hd]);subst e13;have e12:=g12 (by simp[hd]);subst e12;have hb:=hb hl;have OO:=own_below VO.out hb;have kc:=own_cellI OO hzo;have kf:=own_frozI OO k;have hgb:=(OO.lt G rfl).1;have d0:L 0=true:=by simp[hd]
        have d1:L 1=true:=by simp[hd]
        have d2:L 2=true:=by simp[hd]
        have d3:L 3=true:=by simp[hd]
        have d4:L 4=true:=by simp[hd]
        have d5:L 5=true:=by simp[hd]
        have d6:L 6=true:=by simp[hd]
        have d7:L 7=true:=by simp[hd]
        have d8:L 8=true:=by simp[hd]
        have d9:L 9=true:=by simp[hd]
        have d10:L 10=true:=by simp[hd]
        have d11:L 11=true:=by simp[hd]
        have d12:L 12=true:=by simp[hd]
        have d13:L 13=true:=by simp[hd]
        go_simp;exact hK _ _ ⟨_,_,_,_,_,_,_,_,_,_,_,_,_,_,rfl,nofun,g0,g1,g2,g3,g4,g5,g6,g7,g8,g9,g10,g11,g12,g13,fun _=>d0,fun _=>d1,fun _=>d2,fun _=>d3,fun _=>d4,fun _=>d5,fun _=>d6,fun _=>d7,fun _=>d8,fun _=>d9,fun _=>d10,fun _=>d11,fun _=>d12,fun _=>d13,fun _=>⟨_,hb,rfl⟩⟩
      intro a w9 hI
      revert hI;refine ex8 fun _ _ _ _ _ _ _ _=>ex4 fun _ _ _ _=>ex2 fun _ _=>un16 fun ha hb g0 g1 g2 g3 g4 g5 g6 g7 g8 g9 g10 g11 g12 g13=>un8 fun g14 g15 g16 g17 g18 g19 g20 g21=>un4 fun g22 g23 g24 g25=>un2 fun g26 g27 g28=>?_;subst ha
      obtain ⟨X,hX,rfl⟩:=g28 rfl;have OO:=own_below VO.out hX;have hgb:=(OO.lt G rfl).1;obtain ⟨zn,hzn⟩:∃ zn:Int,truI lf p k=zn:=⟨_,rfl⟩
      rw[hzn];have HZ:=Lib.hid (TrTo.set hz.out HLT.out (z:=zn) hzn.symm);have kg:=grownBy_set X ⟨G,k,none⟩ (.int .i64 zn);obtain ⟨Y,hY⟩:∃ Y,X.setCell ⟨G,k,none⟩ (.int .i64 zn)=Y:=⟨_,rfl⟩
      have YO:=Lib.hid (own_setI (j:=k) (z:=zn) OO);rw[hY]at YO kg ⊢;have YS:=Lib.hid ((VS.out.below hX VS.out.lt).row kg (show w.heap.size≠G by omega));have YB:=Lib.hid (below_row (bst VB.out hX) kg (show w.heap.size≤G by omega) (bst VB.out hX).size);clear g0 g1 g2 g3 g4 g5 g6 g7 g8 g9 g10 g11 g12 g13 g14 g15 g16 g17 g18 g19 g20 g21 g22 g23 g24 g25 g26 g27 hb hX OO hzo kg hzn hY;go_wp2;go_roundw
      case rel=>exact ⟨k+1,zs.set k zn,HLT.out,by go_num,HZ,YO.out,YS.out,YB.out⟩
      case measure=>have:=HLT.out;simp[intOf];omega
  ·have qm:decide (k<p.length)=false:=decide_eq_false hlt;obtain ⟨j,hj⟩:∃ j,p.length=j+1:=⟨p.length - 1,by omega⟩
   have hcE:=own_cellI hown (hz.out.2 j (by omega));have HEE:=Lib.hid (show E=truI lf p j by rw[HE.out,hj];rfl);have wj:IntKind.i64.wrap ((p.length:Int) - 1)=(j:Int):=by rw[hj,show ((j+1:Nat):Int) - 1=(j:Int) by omega];exact IntWalk.i64_in _ (by omega)
   have qj:decide (j<p.length)=true:=decide_eq_true (by omega);have qj':((j:Int)<(p.length:Int))=True:=eq_true (by omega);have HBB:=Lib.hid hbel;clear hbel hown bS hj;go_wp2;go_ret;exact ⟨by rw[HEE.out];rfl,HBB.out⟩
end Go.Proofs.YtjnamjkdjcndiaaGreatDoor
