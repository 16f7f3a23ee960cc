/-
 The walk of PredtextMutations.
-/
import Derived.Test.YtjnamjkdjcndiaaGreatDoorM22
import Derived.Test.YtjnamjkdjcndiaaGreatDoorM23
namespace Go.Proofs.YtjnamjkdjcndiaaGreatDoor
open Go.RowKit Go.Sort

theorem conv_one22 {P:Program} (w:World) (x:Int) {src e:TypeId} (hs:P.underlying src=some (.slice e)) (he:P.underlying e=some (.int .u8)) :
  ∀ dst,P.underlying dst=some .string→(convert src dst (.slice (some ⟨w.heap.size,0,none⟩) 1 1)).run P (w.alloc (.cells #[.int .u8 x] e))=.ok (.string (strOfNums [x])) (w.alloc (.cells #[.int .u8 x] e)) :=
 run_convert_bytes_arg _ src e hs he w.heap.size 0 1 1 [x] rfl (fun i hi=>by
  obtain rfl:i=0:=by omega
  exact (Blk.new w e #[.int .u8 x]).cell 0)
set_option maxRecDepth 100000 in
set_option maxHeartbeats 8000000 in
theorem predtextMutations_walk (xv lv:Value) (xs ls:List Int) (at' how c:Int) (w:World) (hE:Env w)
  (hx:Sl w 1 xv xs.length (ints xs)) (hxl:xs.length≤9223372036854775807) (hxr:∀ x ∈ xs,-9223372036854775808≤x∧x≤9223372036854775807)
  (hl:Sl w 1 lv ls.length (ints ls)) (hll:ls.length≤9223372036854775807) (hlr:∀ x ∈ ls,-9223372036854775808≤x∧x≤9223372036854775807) (hc0:0≤c) (hc1:c≤255) :
  Calls Tryz.prog 4 #[xv,lv,.int .i64 at',.int .i64 how,.int .u8 c] w fun e w'=>e=.returned (.bool true)∧Below w.heap.size w w':=by
 obtain ⟨AX,cX,rfl,_,_⟩:=hx.form;obtain ⟨AL,cL,rfl,_,_⟩:=hl.form;have HKS:=Lib.hid (kschema_any _ xs w hx hxl hxr);have HL:=Lib.hid (⟨hl,hll,hlr⟩:_∧_∧_);have HE:=Lib.hid hE;clear hx hxl hxr hl hll hlr hE;go_enter Tryz.func4,Tryz.ntmps4
 go_wp2_with fail
 refine HKS.out.mono ?_;rintro _ w1 ⟨yv,y,yk,rfl,hy1,hy4,hg,hk0,hk1,hys,hb1⟩;obtain ⟨AY,cY,rfl,_,_⟩:=hys.form;obtain ⟨W2,hW2⟩:∃ W,W=w1.alloc (.cells #[.slice AY y.length cY,.int .i64 yk] 28):=⟨_,rfl⟩
 have ha2:Below w1.heap.size w1 W2:=by rw[hW2];exact below_new _ _
 have HB2:=Lib.hid (bst hb1 ha2);have BY2:=Lib.hid (show Blk W2 w1.heap.size 28 #[.slice AY y.length cY,.int .i64 yk] by rw[hW2];exact Blk.new _ _ _);have HYS:=Lib.hid (hys.below ha2);have HG:=Lib.hid hg;have HV:=Lib.hid (gen_valid hy1 hy4 hg hk0 hk1);obtain ⟨N,hN⟩:∃ N,w1.heap.size=N:=⟨_,rfl⟩
 go_upto_region 2 with (fail)
 rw[←hW2];try simp only[hN]
 rw[hN]at BY2;clear hW2 hN hb1 ha2 hys hg hk0 hk1 HKS;refine wp_region_inv (by kernel_rfl) (by kernel_rfl) (fun L a w'=>∃ u19 u20 u21 u22 u23 u18 u24 u25 u12 u13:Value,a=⟨#[.slice AX xs.length cX,.slice AL ls.length cL,.int .i64 at',.int .i64 how,.int .u8 c,undef,undef,undef,undef,undef,.bool false,.pointer (some ⟨N,0,none⟩),u12,u13,undef,undef,.slice AX xs.length cX,.agg #[.slice AY y.length cY,.int .i64 yk],u18,u19,u20,u21,u22,u23,u24,u25,undef,undef,undef,undef,undef,undef,undef,undef,undef,undef,undef,undef,undef,undef,undef,undef,undef,undef,undef,undef,undef,undef,undef,undef,undef,undef,undef,undef,undef,undef,undef,undef,undef,undef,undef,undef,undef,undef,undef,undef,undef,undef,undef,undef,undef,undef,undef,undef,undef,undef,undef,undef,undef,undef,undef,undef,undef,undef,undef,undef,undef,undef,undef,undef,undef,undef,undef,undef],[]⟩ ∧
   Below W2.heap.size W2 w'∧Got (L 0) u19 (.agg #[.slice AY y.length cY,.int .i64 yk])∧Got (L 1) u20 (.agg #[.slice AY y.length cY,.int .i64 yk])∧Got (L 2) u21 (.slice AL ls.length cL)∧(L 3=true→∃ pl,SlNd w' u22 pl∧GenP y pl)∧(L 4=true→∃ pl,GenP y pl∧u23=.tuple #[.string ⟨(fmtP y yk pl).1.toArray⟩,.int .i64 (fmtP y yk pl).2]∧(L 5=true→u18=.tuple #[.string ⟨(fmtP y yk pl).1.toArray⟩,.int .i64 (fmtP y yk pl).2])∧(L 6=true→u24=.string ⟨(fmtP y yk pl).1.toArray⟩)∧(L 7=true→u25=.int .i64 (fmtP y yk pl).2)∧(L 8=true→u12=.string ⟨(fmtP y yk pl).1.toArray⟩)∧(L 9=true→u13=.int .i64 (fmtP y yk pl).2))∧(L 5=true→L 4=true)∧(L 6=true→L 5=true)∧(L 7=true→L 5=true)∧(L 8=true→L 6=true)∧(L 9=true→L 7=true))
  ?_ ?_ ?_
 ·exact ⟨_,_,_,_,_,_,_,_,_,_,rfl,(Below.refl _ _).drew,nofun,nofun,nofun,nofun,nofun,nofun,nofun,nofun,nofun,nofun⟩
 ·refine ⟨?_,?_,?_,?_,?_,?_,?_,?_,?_,?_,trivial⟩
  ·refine fun L a w'=>ex8 fun _ _ _ _ _ _ _ _=>ex2 fun _ _=>un8 fun ha hb g0 g1 g2 g3 g4 g5=>un2 fun g6 g7=>un1 fun g8 g9 hl hd K hK=>?_;subst ha
   dsimp only at hK ⊢;have bb:=BY2.out.below hb BY2.out.lt;have s0:=bb.cell 0;have s1:=bb.cell 1;simp only[jA,jZ,jS]at s0 s1;go_simp;exact hK _ _ ⟨_,_,_,_,_,_,_,_,_,_,rfl,hb,fun _=>rfl,g1,g2,g3,g4,g5,g6,g7,g8,g9⟩
  ·refine fun L a w'=>ex8 fun _ _ _ _ _ _ _ _=>ex2 fun _ _=>un8 fun ha hb g0 g1 g2 g3 g4 g5=>un2 fun g6 g7=>un1 fun g8 g9 hl hd K hK=>?_;subst ha
   dsimp only at hK ⊢;have bb:=BY2.out.below hb BY2.out.lt;have s0:=bb.cell 0;have s1:=bb.cell 1;simp only[jA,jZ,jS]at s0 s1;go_simp;exact hK _ _ ⟨_,_,_,_,_,_,_,_,_,_,rfl,hb,g0,fun _=>rfl,g2,g3,g4,g5,g6,g7,g8,g9⟩
  ·refine fun L a w'=>ex8 fun _ _ _ _ _ _ _ _=>ex2 fun _ _=>un8 fun ha hb g0 g1 g2 g3 g4 g5=>un2 fun g6 g7=>un1 fun g8 g9 hl hd K hK=>?_;subst ha
   dsimp only at hK ⊢;go_simp;exact hK _ _ ⟨_,_,_,_,_,_,_,_,_,_,rfl,hb,g0,g1,fun _=>rfl,g3,g4,g5,g6,g7,g8,g9⟩
  ·refine fun L a w'=>ex8 fun _ _ _ _ _ _ _ _=>ex2 fun _ _=>un8 fun ha hb g0 g1 g2 g3 g4 g5=>un2 fun g6 g7=>un1 fun g8 g9 hl hd K hK=>?_;subst ha
   simp[Region.binds]at hd;dsimp only at hK ⊢;have e1:=g1 (by simp[hd]);subst e1;have e2:=g2 (by simp[hd]);subst e2;go_wp2_with fail
   with_reducible refine (kpred_any _ _ yk y ls w' (HYS.out.below hb) (by omega) (by omega) (gen_ty2 HG.out) (HL.out.1.below (bst HB2.out hb)) HL.out.2.1 HL.out.2.2).mono ?_
   rintro _ w4 ⟨pv4,pl4,rfl,hgp4,hsp4,hb4⟩;exact hK _ _ ⟨_,_,_,_,_,_,_,_,_,_,rfl,bst hb hb4,g0,g1,g2,fun _=>⟨pl4,hsp4,hgp4⟩,g4,g5,g6,g7,g8,g9⟩
  ·refine fun L a w'=>ex8 fun _ _ _ _ _ _ _ _=>ex2 fun _ _=>un8 fun ha hb g0 g1 g2 g3 g4 g5=>un2 fun g6 g7=>un1 fun g8 g9 hl hd K hK=>?_;subst ha
   simp[Region.binds]at hd;dsimp only at hK ⊢;have e0:=g0 (by simp[hd]);subst e0;have hl9:=hl;obtain ⟨pl,hsp,hgp⟩:=g3 (by simp[hd]);obtain ⟨A22,c22,e22,_,_⟩:=hsp.form;subst e22;have h5:L 5=false:=by
    cases h:L 5 with
    | false=>rfl
    | true=>have:=g5 h;rw[hl9]at this;cases this
   have h6:L 6=false:=by
    cases h:L 6 with
    | false=>rfl
    | true=>have:=g5 (g6 h);rw[hl9]at this;cases this
   have h7:L 7=false:=by
    cases h:L 7 with
    | false=>rfl
    | true=>have:=g5 (g7 h);rw[hl9]at this;cases this
   have h8:L 8=false:=by
    cases h:L 8 with
    | false=>rfl
    | true=>have:=g5 (g6 (g8 h));rw[hl9]at this;cases this
   have h9:L 9=false:=by
    cases h:L 9 with
    | false=>rfl
    | true=>have:=g5 (g7 (g9 h));rw[hl9]at this;cases this
   go_wp2_with fail
   refine (rfmt_any _ _ yk y pl w' ⟨(HE.out.below (bst HB2.out hb)).1,HYS.out.below hb,hsp⟩ (hgp.bd2 hy4 (gen_nm2 HG.out))).mono ?_;rintro _ w4 ⟨rfl,hb4⟩;exact hK _ _ ⟨_,_,_,_,_,_,_,_,_,_,rfl,bst hb hb4,g0,g1,g2,fun _=>⟨pl,hsp.below hb4,hgp⟩,fun _=>⟨pl,hgp,rfl,(fun h=>absurd (show L 5=true from h) (by rw[h5];simp)),(fun h=>absurd (show L 6=true from h) (by rw[h6];simp)),(fun h=>absurd (show L 7=true from h) (by rw[h7];simp)),(fun h=>absurd (show L 8=true from h) (by rw[h8];simp)),(fun h=>absurd (show L 9=true from h) (by rw[h9];simp))⟩,fun _=>rfl,g6,g7,g8,g9⟩
  ·refine fun L a w'=>ex8 fun _ _ _ _ _ _ _ _=>ex2 fun _ _=>un8 fun ha hb g0 g1 g2 g3 g4 g5=>un2 fun g6 g7=>un1 fun g8 g9 hl hd K hK=>?_;subst ha
   simp[Region.binds]at hd;dsimp only at hK ⊢;have h4:L 4=true:=by simp[hd]
   obtain ⟨pl,hgp,rfl,q5,q6,q7,q8,q9⟩:=g4 h4;have Q5:=Lib.hid q5;have Q6:=Lib.hid q6;have Q7:=Lib.hid q7;have Q8:=Lib.hid q8;have Q9:=Lib.hid q9;clear q5 q6 q7 q8 q9;go_simp;exact hK _ _ ⟨_,_,_,_,_,_,_,_,_,_,rfl,hb,g0,g1,g2,g3,fun _=>⟨pl,hgp,rfl,fun _=>rfl,Q6.out,Q7.out,Q8.out,Q9.out⟩,fun _=>h4,fun _=>rfl,fun _=>rfl,g8,g9⟩
  ·refine fun L a w'=>ex8 fun _ _ _ _ _ _ _ _=>ex2 fun _ _=>un8 fun ha hb g0 g1 g2 g3 g4 g5=>un2 fun g6 g7=>un1 fun g8 g9 hl hd K hK=>?_;subst ha
   simp[Region.binds]at hd;dsimp only at hK ⊢;have h5:L 5=true:=by simp[hd]
   have h4:L 4=true:=g5 h5;obtain ⟨pl,hgp,rfl,q5,q6,q7,q8,q9⟩:=g4 h4;have Q5:=Lib.hid q5;have Q6:=Lib.hid q6;have Q7:=Lib.hid q7;have Q8:=Lib.hid q8;have Q9:=Lib.hid q9;clear q5 q6 q7 q8 q9;have e22:=Q5.out h5;subst e22;go_simp;exact hK _ _ ⟨_,_,_,_,_,_,_,_,_,_,rfl,hb,g0,g1,g2,g3,fun _=>⟨pl,hgp,rfl,fun _=>rfl,fun _=>rfl,Q7.out,Q8.out,Q9.out⟩,g5,fun _=>h5,g7,fun _=>rfl,g9⟩
  ·refine fun L a w'=>ex8 fun _ _ _ _ _ _ _ _=>ex2 fun _ _=>un8 fun ha hb g0 g1 g2 g3 g4 g5=>un2 fun g6 g7=>un1 fun g8 g9 hl hd K hK=>?_;subst ha
   simp[Region.binds]at hd;dsimp only at hK ⊢;have h5:L 5=true:=by simp[hd]
   have h4:L 4=true:=g5 h5;obtain ⟨pl,hgp,rfl,q5,q6,q7,q8,q9⟩:=g4 h4;have Q5:=Lib.hid q5;have Q6:=Lib.hid q6;have Q7:=Lib.hid q7;have Q8:=Lib.hid q8;have Q9:=Lib.hid q9;clear q5 q6 q7 q8 q9;have e22:=Q5.out h5;subst e22;go_simp;exact hK _ _ ⟨_,_,_,_,_,_,_,_,_,_,rfl,hb,g0,g1,g2,g3,fun _=>⟨pl,hgp,rfl,fun _=>rfl,Q6.out,fun _=>rfl,Q8.out,Q9.out⟩,g5,g6,fun _=>h5,g8,fun _=>rfl⟩
  ·refine fun L a w'=>ex8 fun _ _ _ _ _ _ _ _=>ex2 fun _ _=>un8 fun ha hb g0 g1 g2 g3 g4 g5=>un2 fun g6 g7=>un1 fun g8 g9 hl hd K hK=>?_;subst ha
   simp[Region.binds]at hd;dsimp only at hK ⊢;have h6:L 6=true:=by simp[hd]
   have h5:L 5=true:=g6 h6;have h4:L 4=true:=g5 h5;obtain ⟨pl,hgp,rfl,q5,q6,q7,q8,q9⟩:=g4 h4;have Q5:=Lib.hid q5;have Q6:=Lib.hid q6;have Q7:=Lib.hid q7;have Q8:=Lib.hid q8;have Q9:=Lib.hid q9;clear q5 q6 q7 q8 q9;have e22:=Q5.out h5;subst e22;have e28:=Q6.out h6;subst e28;go_simp;exact hK _ _ ⟨_,_,_,_,_,_,_,_,_,_,rfl,hb,g0,g1,g2,g3,fun _=>⟨pl,hgp,rfl,fun _=>rfl,fun _=>rfl,Q7.out,fun _=>rfl,Q9.out⟩,g5,g6,g7,fun _=>h6,g9⟩
  ·refine fun L a w'=>ex8 fun _ _ _ _ _ _ _ _=>ex2 fun _ _=>un8 fun ha hb g0 g1 g2 g3 g4 g5=>un2 fun g6 g7=>un1 fun g8 g9 hl hd K hK=>?_;subst ha
   simp[Region.binds]at hd;dsimp only at hK ⊢;have h7:L 7=true:=by simp[hd]
   have h5:L 5=true:=g7 h7;have h4:L 4=true:=g5 h5;obtain ⟨pl,hgp,rfl,q5,q6,q7,q8,q9⟩:=g4 h4;have Q5:=Lib.hid q5;have Q6:=Lib.hid q6;have Q7:=Lib.hid q7;have Q8:=Lib.hid q8;have Q9:=Lib.hid q9;clear q5 q6 q7 q8 q9;have e22:=Q5.out h5;subst e22;have e29:=Q7.out h7;subst e29;go_simp;exact hK _ _ ⟨_,_,_,_,_,_,_,_,_,_,rfl,hb,g0,g1,g2,g3,fun _=>⟨pl,hgp,rfl,fun _=>rfl,Q6.out,fun _=>rfl,Q8.out,fun _=>rfl⟩,g5,g6,g7,g8,fun _=>h7⟩
 intro a w9 hI
 revert hI;refine ex8 fun _ _ _ _ _ _ _ _=>ex2 fun _ _=>un8 fun ha hb g0 g1 g2 g3 g4 g5=>un2 fun g6 g7=>un1 fun g8 g9=>?_;subst ha
 obtain ⟨pl,hgp,_,_,_,_,e8,_⟩:=g4 rfl;have e8:=e8 rfl;subst e8;obtain ⟨T,hT⟩:∃ T:ByteArray,(⟨(fmtP y yk pl).1.toArray⟩:ByteArray)=T:=⟨_,rfl⟩
 have HB9:=Lib.hid (bst HB2.out hb);have BY9:=Lib.hid (BY2.out.below hb BY2.out.lt);have HY9:=Lib.hid (HYS.out.below hb);have hTs:T.size≤65536:=by
  rw[←size_data,←hT];exact (sp_law (hgp.good HV.out) HV.out 1 rfl rfl).1
 have HNM:=Lib.hid (show ∀ c ∈ y,c.nm.size≤9223372036854775807 from fun c hc=>by have:=gen_nm2 HG.out c hc;omega);rw[hT];clear g0 g1 g2 g3 g4 g5 g6 g7 g8 g9 hb hgp hT BY2 HYS HB2;by_cases hT0:T.size=0
 ·obtain ⟨e1,e2⟩:=empty_of (W:=T) (l:=[]) (by have:=size_data T;rw[hT0]at this;exact List.length_eq_zero_iff.1 this) rfl;clear hT0;go_wp2_with fail
  refine (awake22_any w9 (HE.out.below HB9.out).1).mono ?_;rintro _ v1 ⟨rfl,hv1⟩;have HBv:=Lib.hid (bst HB9.out hv1);have BYv:=Lib.hid (BY9.out.below hv1 BY9.out.lt);have HYv:=Lib.hid (HY9.out.below hv1);clear hv1;have bb:=BYv.out;have s0:=bb.cell 0;have s1:=bb.cell 1;simp only[jA,jZ,jS]at s0 s1;clear bb;go_wp2_with fail
  refine (parses22_any _ yk y { data:=#[] } v1 (HE.out.below HBv.out) HYv.out (by omega) HNM.out (by decide)).mono ?_;rintro _ v2 ⟨rfl,hv2⟩;have HBw:=Lib.hid (bst HBv.out hv2);clear hv2 s0 s1;go_wp2;go_ret;exact ⟨rfl,HBw.out⟩
 ·have e1:=full_of (W:=T) (l:=T.data.toList) rfl (by intro h;have:=size_data T;rw[h]at this;exact hT0 this.symm);have p1:=pick_lo at' T.size (by omega);have p2:=pick_hi at' T.size (by omega);have HPK:=Lib.hid (fun X=>pick_any at' T.size X (by omega) (by omega));obtain ⟨k,hk⟩:∃ k:Nat,pick at' T.size=k:=⟨(pick at' T.size).toNat,by omega⟩
  rw[hk]at p1 p2 HPK;have hkT:k<T.size:=by omega
  clear hk p1 p2 hT0;go_wp2_with fail
  refine (HPK.out _).mono ?_;rintro _ _ ⟨rfl,rfl⟩;clear HPK;have cv:=fun (X:World)=>conv_one22 (P:=Tryz.prog) X c Tryz.underlying41 Tryz.underlying5
  obtain ⟨B0,hB0⟩:∃ B,strOfNums [c]=B:=⟨_,rfl⟩
  have hB0s:B0.size≤1:=by rw[←hB0];simp[strOfNums,ByteArray.size]
  obtain ⟨X9,hX9⟩:∃ X,X=w9.alloc (.cells #[.int .u8 c] 5):=⟨_,rfl⟩
  have ha9:Below w9.heap.size w9 X9:=by rw[hX9];exact below_new _ _
  have HBX:=Lib.hid (bst HB9.out ha9);have BYX:=Lib.hid (BY9.out.below ha9 BY9.out.lt);have HYX:=Lib.hid (HY9.out.below ha9);go_upto_region 7 with (fail)
  try rw[hB0]
  try simp only[hB0]
  rw[←hX9];clear cv hB0 hX9 ha9 BY9 HY9 HB9;obtain ⟨Q,hQ⟩:∃ Q,pick (wrap64 (how.tdiv 4)) 2=Q:=⟨_,rfl⟩
  have HPQ:=Lib.hid (fun X=>pick_any (wrap64 (how.tdiv 4)) 2 X (by omega) (by omega));rw[hQ]at HPQ;obtain ⟨P,hP⟩:∃ P,pick how 4=P:=⟨_,rfl⟩
  have HPP:=Lib.hid (fun X=>pick_any how 4 X (by omega) (by omega));rw[hP]at HPP;have hk1:(k:Int)≤T.size:=by omega
  have hk2:(k:Int)+1≤T.size:=by omega
  have wk1:IntKind.i64.wrap ((k:Int)+1)=(k:Int)+1:=IntWalk.i64_in _ (by omega);have z1:(T.extract 0 k).size=k:=by rw[ByteArray.size_extract];omega
  have z2:(T.extract (k+1) T.size).size=T.size - (k+1):=by rw[ByteArray.size_extract];omega
  have z3:(T.extract k T.size).size=T.size - k:=by rw[ByteArray.size_extract];omega
  clear hQ hP;go_wp2_with fail
  refine (HPQ.out _).mono ?_;rintro _ _ ⟨rfl,rfl⟩;clear HPQ;by_cases hq:Q=0
  ·have qa:(Q==0)=true:=by rw[beq_iff_eq];exact hq
   obtain ⟨D,hD⟩:∃ D:Nat,c % 5=D:=⟨(c % 5).toNat,by omega⟩
   have hD5:D<5:=by omega
   have hDt:c.tmod 5=(D:Int):=by rw[Int.tmod_eq_emod_of_nonneg hc0];exact hD
   have wd1:IntKind.u8.wrap (D:Int)=(D:Int):=by rw[IntKind.wrap_u8];omega
   have wd2:IntKind.u8.wrap ((D:Int)+1)=(D:Int)+1:=by rw[IntKind.wrap_u8];omega
   have hDa:(D:Int)≤(D:Int)+1:=by omega
   have hDb:(D:Int)+1≤5:=by omega
   have hBs:(ByteArray.extract { data:=#[40,41,32,97,51] } D (D+1)).size≤1:=by rw[ByteArray.size_extract];omega
   obtain ⟨B,hB⟩:∃ B,ByteArray.extract { data:=#[40,41,32,97,51] } D (D+1)=B:=⟨_,rfl⟩
   rw[hB]at hBs;go_upto_region 9 with (fail)
   clear hB hB0s hD hD5 hDt wd1 wd2 hDa hDb hq;go_wp2_with fail
   refine (HPP.out _).mono ?_;rintro _ _ ⟨rfl,rfl⟩;clear HPP;have m1:¬9223372036854775807<k+B.size:=by omega
   have m2:¬9223372036854775807<k+B.size+(T.size - (k+1)):=by omega
   have m3:¬9223372036854775807<k+B.size+(T.size - k):=by omega
   have m4:¬9223372036854775807<k+(T.size - (k+1)):=by omega
   by_cases h0:P=0
   ·have r0:(P==0)=true:=by rw[beq_iff_eq];exact h0
    go_wp2_with fail
    go_quiet (fail)
    have HBd:=Lib.hid (below_drewN HBX.out nq);have BYd:=Lib.hid (BYX.out.drewN nq);have HYd:=Lib.hid (HYX.out.drewN nq);go_wp2_with fail
    refine (awake22_any _ (HE.out.below HBd.out).1).mono ?_;rintro _ v1 ⟨rfl,hv1⟩;have HBv:=Lib.hid (bst HBd.out hv1);have BYv:=Lib.hid (BYd.out.below hv1 BYd.out.lt);have HYv:=Lib.hid (HYd.out.below hv1);clear hv1;have bb:=BYv.out;have s0:=bb.cell 0;have s1:=bb.cell 1;simp only[jA,jZ,jS]at s0 s1;clear bb;go_wp2_with fail
    refine (parses22_any _ yk y _ v1 (HE.out.below HBv.out) HYv.out (by omega) HNM.out (by simp only[ByteArray.size_append,ByteArray.size_extract];omega)).mono ?_;rintro _ v2 ⟨rfl,hv2⟩;have HBw:=Lib.hid (bst HBv.out hv2);clear hv2 s0 s1;go_wp2;go_ret;exact ⟨rfl,HBw.out⟩
   ·by_cases h1:P=1
    ·have r0:(P==0)=false:=by rw[beq_eq_false_iff_ne];exact h0
     have r1:(P==1)=true:=by rw[beq_iff_eq];exact h1
     go_wp2_with fail
     go_quiet (fail)
     have HBd:=Lib.hid (below_drewN HBX.out nq);have BYd:=Lib.hid (BYX.out.drewN nq);have HYd:=Lib.hid (HYX.out.drewN nq);go_wp2_with fail
     refine (awake22_any _ (HE.out.below HBd.out).1).mono ?_;rintro _ v1 ⟨rfl,hv1⟩;have HBv:=Lib.hid (bst HBd.out hv1);have BYv:=Lib.hid (BYd.out.below hv1 BYd.out.lt);have HYv:=Lib.hid (HYd.out.below hv1);clear hv1;have bb:=BYv.out;have s0:=bb.cell 0;have s1:=bb.cell 1;simp only[jA,jZ,jS]at s0 s1;clear bb;go_wp2_with fail
     refine (parses22_any _ yk y _ v1 (HE.out.below HBv.out) HYv.out (by omega) HNM.out (by simp only[ByteArray.size_append,ByteArray.size_extract];omega)).mono ?_;rintro _ v2 ⟨rfl,hv2⟩;have HBw:=Lib.hid (bst HBv.out hv2);clear hv2 s0 s1;go_wp2;go_ret;exact ⟨rfl,HBw.out⟩
    ·by_cases h2:P=2
     ·have r0:(P==0)=false:=by rw[beq_eq_false_iff_ne];exact h0
      have r1:(P==1)=false:=by rw[beq_eq_false_iff_ne];exact h1
      have r2:(P==2)=true:=by rw[beq_iff_eq];exact h2
      go_wp2_with fail
      go_quiet (fail)
      have HBd:=Lib.hid (below_drewN HBX.out nq);have BYd:=Lib.hid (BYX.out.drewN nq);have HYd:=Lib.hid (HYX.out.drewN nq);go_wp2_with fail
      refine (awake22_any _ (HE.out.below HBd.out).1).mono ?_;rintro _ v1 ⟨rfl,hv1⟩;have HBv:=Lib.hid (bst HBd.out hv1);have BYv:=Lib.hid (BYd.out.below hv1 BYd.out.lt);have HYv:=Lib.hid (HYd.out.below hv1);clear hv1;have bb:=BYv.out;have s0:=bb.cell 0;have s1:=bb.cell 1;simp only[jA,jZ,jS]at s0 s1;clear bb;go_wp2_with fail
      refine (parses22_any _ yk y _ v1 (HE.out.below HBv.out) HYv.out (by omega) HNM.out (by simp only[ByteArray.size_append,ByteArray.size_extract];omega)).mono ?_;rintro _ v2 ⟨rfl,hv2⟩;have HBw:=Lib.hid (bst HBv.out hv2);clear hv2 s0 s1;go_wp2;go_ret;exact ⟨rfl,HBw.out⟩
     ·have r0:(P==0)=false:=by rw[beq_eq_false_iff_ne];exact h0
      have r1:(P==1)=false:=by rw[beq_eq_false_iff_ne];exact h1
      have r2:(P==2)=false:=by rw[beq_eq_false_iff_ne];exact h2
      have HBd:=HBX;have BYd:=BYX;have HYd:=HYX;go_wp2_with fail
      refine (awake22_any _ (HE.out.below HBd.out).1).mono ?_;rintro _ v1 ⟨rfl,hv1⟩;have HBv:=Lib.hid (bst HBd.out hv1);have BYv:=Lib.hid (BYd.out.below hv1 BYd.out.lt);have HYv:=Lib.hid (HYd.out.below hv1);clear hv1;have bb:=BYv.out;have s0:=bb.cell 0;have s1:=bb.cell 1;simp only[jA,jZ,jS]at s0 s1;clear bb;go_wp2_with fail
      refine (parses22_any _ yk y _ v1 (HE.out.below HBv.out) HYv.out (by omega) HNM.out (by simp only[ByteArray.size_append,ByteArray.size_extract];omega)).mono ?_;rintro _ v2 ⟨rfl,hv2⟩;have HBw:=Lib.hid (bst HBv.out hv2);clear hv2 s0 s1;go_wp2;go_ret;exact ⟨rfl,HBw.out⟩
  ·have qa:(Q==0)=false:=by rw[beq_eq_false_iff_ne];exact hq
   have hBs:=hB0s;clear hB0s hq;go_wp2_with fail
   refine (HPP.out _).mono ?_;rintro _ _ ⟨rfl,rfl⟩;clear HPP;have m1:¬9223372036854775807<k+B0.size:=by omega
   have m2:¬9223372036854775807<k+B0.size+(T.size - (k+1)):=by omega
   have m3:¬9223372036854775807<k+B0.size+(T.size - k):=by omega
   have m4:¬9223372036854775807<k+(T.size - (k+1)):=by omega
   by_cases h0:P=0
   ·have r0:(P==0)=true:=by rw[beq_iff_eq];exact h0
    go_wp2_with fail
    go_quiet (fail)
    have HBd:=Lib.hid (below_drewN HBX.out nq);have BYd:=Lib.hid (BYX.out.drewN nq);have HYd:=Lib.hid (HYX.out.drewN nq);go_wp2_with fail
    refine (awake22_any _ (HE.out.below HBd.out).1).mono ?_;rintro _ v1 ⟨rfl,hv1⟩;have HBv:=Lib.hid (bst HBd.out hv1);have BYv:=Lib.hid (BYd.out.below hv1 BYd.out.lt);have HYv:=Lib.hid (HYd.out.below hv1);clear hv1;have bb:=BYv.out;have s0:=bb.cell 0;have s1:=bb.cell 1;simp only[jA,jZ,jS]at s0 s1;clear bb;go_wp2_with fail
    refine (parses22_any _ yk y _ v1 (HE.out.below HBv.out) HYv.out (by omega) HNM.out (by simp only[ByteArray.size_append,ByteArray.size_extract];omega)).mono ?_;rintro _ v2 ⟨rfl,hv2⟩;have HBw:=Lib.hid (bst HBv.out hv2);clear hv2 s0 s1;go_wp2;go_ret;exact ⟨rfl,HBw.out⟩
   ·by_cases h1:P=1
    ·have r0:(P==0)=false:=by rw[beq_eq_false_iff_ne];exact h0
     have r1:(P==1)=true:=by rw[beq_iff_eq];exact h1
     go_wp2_with fail
     go_quiet (fail)
     have HBd:=Lib.hid (below_drewN HBX.out nq);have BYd:=Lib.hid (BYX.out.drewN nq);have HYd:=Lib.hid (HYX.out.drewN nq);go_wp2_with fail
     refine (awake22_any _ (HE.out.below HBd.out).1).mono ?_;rintro _ v1 ⟨rfl,hv1⟩;have HBv:=Lib.hid (bst HBd.out hv1);have BYv:=Lib.hid (BYd.out.below hv1 BYd.out.lt);have HYv:=Lib.hid (HYd.out.below hv1);clear hv1;have bb:=BYv.out;have s0:=bb.cell 0;have s1:=bb.cell 1;simp only[jA,jZ,jS]at s0 s1;clear bb;go_wp2_with fail
     refine (parses22_any _ yk y _ v1 (HE.out.below HBv.out) HYv.out (by omega) HNM.out (by simp only[ByteArray.size_append,ByteArray.size_extract];omega)).mono ?_;rintro _ v2 ⟨rfl,hv2⟩;have HBw:=Lib.hid (bst HBv.out hv2);clear hv2 s0 s1;go_wp2;go_ret;exact ⟨rfl,HBw.out⟩
    ·by_cases h2:P=2
     ·have r0:(P==0)=false:=by rw[beq_eq_false_iff_ne];exact h0
      have r1:(P==1)=false:=by rw[beq_eq_false_iff_ne];exact h1
      have r2:(P==2)=true:=by rw[beq_iff_eq];exact h2
      go_wp2_with fail
      go_quiet (fail)
      have HBd:=Lib.hid (below_drewN HBX.out nq);have BYd:=Lib.hid (BYX.out.drewN nq);have HYd:=Lib.hid (HYX.out.drewN nq);go_wp2_with fail
      refine (awake22_any _ (HE.out.below HBd.out).1).mono ?_;rintro _ v1 ⟨rfl,hv1⟩;have HBv:=Lib.hid (bst HBd.out hv1);have BYv:=Lib.hid (BYd.out.below hv1 BYd.out.lt);have HYv:=Lib.hid (HYd.out.below hv1);clear hv1;have bb:=BYv.out;have s0:=bb.cell 0;have s1:=bb.cell 1;simp only[jA,jZ,jS]at s0 s1;clear bb;go_wp2_with fail
      refine (parses22_any _ yk y _ v1 (HE.out.below HBv.out) HYv.out (by omega) HNM.out (by simp only[ByteArray.size_append,ByteArray.size_extract];omega)).mono ?_;rintro _ v2 ⟨rfl,hv2⟩;have HBw:=Lib.hid (bst HBv.out hv2);clear hv2 s0 s1;go_wp2;go_ret;exact ⟨rfl,HBw.out⟩
     ·have r0:(P==0)=false:=by rw[beq_eq_false_iff_ne];exact h0
      have r1:(P==1)=false:=by rw[beq_eq_false_iff_ne];exact h1
      have r2:(P==2)=false:=by rw[beq_eq_false_iff_ne];exact h2
      have HBd:=HBX;have BYd:=BYX;have HYd:=HYX;go_wp2_with fail
      refine (awake22_any _ (HE.out.below HBd.out).1).mono ?_;rintro _ v1 ⟨rfl,hv1⟩;have HBv:=Lib.hid (bst HBd.out hv1);have BYv:=Lib.hid (BYd.out.below hv1 BYd.out.lt);have HYv:=Lib.hid (HYd.out.below hv1);clear hv1;have bb:=BYv.out;have s0:=bb.cell 0;have s1:=bb.cell 1;simp only[jA,jZ,jS]at s0 s1;clear bb;go_wp2_with fail
      refine (parses22_any _ yk y _ v1 (HE.out.below HBv.out) HYv.out (by omega) HNM.out (by simp only[ByteArray.size_append,ByteArray.size_extract];omega)).mono ?_;rintro _ v2 ⟨rfl,hv2⟩;have HBw:=Lib.hid (bst HBv.out hv2);clear hv2 s0 s1;go_wp2;go_ret;exact ⟨rfl,HBw.out⟩
end Go.Proofs.YtjnamjkdjcndiaaGreatDoor
