/-
  Words, plain laws and contracts on which the walks lean, in one text.
-/
import Derived.Test.YtjnamjkdjcndiaaGreatDoorM6
import Derived.Test.YtjnamjkdjcndiaaGreatDoorSrc
import Derived.Test.YtjnamjkdjcndiaaGreatDoorM5
import Derived.Test.YtjnamjkdjcndiaaGreatDoorM1
import Derived.Test.YtjnamjkdjcndiaaGreatDoorM22
namespace Go.Proofs.YtjnamjkdjcndiaaGreatDoor
open Go.RowKit Go.Sort
set_option linter.unusedVariables false
def nmC (k:Nat):ByteArray:=⟨#[UInt8.ofNat (96+k)]⟩
structure ColGen (N i:Nat) (c:Col):Prop where
 nm:c.nm=nmC (N - i)
 ty:1≤c.ty∧c.ty≤5
 sc:0≤c.sc∧c.sc≤3
 sz:c.ty≠5→c.sc=0
def GenS (N:Nat) (l:List Col):Prop:=∀ i c,l[i]?=some c→ColGen N i c
theorem GenS.snoc {N:Nat} {l:List Col} {c:Col} (h:GenS N l) (hc:ColGen N l.length c):GenS N (l ++ [c]):=by
 intro i d hd
 by_cases hi:i<l.length
 ·rw[List.getElem?_append_left hi]at hd;exact h i d hd
 ·rw[List.getElem?_append_right (by omega)]at hd
  by_cases h0:i=l.length
  ·subst h0;simp at hd;subst hd;exact hc
  ·rw[List.getElem?_eq_none (by simp;omega)]at hd;cases hd

theorem NdAt.below {w w':World} {p:Addr} {x:Nd} {u:Value} (h:NdAt w p x u) (hb:Below w.heap.size w w'):NdAt w' p x u :=
 ⟨Nat.lt_of_lt_of_le h.lt hb.size,(hb.cell h.lt).trans h.c0,(hb.cell (p:=⟨p.block,p.off+1,none⟩) h.lt).trans h.c1,(hb.cell (p:=⟨p.block,p.off+2,none⟩) h.lt).trans h.c2,(hb.cell (p:=⟨p.block,p.off+3,none⟩) h.lt).trans h.c3,(hb.cell (p:=⟨p.block,p.off+4,none⟩) h.lt).trans h.c4,(hb.cell (p:=⟨p.block,p.off+5,none⟩) h.lt).trans h.c5,(hb.cell (p:=⟨p.block,p.off+6,none⟩) h.lt).trans h.c6,(hb.cell (p:=⟨p.block,p.off+7,none⟩) h.lt).trans h.c7⟩
set_option maxRecDepth 100000 in
set_option maxHeartbeats 8000000 in
theorem samend_eq (a b:Value) (l:List Nd) (w:World) (ha:SlNd w a l) (hb:SlNd w b l) :
  Calls Tryz.prog 13 #[a,b] w fun e w'=>e=.returned (.bool true)∧Below w.heap.size w w':=by
 obtain ⟨A,c,rfl,hc1,hc2⟩:=ha.form
 obtain ⟨A',c',rfl,hc1',hc2'⟩:=hb.form
 unfold maxLen at hc2 hc2'
 have HA:=Lib.hid ha
 have HB:=Lib.hid hb
 clear ha hb
 go_enter Tryz.func13,Tryz.ntmps13
 go_wp2
 go_loopw [15] (fun i wr=>∃ (k:Nat),k≤l.length∧i=.int .i64 k∧Below w.heap.size w wr) (fun i _=>l.length - (intOf i).toNat)
 case atStart=>exact ⟨0,by omega,rfl,Below.refl _ _⟩
 case round =>
  obtain ⟨k,hk,rfl,hbel⟩:=hrel
  have HW:=Lib.hid hbel
  by_cases hlt:k<l.length
  ·have qk:decide (k<l.length)=true:=decide_eq_true hlt
   have pk:(k<l.length)=True:=eq_true hlt
   obtain ⟨ad,x,u,pa,rfl,hx,hpa,hEA,hua⟩:=(HA.out.below hbel).nd_load rfl hlt
   obtain ⟨bd,y,u2,pb,rfl,hy,hpb,hEB,hub⟩:=(HB.out.below hbel).nd_load rfl hlt
   rw[hx]at hy
   injection hy with hy
   subst hy
   obtain ⟨AU,cU,rfl,_,_⟩:=hua.form
   obtain ⟨BU,dU,rfl,_,_⟩:=hub.form
   have HEA:=Lib.hid hEA
   have HEB:=Lib.hid hEB
   have HUA:=Lib.hid hua
   have HUB:=Lib.hid hub
   have HPA:=Lib.hid hpa
   have HPB:=Lib.hid hpb
   clear hx hEA hEB hua hub hbel
   go_upto_region 6 with (fail)

   refine wp_region_inv (by kernel_rfl) (by kernel_rfl) (fun L a w'=>∃ u18 u19 u20 u21 u22 u23 u24 u25 u6 u7:Value,a=⟨#[.slice (some ad) l.length c,.slice (some bd) l.length c',undef,undef,u4,.int .i64 k,u6,u7,.slice (some ad) l.length c,.int .i64 l.length,.slice (some bd) l.length c',.int .i64 l.length,.bool false,.slice (some ad) l.length c,.int .i64 l.length,.int .i64 k,.bool true,.int .i64 k,u18,u19,u20,u21,u22,u23,u24,u25,u26,u27,u28,u29,u30,u31,u32,u33,u34,u35,u36,u37,u38,u39,u40,u41,u42,u43,u44,u45,u46,u47,u48,u49,u50,u51,u52,u53,u54,u55,u56,u57,u58,u59,u60,u61,u62,u63,u64,u65,u66,u67],[]⟩ ∧
     Below wr.heap.size wr w'∧Got (L 0) u18 (.slice (some ad) l.length c)∧Got (L 1) u19 (.int .i64 (k:Int))∧Got (L 2) u20 (.pointer (some pa))∧Got (L 3) u21 (.agg #[.int .i64 x.op,.int .i64 x.col,.bool x.v.nu,.int .i64 x.v.n,.string x.v.s,.slice AU x.l.length cU,.int .i64 x.a,.int .i64 x.b])∧Got (L 4) u22 (.slice (some bd) l.length c')∧Got (L 5) u23 (.int .i64 (k:Int))∧Got (L 6) u24 (.pointer (some pb))∧Got (L 7) u25 (.agg #[.int .i64 x.op,.int .i64 x.col,.bool x.v.nu,.int .i64 x.v.n,.string x.v.s,.slice BU x.l.length dU,.int .i64 x.a,.int .i64 x.b])∧(L 8=true→∃ A,u6=.pointer (some ⟨A,0,none⟩)∧wr.heap.size≤A∧(L 10=false→Blk w' A 66 #[.int .i64 0,.int .i64 0,.bool false,.int .i64 0,.string { data:=#[] },.slice none 0 0,.int .i64 0,.int .i64 0])∧(L 10=true→Blk w' A 66 #[.int .i64 x.op,.int .i64 x.col,.bool x.v.nu,.int .i64 x.v.n,.string x.v.s,.slice AU x.l.length cU,.int .i64 x.a,.int .i64 x.b])∧A<w'.heap.size)∧(L 9=true→∃ A,u7=.pointer (some ⟨A,0,none⟩)∧wr.heap.size≤A∧(L 11=false→Blk w' A 66 #[.int .i64 0,.int .i64 0,.bool false,.int .i64 0,.string { data:=#[] },.slice none 0 0,.int .i64 0,.int .i64 0])∧(L 11=true→Blk w' A 66 #[.int .i64 x.op,.int .i64 x.col,.bool x.v.nu,.int .i64 x.v.n,.string x.v.s,.slice BU x.l.length dU,.int .i64 x.a,.int .i64 x.b])∧A<w'.heap.size)∧(L 10=true→L 8=true)∧(L 11=true→L 9=true)∧(L 8=true→L 9=true→u6≠u7))
    ?_ ?_ ?_
   ·exact ⟨_,_,_,_,_,_,_,_,_,_,rfl,(Below.refl _ _).drew,nofun,nofun,nofun,nofun,nofun,nofun,nofun,nofun,nofun,nofun,nofun,nofun,nofun⟩
   ·refine ⟨?_,?_,?_,?_,?_,?_,?_,?_,?_,?_,?_,?_,trivial⟩
    ·refine fun L a w'=>ex8 fun _ _ _ _ _ _ _ _=>ex2 fun _ _=>un8 fun ha hb g0 g1 g2 g3 g4 g5=>un4 fun g6 g7 g8 g9=>un2 fun g10 g11 g12 hl hd K hK=>?_;subst ha
     dsimp only at hK ⊢
     go_simp
     exact hK _ _ ⟨_,_,_,_,_,_,_,_,_,_,rfl,hb,fun _=>rfl,g1,g2,g3,g4,g5,g6,g7,g8,g9,g10,g11,g12⟩
    ·refine fun L a w'=>ex8 fun _ _ _ _ _ _ _ _=>ex2 fun _ _=>un8 fun ha hb g0 g1 g2 g3 g4 g5=>un4 fun g6 g7 g8 g9=>un2 fun g10 g11 g12 hl hd K hK=>?_;subst ha
     dsimp only at hK ⊢
     go_simp
     exact hK _ _ ⟨_,_,_,_,_,_,_,_,_,_,rfl,hb,g0,fun _=>rfl,g2,g3,g4,g5,g6,g7,g8,g9,g10,g11,g12⟩
    ·refine fun L a w'=>ex8 fun _ _ _ _ _ _ _ _=>ex2 fun _ _=>un8 fun ha hb g0 g1 g2 g3 g4 g5=>un4 fun g6 g7 g8 g9=>un2 fun g10 g11 g12 hl hd K hK=>?_;subst ha
     simp[Region.binds]at hd
     dsimp only at hK ⊢
     have e0:=g0 (by simp[hd])
     subst e0
     have e1:=g1 (by simp[hd])
     subst e1
     go_simp
     exact hK _ _ ⟨_,_,_,_,_,_,_,_,_,_,rfl,hb,g0,g1,fun _=>rfl,g3,g4,g5,g6,g7,g8,g9,g10,g11,g12⟩
    ·refine fun L a w'=>ex8 fun _ _ _ _ _ _ _ _=>ex2 fun _ _=>un8 fun ha hb g0 g1 g2 g3 g4 g5=>un4 fun g6 g7 g8 g9=>un2 fun g10 g11 g12 hl hd K hK=>?_;subst ha
     simp[Region.binds]at hd
     dsimp only at hK ⊢
     have e2:=g2 (by simp[hd])
     subst e2
     have hh:=HEA.out.below hb
     have k0:=hh.c0
     have k1:=hh.c1
     have k2:=hh.c2
     have k3:=hh.c3
     have k4:=hh.c4
     have k5:=hh.c5
     have k6:=hh.c6
     have k7:=hh.c7
     clear hh
     go_simp
     exact hK _ _ ⟨_,_,_,_,_,_,_,_,_,_,rfl,hb,g0,g1,g2,fun _=>rfl,g4,g5,g6,g7,g8,g9,g10,g11,g12⟩
    ·refine fun L a w'=>ex8 fun _ _ _ _ _ _ _ _=>ex2 fun _ _=>un8 fun ha hb g0 g1 g2 g3 g4 g5=>un4 fun g6 g7 g8 g9=>un2 fun g10 g11 g12 hl hd K hK=>?_;subst ha
     dsimp only at hK ⊢
     go_simp
     exact hK _ _ ⟨_,_,_,_,_,_,_,_,_,_,rfl,hb,g0,g1,g2,g3,fun _=>rfl,g5,g6,g7,g8,g9,g10,g11,g12⟩
    ·refine fun L a w'=>ex8 fun _ _ _ _ _ _ _ _=>ex2 fun _ _=>un8 fun ha hb g0 g1 g2 g3 g4 g5=>un4 fun g6 g7 g8 g9=>un2 fun g10 g11 g12 hl hd K hK=>?_;subst ha
     dsimp only at hK ⊢
     go_simp
     exact hK _ _ ⟨_,_,_,_,_,_,_,_,_,_,rfl,hb,g0,g1,g2,g3,g4,fun _=>rfl,g6,g7,g8,g9,g10,g11,g12⟩
    ·refine fun L a w'=>ex8 fun _ _ _ _ _ _ _ _=>ex2 fun _ _=>un8 fun ha hb g0 g1 g2 g3 g4 g5=>un4 fun g6 g7 g8 g9=>un2 fun g10 g11 g12 hl hd K hK=>?_;subst ha
     simp[Region.binds]at hd
     dsimp only at hK ⊢
     have e4:=g4 (by simp[hd])
     subst e4
     have e5:=g5 (by simp[hd])
     subst e5
     go_simp
     exact hK _ _ ⟨_,_,_,_,_,_,_,_,_,_,rfl,hb,g0,g1,g2,g3,g4,g5,fun _=>rfl,g7,g8,g9,g10,g11,g12⟩
    ·refine fun L a w'=>ex8 fun _ _ _ _ _ _ _ _=>ex2 fun _ _=>un8 fun ha hb g0 g1 g2 g3 g4 g5=>un4 fun g6 g7 g8 g9=>un2 fun g10 g11 g12 hl hd K hK=>?_;subst ha
     simp[Region.binds]at hd
     dsimp only at hK ⊢
     have e6:=g6 (by simp[hd])
     subst e6
     have hh:=HEB.out.below hb
     have k0:=hh.c0
     have k1:=hh.c1
     have k2:=hh.c2
     have k3:=hh.c3
     have k4:=hh.c4
     have k5:=hh.c5
     have k6:=hh.c6
     have k7:=hh.c7
     clear hh
     go_simp
     exact hK _ _ ⟨_,_,_,_,_,_,_,_,_,_,rfl,hb,g0,g1,g2,g3,g4,g5,g6,fun _=>rfl,g8,g9,g10,g11,g12⟩
    ·refine fun L a w'=>ex8 fun _ _ _ _ _ _ _ _=>ex2 fun _ _=>un8 fun ha hb g0 g1 g2 g3 g4 g5=>un4 fun g6 g7 g8 g9=>un2 fun g10 g11 g12 hl hd K hK=>?_;subst ha
     dsimp only at hK ⊢
     go_simp
     exact hK _ _ ⟨_,_,_,_,_,_,_,_,_,_,rfl,hb.alloc hb.size _,g0,g1,g2,g3,g4,g5,g6,g7,fun _=>⟨_,rfl,hb.size,fun _=>Blk.new _ _ _,fun h=>(by have:=g10 h;rw[hl]at this;cases this),by simp⟩,fun h=>(g9 h).elim fun A h=>⟨A,h.1,h.2.1,fun q=>(h.2.2.1 q).below ((Below.refl w'.heap.size w').alloc (Nat.le_refl _) _) (h.2.2.1 q).lt,fun q=>(h.2.2.2.1 q).below ((Below.refl w'.heap.size w').alloc (Nat.le_refl _) _) (h.2.2.2.1 q).lt,Nat.lt_of_lt_of_le h.2.2.2.2 (Below.size ((Below.refl w'.heap.size w').alloc (Nat.le_refl _) _))⟩,fun _=>rfl,g11,fun _ h=>(g9 h).elim fun B h' e=>by rw[h'.1]at e;injection e with e;injection e with e;injection e with e;have:=h'.2.2.2.2;omega⟩
    ·refine fun L a w'=>ex8 fun _ _ _ _ _ _ _ _=>ex2 fun _ _=>un8 fun ha hb g0 g1 g2 g3 g4 g5=>un4 fun g6 g7 g8 g9=>un2 fun g10 g11 g12 hl hd K hK=>?_;subst ha
     dsimp only at hK ⊢
     go_simp
     exact hK _ _ ⟨_,_,_,_,_,_,_,_,_,_,rfl,hb.alloc hb.size _,g0,g1,g2,g3,g4,g5,g6,g7,fun h=>(g8 h).elim fun A h=>⟨A,h.1,h.2.1,fun q=>(h.2.2.1 q).below ((Below.refl w'.heap.size w').alloc (Nat.le_refl _) _) (h.2.2.1 q).lt,fun q=>(h.2.2.2.1 q).below ((Below.refl w'.heap.size w').alloc (Nat.le_refl _) _) (h.2.2.2.1 q).lt,Nat.lt_of_lt_of_le h.2.2.2.2 (Below.size ((Below.refl w'.heap.size w').alloc (Nat.le_refl _) _))⟩,fun _=>⟨_,rfl,hb.size,fun _=>Blk.new _ _ _,fun h=>(by have:=g11 h;rw[hl]at this;cases this),by simp⟩,g10,fun _=>rfl,fun h _=>(g8 h).elim fun B h' e=>by rw[h'.1]at e;injection e with e;injection e with e;injection e with e;have:=h'.2.2.2.2;omega⟩
    ·refine fun L a w'=>ex8 fun _ _ _ _ _ _ _ _=>ex2 fun _ _=>un8 fun ha hb g0 g1 g2 g3 g4 g5=>un4 fun g6 g7 g8 g9=>un2 fun g10 g11 g12 hl hd K hK=>?_;subst ha
     simp[Region.binds]at hd
     dsimp only at hK ⊢
     have e3:=g3 (by simp[hd])
     subst e3
     have h8:L 8=true:=by simp[hd]
     obtain ⟨A,hA,hA1,hA2,hA3,hA4⟩:=g8 h8
     subst hA
     have bb:=hA2 hl
     have z0:=bb.cell 0
     have z1:=bb.cell 1
     have z2:=bb.cell 2
     have z3:=bb.cell 3
     have z4:=bb.cell 4
     have z5:=bb.cell 5
     have z6:=bb.cell 6
     have z7:=bb.cell 7
     have y0:=bb.frozen 0
     have y1:=bb.frozen 1
     have y2:=bb.frozen 2
     have y3:=bb.frozen 3
     have y4:=bb.frozen 4
     have y5:=bb.frozen 5
     have y6:=bb.frozen 6
     have y7:=bb.frozen 7
     simp only[jA,jZ,jS]at z0 z1 z2 z3 z4 z5 z6 z7
     have hlt:=bb.lt
     go_simp
     have kb:=(((((((bb.set_ 0 (.int .i64 x.op)).set_ 1 (.int .i64 x.col)).set_ 2 (.bool x.v.nu)).set_ 3 (.int .i64 x.v.n)).set_ 4 (.string x.v.s)).set_ 5 (.slice AU x.l.length cU)).set_ 6 (.int .i64 x.a)).set_ 7 (.int .i64 x.b)
     simp only[jI,jY,jT]at kb
     have kg:=grown_trans' (grown_trans' (grown_trans' (grown_trans' (grown_trans' (grown_trans' (grown_trans' (grownBy_set w' ⟨A,0,none⟩ (.int .i64 x.op)) (grownBy_set _ ⟨A,1,none⟩ (.int .i64 x.col))) (grownBy_set _ ⟨A,2,none⟩ (.bool x.v.nu))) (grownBy_set _ ⟨A,3,none⟩ (.int .i64 x.v.n))) (grownBy_set _ ⟨A,4,none⟩ (.string x.v.s))) (grownBy_set _ ⟨A,5,none⟩ (.slice AU x.l.length cU))) (grownBy_set _ ⟨A,6,none⟩ (.int .i64 x.a))) (grownBy_set _ ⟨A,7,none⟩ (.int .i64 x.b))
     exact hK _ _ ⟨_,_,_,_,_,_,_,_,_,_,rfl,hb.grown kg hb.size (fun k hk=>by injection hk with hk;subst hk;exact hA1),g0,g1,g2,g3,g4,g5,g6,g7,fun _=>⟨A,rfl,hA1,nofun,fun _=>kb,Nat.lt_of_lt_of_le hA4 kg.size⟩,fun h=>(g9 h).elim fun B h'=>⟨B,h'.1,h'.2.1,fun q=>(h'.2.2.1 q).row kg (fun e=>g12 h8 h (by rw[h'.1,e])),fun q=>(h'.2.2.2.1 q).row kg (fun e=>g12 h8 h (by rw[h'.1,e])),Nat.lt_of_lt_of_le h'.2.2.2.2 kg.size⟩,fun _=>h8,g11,g12⟩
    ·refine fun L a w'=>ex8 fun _ _ _ _ _ _ _ _=>ex2 fun _ _=>un8 fun ha hb g0 g1 g2 g3 g4 g5=>un4 fun g6 g7 g8 g9=>un2 fun g10 g11 g12 hl hd K hK=>?_;subst ha
     simp[Region.binds]at hd
     dsimp only at hK ⊢
     have e7:=g7 (by simp[hd])
     subst e7
     have h9:L 9=true:=by simp[hd]
     obtain ⟨A,hA,hA1,hA2,hA3,hA4⟩:=g9 h9
     subst hA
     have bb:=hA2 hl
     have z0:=bb.cell 0
     have z1:=bb.cell 1
     have z2:=bb.cell 2
     have z3:=bb.cell 3
     have z4:=bb.cell 4
     have z5:=bb.cell 5
     have z6:=bb.cell 6
     have z7:=bb.cell 7
     have y0:=bb.frozen 0
     have y1:=bb.frozen 1
     have y2:=bb.frozen 2
     have y3:=bb.frozen 3
     have y4:=bb.frozen 4
     have y5:=bb.frozen 5
     have y6:=bb.frozen 6
     have y7:=bb.frozen 7
     simp only[jA,jZ,jS]at z0 z1 z2 z3 z4 z5 z6 z7
     have hlt:=bb.lt
     go_simp
     have kb:=(((((((bb.set_ 0 (.int .i64 x.op)).set_ 1 (.int .i64 x.col)).set_ 2 (.bool x.v.nu)).set_ 3 (.int .i64 x.v.n)).set_ 4 (.string x.v.s)).set_ 5 (.slice BU x.l.length dU)).set_ 6 (.int .i64 x.a)).set_ 7 (.int .i64 x.b)
     simp only[jI,jY,jT]at kb
     have kg:=grown_trans' (grown_trans' (grown_trans' (grown_trans' (grown_trans' (grown_trans' (grown_trans' (grownBy_set w' ⟨A,0,none⟩ (.int .i64 x.op)) (grownBy_set _ ⟨A,1,none⟩ (.int .i64 x.col))) (grownBy_set _ ⟨A,2,none⟩ (.bool x.v.nu))) (grownBy_set _ ⟨A,3,none⟩ (.int .i64 x.v.n))) (grownBy_set _ ⟨A,4,none⟩ (.string x.v.s))) (grownBy_set _ ⟨A,5,none⟩ (.slice BU x.l.length dU))) (grownBy_set _ ⟨A,6,none⟩ (.int .i64 x.a))) (grownBy_set _ ⟨A,7,none⟩ (.int .i64 x.b))
     exact hK _ _ ⟨_,_,_,_,_,_,_,_,_,_,rfl,hb.grown kg hb.size (fun k hk=>by injection hk with hk;subst hk;exact hA1),g0,g1,g2,g3,g4,g5,g6,g7,fun h=>(g8 h).elim fun B h'=>⟨B,h'.1,h'.2.1,fun q=>(h'.2.2.1 q).row kg (fun e=>g12 h h9 (by rw[h'.1,e])),fun q=>(h'.2.2.2.1 q).row kg (fun e=>g12 h h9 (by rw[h'.1,e])),Nat.lt_of_lt_of_le h'.2.2.2.2 kg.size⟩,fun _=>⟨A,rfl,hA1,nofun,fun _=>kb,Nat.lt_of_lt_of_le hA4 kg.size⟩,g10,fun _=>h9,g12⟩
   intro a w2 hI
   revert hI;refine ex8 fun _ _ _ _ _ _ _ _=>ex2 fun _ _=>un8 fun ha hb g0 g1 g2 g3 g4 g5=>un4 fun g6 g7 g8 g9=>un2 fun g10 g11 g12=>?_;subst ha
   obtain ⟨P,hP,hP1,_,hP3,hP4⟩:=g8 rfl
   obtain ⟨Q,hQ,hQ1,_,hQ3,hQ4⟩:=g9 rfl
   subst hP hQ
   have HP:=hP3 rfl
   have HQ:=hQ3 rfl
   have a0:=HP.cell 0
   have a1:=HP.cell 1
   have a2:=HP.cell 2
   have a3:=HP.cell 3
   have a4:=HP.cell 4
   have a5:=HP.cell 5
   have a6:=HP.cell 6
   have a7:=HP.cell 7
   simp only[jA,jZ,jS]at a0 a1 a2 a3 a4 a5 a6 a7
   have b0:=HQ.cell 0
   have b1:=HQ.cell 1
   have b2:=HQ.cell 2
   have b3:=HQ.cell 3
   have b4:=HQ.cell 4
   have b5:=HQ.cell 5
   have b6:=HQ.cell 6
   have b7:=HQ.cell 7
   simp only[jA,jZ,jS]at b0 b1 b2 b3 b4 b5 b6 b7
   have HS:=Lib.hid (sameV_eq _ _ x.l w2 (HUA.out.below hb) (HUB.out.below hb))
   have HB2:=Lib.hid (HW.out.trans (hb.mono HW.out.size))
   clear g0 g1 g2 g3 g4 g5 g6 g7 g8 g9 g10 g11 g12 hP1 hP3 hP4 hQ1 hQ3 hQ4 HP HQ hb
   go_wp2_with fail
   refine HS.out.mono ?_
   rintro _ w3 ⟨rfl,m,rfl⟩
   have HB3:=Lib.hid (below_drewN HB2.out m)
   go_wp2
   go_roundw
   case rel=>exact ⟨k+1,by omega,by go_num,HB3.out⟩
   case measure=>simp[intOf];omega
  ·go_wp2
   go_ret
   exact ⟨rfl,HW.out⟩
end Go.Proofs.YtjnamjkdjcndiaaGreatDoor
