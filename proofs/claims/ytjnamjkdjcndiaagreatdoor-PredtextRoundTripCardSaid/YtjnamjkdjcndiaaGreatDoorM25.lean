/-
  Words, plain laws and contracts on which the walks lean, in one text.
-/
import Derived.Test.YtjnamjkdjcndiaaGreatDoorM6
import Derived.Test.YtjnamjkdjcndiaaGreatDoorSrc
import Derived.Test.YtjnamjkdjcndiaaGreatDoorM5
import Derived.Test.YtjnamjkdjcndiaaGreatDoorM1
namespace Go.Proofs.YtjnamjkdjcndiaaGreatDoor
open Go.RowKit Go.Sort
set_option linter.unusedVariables false
theorem blk4C {w:World} {A:Nat} {T:TypeId} {x y z u:Value} (a b c d:Value) (h:Blk w A T #[x,y,z,u]) :
  Blk ((((w.setCell ⟨A,0,none⟩ a).setCell ⟨A,1,none⟩ b).setCell ⟨A,2,none⟩ c).setCell ⟨A,3,none⟩ d) A T #[a,b,c,d]:=(((h.set_ 0 a).set_ 1 b).set_ 2 c).set_ 3 d
theorem grown4C (w:World) (A:Nat) (a b c d:Value):w.grownBy ((((w.setCell ⟨A,0,none⟩ a).setCell ⟨A,1,none⟩ b).setCell ⟨A,2,none⟩ c).setCell ⟨A,3,none⟩ d) (some A) :=
 grown_trans' (grown_trans' (grown_trans' (grownBy_set w ⟨A,0,none⟩ a) (grownBy_set _ ⟨A,1,none⟩ b)) (grownBy_set _ ⟨A,2,none⟩ c)) (grownBy_set _ ⟨A,3,none⟩ d)
def nmC (k:Nat):ByteArray:=⟨#[UInt8.ofNat (96+k)]⟩
structure ColGen (N i:Nat) (c:Col):Prop where
 nm:c.nm=nmC (N - i)
 ty:1≤c.ty∧c.ty≤5
 sc:0≤c.sc∧c.sc≤3
 sz:c.ty≠5→c.sc=0
def GenS (N:Nat) (l:List Col):Prop:=∀ i c,l[i]?=some c→ColGen N i c
theorem GenS.snoc {N:Nat} {l:List Col} {c:Col} (h:GenS N l) (hc:ColGen N l.length c):GenS N (l ++ [c]):=by
 intro i d hd
 by_cases hi:i<l.length
 ·rw[List.getElem?_append_left hi]at hd;exact h i d hd
 ·rw[List.getElem?_append_right (by omega)]at hd;by_cases h0:i=l.length
  ·subst h0;simp at hd;subst hd;exact hc
  ·rw[List.getElem?_eq_none (by simp;omega)]at hd;cases hd
theorem oneCol (a:ByteArray) (b c:Int) (d:Bool):∀ u ∈ (#[.string a,.int .i64 b,.int .i64 c,.bool d]:Array Value).toList,u.oneCell'=true:=by
 intro u hu
 simp only[List.mem_cons,List.not_mem_nil,or_false]at hu;rcases hu with rfl|rfl|rfl|rfl <;> rfl
theorem own_colsS {w:World} {base:Nat} {e:TypeId} {v:Value} {l:List Col} {a:ByteArray} {b c:Int} {d:Bool} (h:w.ownsRow base e 4 v (l.length+1) (cols l++(#[.string a,.int .i64 b,.int .i64 c,.bool d]:Array Value).toList)):w.ownsRow base e 4 v (l ++ [(⟨a,b,c,d⟩:Col)]).length (cols (l ++ [(⟨a,b,c,d⟩:Col)])):=by
 rw[cols_snoc,List.length_append];exact h
theorem info_col:(Tryz.prog.info? 56).map (fun i=>(i.zero,i.size,i.bytes))=some (some (.agg #[.string { data:=#[] },.int .i64 0,.int .i64 0,.bool false]),4,40):=by kernel_rfl
theorem under_col:Tryz.prog.underlying 26=some (.slice 56):=by kernel_rfl
def RetSchema (w:World) (e:Ending) (w':World):Prop :=
 ∃ (v:Value) (l:List Col) (key:Int),e=.returned (.agg #[v,.int .i64 key])∧1≤l.length∧l.length≤4∧GenS l.length l∧0≤key∧key<l.length∧Sl w' 4 v l.length (cols l)∧Below w.heap.size w w'
set_option maxRecDepth 100000 in
set_option maxHeartbeats 1000000 in
theorem kschema_any (v:Value) (zs:List Int) (w:World) (hs:Sl w 1 v zs.length (ints zs)) (hl:zs.length≤9223372036854775807) (hr:∀ x ∈ zs,-9223372036854775808≤x∧x≤9223372036854775807) :
  Calls Tryz.prog 14 #[v] w (RetSchema w):=by
 have HF:=Lib.hid (fun (W:World) (h:Below w.heap.size w W)=>from_any v zs W (hs.below h) hl hr);obtain ⟨A,c,rfl,_,_⟩:=hs.form;clear hs hl hr;obtain ⟨W,hW⟩:∃ W,W=w.alloc (.cells #[.slice none 0 0,.int .i64 0] 28):=⟨_,rfl⟩
 have b0:Blk W w.heap.size 28 #[.slice none 0 0,.int .i64 0]:=by rw[hW];exact Blk.new _ _ _
 have hb0:Below w.heap.size w W:=by rw[hW];exact below_new _ _
 have hz0:W.heap.size=w.heap.size+1:=by rw[hW];simp
 go_enter Tryz.func14,Tryz.ntmps14
 go_wp2_with fail
 rw[←hW];clear hW;refine (HF.out W hb0).mono ?_;rintro e w1 ⟨g,rfl,hb1,hsrc⟩;have b1:=b0.below hb1 b0.lt;have hbel1:=bst hb0 hb1;have hge:=hsrc.ge;have hgl:=hsrc.lt;have hz1:=hb1.size;clear hb1 b0 hb0;go_upto_region 3 with (fail)
 obtain ⟨X,hX⟩:∃ X,X=w1.alloc (.cells #[.slice none 0 0,.int .i64 0] 28):=⟨_,rfl⟩
 have bo:Blk X w1.heap.size 28 #[.slice none 0 0,.int .i64 0]:=by rw[hX];exact Blk.new _ _ _
 have br:Blk X w.heap.size 28 #[.slice none 0 0,.int .i64 0]:=by rw[hX];exact b1.alloc _
 have hsX:Src X W.heap.size 97 g zs:=by rw[hX];exact hsrc.alloc _
 have hbX:Below w.heap.size w X:=by rw[hX];exact hbel1.alloc hbel1.size _
 obtain ⟨O,hO⟩:∃ O,O=w1.heap.size:=⟨_,rfl⟩
 rw[←hO]at hgl hz1;rw[←hX];rw[←hO]at bo ⊢;clear hX hO b1 hbel1 hsrc;go_wp2_with fail
 refine (next_any _ g 4 _ X hsX (by omega) (by omega)).mono ?_;rintro e w3 ⟨rfl,ho3,hs3⟩;have y1:=nxt_lo 4 zs (by omega);have y2:=nxt_hi 4 zs (by omega);obtain ⟨y4,hy⟩:∃ y,nxt 4 zs=y:=⟨_,rfl⟩
 rw[hy]at y1 y2 ⊢;obtain ⟨N,hN⟩:∃ N:Nat,1+y4=(N:Int):=⟨(1+y4).toNat,by omega⟩
 have hN1:1≤N:=by omega
 have hN4:N≤4:=by omega
 have hNw:IntKind.i64.wrap (1+y4)=(N:Int):=by rw[hN];exact IntWalk.i64_in _ (by omega)
 have hbo3:=bo.grown ho3 (by intro e;injection e with e;omega);have hbr3:=br.grown ho3 (by intro e;injection e with e;omega);have hbel3:=below_only hbX ho3 (by omega) hbX.size;have hgO:g<O:=hgl;have hwO:w.heap.size<O:=by omega
 have hwg:w.heap.size<g:=by omega
 have hWz:=Lib.hid hz0;clear bo br hbX hsX ho3 hy hz0;go_wp2_with fail
 clear hNw hN y1 y2;go_loopw [5] (fun n wr=>∃ (k:Nat) (l:List Col) (v:Value) (rest:List Int),n=.int .i64 k∧l.length+k=N∧GenS N l∧Blk wr w.heap.size 28 #[.slice none 0 0,.int .i64 0]∧Blk wr O 28 #[v,.int .i64 0]∧wr.ownsRow W.heap.size 56 4 v l.length (cols l)∧Src wr W.heap.size 97 g rest∧Below w.heap.size w wr) (fun n _=>(intOf n).toNat)
 case atStart=>exact ⟨N,[],_,_,rfl,by simp,fun i c h=>by simp at h,hbr3,hbo3,World.ownsRow_nil _ _ _ _,hs3,hbel3⟩
 case round =>
  obtain ⟨k,l,v,rest,rfl,hlk,hG,hbr,hbo,hown,hsrc,hbel⟩:=hrel;have HLK:=Lib.hid hlk;have hk4:k≤N:=by omega
  have hl4:l.length≤4:=by omega
  clear hlk;by_cases hlt:0<k
  case neg =>
   obtain rfl:k=0:=by omega
   have hs0:=Sl.of_own hown;obtain ⟨A2,cp2,rfl,_,_⟩:=hs0.form;have hlN:=Lib.hid (show l.length=N by have:=HLK.out;omega);have m0:wr.cell? ⟨O,0,none⟩=some (.slice A2 l.length cp2):=hbo.cell 0;have hgW:=hsrc.ge;go_wp2_with fail
   with_reducible refine (next_any _ g (l.length:Int) rest wr hsrc (by have:=hlN.out;omega) (by omega)).mono ?_
   rintro _ w4 ⟨rfl,ho4,hs4⟩;have x1:=nxt_lo (l.length:Int) rest (by have:=hlN.out;omega);have x2:=nxt_hi (l.length:Int) rest (by have:=hlN.out;omega);obtain ⟨x,hx⟩:∃ x,nxt (l.length:Int) rest=x:=⟨_,rfl⟩
   rw[hx]at x1 x2 ⊢;have bo4:=hbo.grown ho4 (by intro e;injection e with e;omega);have br4:=hbr.grown ho4 (by intro e;injection e with e;omega);have hown4:=own_only hown hsrc (by decide) ho4;have hbel4:=below_only hbel ho4 (by omega) hbel.size;clear hx ho4 hs4 hown hbel hbo hbr hs0 m0 hsrc;have q1:=bo4.cell 1;have q2:=bo4.frozen 1;have kg:=grownBy_set w4 ⟨O,1,none⟩ (.int .i64 x);have bo5:Blk (w4.setCell ⟨O,1,none⟩ (.int .i64 x)) O 28 #[.slice A2 l.length cp2,.int .i64 x]:=bo4.set_ 1 (.int .i64 x);have br5:=br4.row (A:=O) kg (by omega);have hown5:=own_row hown4 kg (fun b hb e=>own_blk_ne hown4 bo4 (by decide) (by rw[hb,e]));have hbel5:=below_row hbel4 kg (by show w.heap.size≤O;omega) hbel4.size;go_upto_region 11 with (fail)
   obtain ⟨X5,hX5⟩:∃ X,X=w4.setCell ⟨O,1,none⟩ (.int .i64 x):=⟨_,rfl⟩
   rw[←hX5]at bo5 br5 hown5 hbel5 ⊢;clear hX5 kg bo4 br4 hown4 hbel4 q1 q2;have o0:X5.cell? ⟨O,0,none⟩=some (.slice A2 l.length cp2):=bo5.cell 0;have o1:X5.cell? ⟨O,1,none⟩=some (.int .i64 x):=bo5.cell 1;have r0:X5.cell? ⟨w.heap.size,0,none⟩=some (.slice none 0 0):=br5.cell 0;have r1:X5.cell? ⟨w.heap.size,1,none⟩=some (.int .i64 0):=br5.cell 1;have f0:=br5.frozen 0;have f1:=br5.frozen 1;have kg:=grownBy_set (X5.setCell ⟨w.heap.size,0,none⟩ (.slice A2 l.length cp2)) ⟨w.heap.size,1,none⟩ (.int .i64 x);have kg0:=grownBy_set X5 ⟨w.heap.size,0,none⟩ (.slice A2 l.length cp2);have br6:Blk ((X5.setCell ⟨w.heap.size,0,none⟩ (.slice A2 l.length cp2)).setCell ⟨w.heap.size,1,none⟩ (.int .i64 x)) w.heap.size 28 #[.slice A2 l.length cp2,.int .i64 x]:=(br5.set_ 0 _).set_ 1 _;have hWz':=hWz.out;have hown6:=own_row (own_row hown5 kg0 (fun b hb e=>by have:=(hown5.lt b hb).1;simp at e;omega)) kg (fun b hb e=>by have:=(hown5.lt b hb).1;simp at e;omega);have hbel6:=below_row (below_row hbel5 kg0 (Nat.le_refl _) hbel5.size) kg (Nat.le_refl _) (by simp[World.setCell];exact hbel5.size);clear hWz';go_wp2;obtain ⟨X6,hX6⟩:∃ X,X=(X5.setCell ⟨w.heap.size,0,none⟩ (.slice A2 l.length cp2)).setCell ⟨w.heap.size,1,none⟩ (.int .i64 x):=⟨_,rfl⟩
   rw[←hX6]at br6 hown6 hbel6 ⊢;clear hX6 kg kg0 o0 o1 r0 r1 f0 f1 br5 bo5 hown5 hbel5;have c0:X6.cell? ⟨w.heap.size,0,none⟩=some (.slice A2 l.length cp2):=br6.cell 0;have c1:X6.cell? ⟨w.heap.size,1,none⟩=some (.int .i64 x):=br6.cell 1;exact bodyPost_ret (v:=.agg #[.slice A2 l.length cp2,.int .i64 x]) (by simp[results,Tryz.results14,go_sem,c0,c1]) rfl ⟨_,l,x,rfl,by have:=hlN.out;omega,by omega,by rw[hlN.out];exact hG,by omega,by omega,Sl.of_own hown6,hbel6⟩
  case pos =>
   have HG:=Lib.hid hG;have HBR:=Lib.hid hbr;have HBO:=Lib.hid hbo;have HO:=Lib.hid hown;have HBL:=Lib.hid hbel;have hwz:=hbel.size;have hOz:=hbo.lt;have hgz:=hsrc.lt;clear hG hbr hbo hown hbel;have y1:=nxt_lo 5 rest (by omega);have y2:=nxt_hi 5 rest (by omega);obtain ⟨y,hy⟩:∃ y,nxt 5 rest=y:=⟨_,rfl⟩
   have z1:=nxt_lo 2 rest.tail (by omega);have z2:=nxt_hi 2 rest.tail (by omega);obtain ⟨z,hz⟩:∃ z,nxt 2 rest.tail=z:=⟨_,rfl⟩
   rw[hy]at y1 y2;rw[hz]at z1 z2;have HY:=Lib.hid hy;have HZ:=Lib.hid hz;clear hy hz;go_upto_region 6 with (fail)
   obtain ⟨nu,hnu⟩:∃ nu:Bool,(z==0)=nu:=⟨_,rfl⟩
   have hkw:IntKind.i64.wrap ((k:Int) - 1)=(k:Int) - 1:=IntWalk.i64_in _ (by omega);have hyw:IntKind.i64.wrap (1+y)=1+y:=IntWalk.i64_in _ (by omega);refine wp_region_inv (by kernel_rfl) (by kernel_rfl) (fun L a w'=>∃ u6 u16 u17 u18 u19 u20 u21 u22 u23 u24 u25 u26:Value,
     a=⟨#[.slice A zs.length c,undef,.pointer (some ⟨w.heap.size,0,none⟩),.pointer (some ⟨g,0,none⟩),.pointer (some ⟨O,0,none⟩),.int .i64 ↑k,u6,.slice A zs.length c,.pointer (some ⟨g,0,none⟩),.pointer (some ⟨g,0,none⟩),.int .i64 y4,.int .i64 ↑N,.int .i64 ↑k,.bool true,u14,u15,u16,u17,u18,u19,u20,u21,u22,u23,u24,u25,u26,u27,u28,u29,u30,u31,u32,u33,u34,u35,u36,u37,u38,undef,undef,undef,undef,undef,undef,undef],[]⟩∧Only g wr w' ∧
     Src w' W.heap.size 97 g (if L 8=true then rest.tail.tail else if L 5=true then rest.tail else rest)∧(L 8=true→L 5=true)∧(L 12=true→L 11=true) ∧
     (L 11=true→∃ Bk,u6=.pointer (some ⟨Bk,0,none⟩)∧wr.heap.size≤Bk∧Blk w' Bk 56 (if L 12=true then #[.string (nmC k),.int .i64 (1+y),.int .i64 0,.bool nu] else #[.string { data:=#[] },.int .i64 0,.int .i64 0,.bool false])) ∧
     Got (L 0) u16 (.int .i64 k)∧Got (L 1) u17 (.int .i64 ((k:Int) - 1))∧Got (L 2) u18 (.int .i64 k)∧Got (L 3) u19 (.string (nmC k))∧Got (L 4) u20 (.pointer (some ⟨g,0,none⟩))∧Got (L 5) u21 (.int .i64 y)∧Got (L 6) u22 (.int .i64 (1+y))∧Got (L 7) u23 (.pointer (some ⟨g,0,none⟩))∧Got (L 8) u24 (.int .i64 z)∧Got (L 9) u25 (.bool nu)∧Got (L 10) u26 (.agg #[.string (nmC k),.int .i64 (1+y),.int .i64 0,.bool nu]))
    ?_ ?_ ?_
   ·exact ⟨u6,u16,u17,u18,u19,u20,u21,u22,u23,u24,u25,u26,rfl,(Only.refl g wr).drewN 1,hsrc.drewN 1,nofun,nofun,nofun,nofun,nofun,nofun,nofun,nofun,nofun,nofun,nofun,nofun,nofun,nofun⟩
   ·refine ⟨?_,?_,?_,?_,?_,?_,?_,?_,?_,?_,?_,?_,?_,trivial⟩
    ·rintro L a w' ⟨u6,u16,u17,u18,u19,u20,u21,u22,u23,u24,u25,u26,rfl,kO,kS,k85,kT,kA,g0,g1,g2,g3,g4,g5,g6,g7,g8,g9,g10⟩ hl hd K hK;dsimp only at hK ⊢;go_simp;exact hK _ _ ⟨_,_,_,_,_,_,_,_,_,_,_,_,rfl,kO,kS,k85,kT,kA,fun _=>rfl,g1,g2,g3,g4,g5,g6,g7,g8,g9,g10⟩
    ·rintro L a w' ⟨u6,u16,u17,u18,u19,u20,u21,u22,u23,u24,u25,u26,rfl,kO,kS,k85,kT,kA,g0,g1,g2,g3,g4,g5,g6,g7,g8,g9,g10⟩ hl hd K hK;simp[Region.binds]at hd;dsimp only at hK ⊢;have e0:=g0 (by simp[hd]);subst e0;go_simp;exact hK _ _ ⟨_,_,_,_,_,_,_,_,_,_,_,_,rfl,kO,kS,k85,kT,kA,g0,fun _=>rfl,g2,g3,g4,g5,g6,g7,g8,g9,g10⟩
    ·rintro L a w' ⟨u6,u16,u17,u18,u19,u20,u21,u22,u23,u24,u25,u26,rfl,kO,kS,k85,kT,kA,g0,g1,g2,g3,g4,g5,g6,g7,g8,g9,g10⟩ hl hd K hK;dsimp only at hK ⊢;go_simp;exact hK _ _ ⟨_,_,_,_,_,_,_,_,_,_,_,_,rfl,kO,kS,k85,kT,kA,g0,g1,fun _=>rfl,g3,g4,g5,g6,g7,g8,g9,g10⟩
    ·rintro L a w' ⟨u6,u16,u17,u18,u19,u20,u21,u22,u23,u24,u25,u26,rfl,kO,kS,k85,kT,kA,g0,g1,g2,g3,g4,g5,g6,g7,g8,g9,g10⟩ hl hd K hK;simp[Region.binds]at hd;dsimp only at hK ⊢;have e1:=g1 (by simp[hd]);subst e1;have e2:=g2 (by simp[hd]);subst e2;have hk4':k=1∨k=2∨k=3∨k=4:=by omega
     rcases hk4' with rfl|rfl|rfl|rfl
     all_goals
      go_simp;exact hK _ _ ⟨_,_,_,_,_,_,_,_,_,_,_,_,rfl,kO,kS,k85,kT,kA,g0,g1,g2,fun _=>rfl,g4,g5,g6,g7,g8,g9,g10⟩
    ·rintro L a w' ⟨u6,u16,u17,u18,u19,u20,u21,u22,u23,u24,u25,u26,rfl,kO,kS,k85,kT,kA,g0,g1,g2,g3,g4,g5,g6,g7,g8,g9,g10⟩ hl hd K hK;dsimp only at hK ⊢;go_simp;exact hK _ _ ⟨_,_,_,_,_,_,_,_,_,_,_,_,rfl,kO,kS,k85,kT,kA,g0,g1,g2,g3,fun _=>rfl,g5,g6,g7,g8,g9,g10⟩
    ·rintro L a w' ⟨u6,u16,u17,u18,u19,u20,u21,u22,u23,u24,u25,u26,rfl,kO,kS,k85,kT,kA,g0,g1,g2,g3,g4,g5,g6,g7,g8,g9,g10⟩ hl hd K hK;simp[Region.binds]at hd;dsimp only at hK ⊢;have e4:=g4 (by simp[hd]);subst e4;have h8:L 8=false:=by
       cases h:L 8 with
       | false=>rfl
       | true=>rw[k85 h]at hl;cases hl
     rw[h8,hl]at kS;go_wp2_with fail
     refine (next_any _ g 5 rest w' kS (by omega) (by omega)).mono ?_;rintro _ w4 ⟨rfl,ho4,hs4⟩;rw[HY.out];exact hK _ _ ⟨_,_,_,_,_,_,_,_,_,_,_,_,rfl,kO.trans ho4,(by show Src w4 _ _ _ (if L 8=true then _ else if true=true then _ else _);rw[h8];exact hs4),fun _=>rfl,kT,fun h=>by
       obtain ⟨Bk,e1,e2,e3⟩:=kA h;exact ⟨Bk,e1,e2,e3.grown ho4 (by intro e;injection e with e;omega)⟩,g0,g1,g2,g3,g4,fun _=>rfl,g6,g7,g8,g9,g10⟩
    ·rintro L a w' ⟨u6,u16,u17,u18,u19,u20,u21,u22,u23,u24,u25,u26,rfl,kO,kS,k85,kT,kA,g0,g1,g2,g3,g4,g5,g6,g7,g8,g9,g10⟩ hl hd K hK;simp[Region.binds]at hd;dsimp only at hK ⊢;have e5:=g5 (by simp[hd]);subst e5;go_simp;exact hK _ _ ⟨_,_,_,_,_,_,_,_,_,_,_,_,rfl,kO,kS,k85,kT,kA,g0,g1,g2,g3,g4,g5,fun _=>rfl,g7,g8,g9,g10⟩
    ·rintro L a w' ⟨u6,u16,u17,u18,u19,u20,u21,u22,u23,u24,u25,u26,rfl,kO,kS,k85,kT,kA,g0,g1,g2,g3,g4,g5,g6,g7,g8,g9,g10⟩ hl hd K hK;dsimp only at hK ⊢;go_simp;exact hK _ _ ⟨_,_,_,_,_,_,_,_,_,_,_,_,rfl,kO,kS,k85,kT,kA,g0,g1,g2,g3,g4,g5,g6,fun _=>rfl,g8,g9,g10⟩
    ·rintro L a w' ⟨u6,u16,u17,u18,u19,u20,u21,u22,u23,u24,u25,u26,rfl,kO,kS,k85,kT,kA,g0,g1,g2,g3,g4,g5,g6,g7,g8,g9,g10⟩ hl hd K hK;simp[Region.binds]at hd;dsimp only at hK ⊢;have e7:=g7 (by simp[hd]);subst e7;rw[hl,show L 5=true by simp[hd]]at kS;go_wp2_with fail
     refine (next_any _ g 2 rest.tail w' kS (by omega) (by omega)).mono ?_;rintro _ w4 ⟨rfl,ho4,hs4⟩;rw[HZ.out];exact hK _ _ ⟨_,_,_,_,_,_,_,_,_,_,_,_,rfl,kO.trans ho4,hs4,fun _=>by simp[hd,upd],kT,fun h=>by
       obtain ⟨Bk,e1,e2,e3⟩:=kA h;exact ⟨Bk,e1,e2,e3.grown ho4 (by intro e;injection e with e;omega)⟩,g0,g1,g2,g3,g4,g5,g6,g7,fun _=>rfl,g9,g10⟩
    ·rintro L a w' ⟨u6,u16,u17,u18,u19,u20,u21,u22,u23,u24,u25,u26,rfl,kO,kS,k85,kT,kA,g0,g1,g2,g3,g4,g5,g6,g7,g8,g9,g10⟩ hl hd K hK;simp[Region.binds]at hd;dsimp only at hK ⊢;have e8:=g8 (by simp[hd]);subst e8;go_simp;exact hK _ _ ⟨_,_,_,_,_,_,_,_,_,_,_,_,rfl,kO,kS,k85,kT,kA,g0,g1,g2,g3,g4,g5,g6,g7,g8,fun _=>rfl,g10⟩
    ·rintro L a w' ⟨u6,u16,u17,u18,u19,u20,u21,u22,u23,u24,u25,u26,rfl,kO,kS,k85,kT,kA,g0,g1,g2,g3,g4,g5,g6,g7,g8,g9,g10⟩ hl hd K hK;simp[Region.binds]at hd;dsimp only at hK ⊢;have e3:=g3 (by simp[hd]);subst e3;have e6:=g6 (by simp[hd]);subst e6;have e9:=g9 (by simp[hd]);subst e9;go_simp;exact hK _ _ ⟨_,_,_,_,_,_,_,_,_,_,_,_,rfl,kO,kS,k85,kT,kA,g0,g1,g2,g3,g4,g5,g6,g7,g8,g9,fun _=>rfl⟩
    ·rintro L a w' ⟨u6,u16,u17,u18,u19,u20,u21,u22,u23,u24,u25,u26,rfl,kO,kS,k85,kT,kA,g0,g1,g2,g3,g4,g5,g6,g7,g8,g9,g10⟩ hl hd K hK;dsimp only at hK ⊢;go_simp;exact hK _ _ ⟨_,_,_,_,_,_,_,_,_,_,_,_,rfl,kO.alloc _,kS.alloc _,k85,fun _=>rfl,fun _=>⟨_,rfl,kO.size,by rw[if_neg (show ¬upd L 11 12=true from fun h=>by have h':L 11=true:=kT h;rw[hl]at h';cases h')];exact Blk.new _ _ _⟩,g0,g1,g2,g3,g4,g5,g6,g7,g8,g9,g10⟩
    ·rintro L a w' ⟨u6,u16,u17,u18,u19,u20,u21,u22,u23,u24,u25,u26,rfl,kO,kS,k85,kT,kA,g0,g1,g2,g3,g4,g5,g6,g7,g8,g9,g10⟩ hl hd K hK;simp[Region.binds]at hd;dsimp only at hK ⊢;obtain ⟨Bk,e2,e3,bB⟩:=kA (by simp[hd]);rw[hl]at bB;simp only[Bool.false_eq_true,if_false]at bB;have e10:=g10 (by simp[hd]);subst e2 e10;have n0:=bB.cell 0;have f0:=bB.frozen 0;have n1:=bB.cell 1;have f1:=bB.frozen 1;have n2:=bB.cell 2;have f2:=bB.frozen 2;have n3:=bB.cell 3;have f3:=bB.frozen 3;simp only[jA,jZ,jS]at n0 n1 n2 n3;have kr:=grown4C w' Bk (.string (nmC k)) (.int .i64 (1+y)) (.int .i64 0) (.bool nu);have kb:=blk4C (.string (nmC k)) (.int .i64 (1+y)) (.int .i64 0) (.bool nu) bB;go_simp;exact hK _ _ ⟨_,_,_,_,_,_,_,_,_,_,_,_,rfl,kO.row kr e3,kS.row kr (by omega) (by omega),k85,fun _=>by simp[hd,upd],fun _=>⟨Bk,rfl,e3,kb⟩,g0,g1,g2,g3,g4,g5,g6,g7,g8,g9,fun _=>rfl⟩
   ·rintro a w5 ⟨u6,u16,u17,u18,u19,u20,u21,u22,u23,u24,u25,u26,rfl,kO,kS,-,-,kA,g0,g1,g2,g3,g4,g5,g6,g7,g8,g9,g10⟩;have e:=g0 rfl;subst e;clear g0;have e:=g1 rfl;subst e;clear g1;have e:=g2 rfl;subst e;clear g2;have e:=g3 rfl;subst e;clear g3;have e:=g4 rfl;subst e;clear g4;have e:=g5 rfl;subst e;clear g5;have e:=g6 rfl;subst e;clear g6;have e:=g7 rfl;subst e;clear g7;have e:=g8 rfl;subst e;clear g8;have e:=g9 rfl;subst e;clear g9;have e:=g10 rfl;subst e;clear g10;obtain ⟨Bk,e,hBk,bB⟩:=kA rfl;subst e;clear kA;simp only[if_true]at bB kS;have kS2:Src w5 W.heap.size 97 g rest.tail.tail:=kS;have hbr5:=HBR.out.grown kO (by intro e;injection e with e;omega);have hbo5:=HBO.out.grown kO (by intro e;injection e with e;omega);have hown5:=own_only HO.out hsrc (by decide) kO;have hbel5:=below_only HBL.out kO (by omega) HBL.out.size;have hsz5:=kO.size;obtain ⟨rest5,hrest5⟩:∃ r,r=rest.tail.tail:=⟨_,rfl⟩
    rw[←hrest5]at kS2;have HB5:=Lib.hid (fun b (hb:v.ownBlock=some b)=>(HO.out.lt b hb).2);clear hrest5 kO kS hsrc HBR HBO HO HBL HY HZ hnu;have n1:w5.cell? ⟨Bk,1,none⟩=some (.int .i64 (1+y)):=bB.cell 1;by_cases h5:y=4
    case pos =>
     have hq:((1+y)==5)=true:=by subst h5;rfl
     go_wp2_with fail
     with_reducible refine (next_any _ g 4 rest5 w5 kS2 (by omega) (by omega)).mono ?_
     rintro _ w6 ⟨rfl,ho6,hs6⟩;have x1:=nxt_lo 4 rest5 (by omega);have x2:=nxt_hi 4 rest5 (by omega);obtain ⟨x,hx⟩:∃ x,nxt 4 rest5=x:=⟨_,rfl⟩
     rw[hx]at x1 x2 ⊢;have bB6:=bB.grown ho6 (by intro e;injection e with e;omega);have hbr6:=hbr5.grown ho6 (by intro e;injection e with e;omega);have hbo6:=hbo5.grown ho6 (by intro e;injection e with e;omega);have hown6:=own_only hown5 kS2 (by decide) ho6;have hbel6:=below_only hbel5 ho6 (by omega) hbel5.size;clear hx ho6 kS2 hown5 hbel5 hbr5 hbo5 bB n1 hq;have n2:w6.cell? ⟨Bk,2,none⟩=some (.int .i64 0):=bB6.cell 2;have f2:=bB6.frozen 2;go_upto_region 9 with (fail)
     have kg:=grownBy_set w6 ⟨Bk,2,none⟩ (.int .i64 x);have bB7:Blk (w6.setCell ⟨Bk,2,none⟩ (.int .i64 x)) Bk 56 #[.string (nmC k),.int .i64 (1+y),.int .i64 x,.bool nu]:=bB6.set_ 2 (.int .i64 x);have hbr7:=hbr6.row (A:=Bk) kg (by omega);have hbo7:=hbo6.row (A:=Bk) kg (by omega);have hown7:=own_row (A:=Bk) hown6 kg (fun b hb e=>by have:=(HB5.out b hb);omega);have hs7:=hs6.row (A:=Bk) kg (by omega) (by have:=hWz.out;omega);have hbel7:=below_row hbel6 kg (by show w.heap.size≤Bk;omega) hbel6.size;obtain ⟨X7,hX7⟩:∃ X,X=w6.setCell ⟨Bk,2,none⟩ (.int .i64 x):=⟨_,rfl⟩
     rw[←hX7]at bB7 hbr7 hbo7 hown7 hs7 hbel7 ⊢;clear hX7 kg bB6 hbr6 hbo6 hown6 hs6 hbel6 n2 f2;have n0:X7.cell? ⟨Bk,0,none⟩=some (.string (nmC k)):=bB7.cell 0;have n1:X7.cell? ⟨Bk,1,none⟩=some (.int .i64 (1+y)):=bB7.cell 1;have n2:X7.cell? ⟨Bk,2,none⟩=some (.int .i64 x):=bB7.cell 2;have n3:X7.cell? ⟨Bk,3,none⟩=some (.bool nu):=bB7.cell 3;have m0:X7.cell? ⟨O,0,none⟩=some v:=hbo7.cell 0;have HE:=Lib.hid (show GenS N (l ++ [⟨nmC k,5,x,nu⟩]) from HG.out.snoc ⟨by show nmC k=nmC (N - l.length);rw[←HLK.out];congr 1;omega,⟨by show (1:Int)≤5;omega,by show (5:Int)≤5;omega⟩,⟨by show 0≤x;omega,by show x≤3;omega⟩,fun h=>by first | rfl | (exfalso;exact h rfl)⟩);have HOx:=Lib.hid hown7;have HSx:=Lib.hid hs7;have HRx:=Lib.hid hbr7;have HPx:=Lib.hid hbo7;have hbx:=hbel7;have hWB:w.heap.size≤W.heap.size:=by rw[hWz.out];omega
     have hWX:W.heap.size≤X7.heap.size:=by have:=hWz.out;have:=HPx.out.lt;omega
     clear hown7 hs7 hbr7 hbo7 hbel7 bB7;go_wp2_with (at_builtin;go_must (refine app1 _ _ HOx.out hbx hWB hWX under_col info_col rfl (by decide) rfl (oneCol _ _ _ _) (by omega) (by omega) rfl rfl rfl rfl ?_))
     intro g' cap' w9 hown9 hbel9 hgr9 _
     have bo9:=HPx.out.grown hgr9 (own_blk_ne HOx.out HPx.out (by decide));have br9:=HRx.out.grown hgr9 (own_blk_ne HOx.out HRx.out (by decide));have hs9:=HSx.out.grown hgr9 (HSx.out.own_ne HOx.out (by decide)) (fun j hj=>(HOx.out.lt j hj).1);have p0:w9.cell? ⟨O,0,none⟩=some v:=bo9.cell 0;have p1:=bo9.frozen 0;have hown10:=own_colsS hown9;have kg:=grownBy_set w9 ⟨O,0,none⟩ (.slice (some ⟨g',0,none⟩) (l.length+1) cap');have HOy:=Lib.hid (own_row hown10 kg (fun b hb e=>own_blk_ne hown10 bo9 (by decide) (by rw[hb,e])));have HSy:=Lib.hid (hs9.row (A:=O) kg (by omega) (by have:=hWz.out;omega));have HBy:=Lib.hid (below_row hbel9 kg (by show w.heap.size≤O;omega) hbel9.size);have HRy:=Lib.hid (br9.row (A:=O) kg (by omega));have HPy:=Lib.hid (bo9.set_ 0 (.slice (some ⟨g',0,none⟩) (l.length+1) cap'));clear hbx hown9 hbel9 hgr9 bo9 br9 hs9 hown10 kg n0 n1 n2 n3 m0;go_wp2;go_roundw
     case rel=>exact ⟨k - 1,l ++ [⟨nmC k,5,x,nu⟩],_,rest5.tail,by first | go_num | (congr 1;omega),by rw[List.length_append];have:=HLK.out;simp only[List.length_cons,List.length_nil];omega,HE.out,HRy.out,HPy.out,HOy.out,HSy.out,HBy.out⟩
     case measure=>simp[intOf];omega
    case neg =>
     have hq:((1+y)==5)=false:=beq_eq_false_iff_ne.2 (by omega);go_upto_region 9 with (fail)
     clear n1 hq;have n0:w5.cell? ⟨Bk,0,none⟩=some (.string (nmC k)):=bB.cell 0;have n1:w5.cell? ⟨Bk,1,none⟩=some (.int .i64 (1+y)):=bB.cell 1;have n2:w5.cell? ⟨Bk,2,none⟩=some (.int .i64 0):=bB.cell 2;have n3:w5.cell? ⟨Bk,3,none⟩=some (.bool nu):=bB.cell 3;have m0:w5.cell? ⟨O,0,none⟩=some v:=hbo5.cell 0;have HE:=Lib.hid (show GenS N (l ++ [⟨nmC k,1+y,0,nu⟩]) from HG.out.snoc ⟨by show nmC k=nmC (N - l.length);rw[←HLK.out];congr 1;omega,⟨by show 1≤1+y;omega,by show 1+y≤5;omega⟩,⟨by show 0≤(0:Int);omega,by show (0:Int)≤3;omega⟩,fun h=>by first | rfl | (exfalso;exact h (by show 1+y=5;omega))⟩);have HOx:=Lib.hid hown5;have HSx:=Lib.hid kS2;have HRx:=Lib.hid hbr5;have HPx:=Lib.hid hbo5;have hbx:=hbel5;have hWB:w.heap.size≤W.heap.size:=by rw[hWz.out];omega
     have hWX:W.heap.size≤w5.heap.size:=by have:=hWz.out;have:=HPx.out.lt;omega
     clear hown5 kS2 hbr5 hbo5 hbel5 bB;go_wp2_with (at_builtin;go_must (refine app1 _ _ HOx.out hbx hWB hWX under_col info_col rfl (by decide) rfl (oneCol _ _ _ _) (by omega) (by omega) rfl rfl rfl rfl ?_))
     intro g' cap' w9 hown9 hbel9 hgr9 _
     have bo9:=HPx.out.grown hgr9 (own_blk_ne HOx.out HPx.out (by decide));have br9:=HRx.out.grown hgr9 (own_blk_ne HOx.out HRx.out (by decide));have hs9:=HSx.out.grown hgr9 (HSx.out.own_ne HOx.out (by decide)) (fun j hj=>(HOx.out.lt j hj).1);have p0:w9.cell? ⟨O,0,none⟩=some v:=bo9.cell 0;have p1:=bo9.frozen 0;have hown10:=own_colsS hown9;have kg:=grownBy_set w9 ⟨O,0,none⟩ (.slice (some ⟨g',0,none⟩) (l.length+1) cap');have HOy:=Lib.hid (own_row hown10 kg (fun b hb e=>own_blk_ne hown10 bo9 (by decide) (by rw[hb,e])));have HSy:=Lib.hid (hs9.row (A:=O) kg (by omega) (by have:=hWz.out;omega));have HBy:=Lib.hid (below_row hbel9 kg (by show w.heap.size≤O;omega) hbel9.size);have HRy:=Lib.hid (br9.row (A:=O) kg (by omega));have HPy:=Lib.hid (bo9.set_ 0 (.slice (some ⟨g',0,none⟩) (l.length+1) cap'));clear hbx hown9 hbel9 hgr9 bo9 br9 hs9 hown10 kg n0 n1 n2 n3 m0;go_wp2;go_roundw
     case rel=>exact ⟨k - 1,l ++ [⟨nmC k,1+y,0,nu⟩],_,rest5,by first | go_num | (congr 1;omega),by rw[List.length_append];have:=HLK.out;simp only[List.length_cons,List.length_nil];omega,HE.out,HRy.out,HPy.out,HOy.out,HSy.out,HBy.out⟩
     case measure=>simp[intOf];omega
open Go.RowKit
theorem nmC_name {k:Nat} (h0:1≤k) (h1:k≤4):nameB (nmC k).data.toList=true:=by
 have:∀ j:Fin 5,1≤j.val→nameB (nmC j.val).data.toList=true:=by decide +kernel
 exact this ⟨k,by omega⟩ h0
theorem nmC_inj {a b:Nat} (ha:a≤4) (hb:b≤4) (h:nmC a=nmC b):a=b:=by
 have:∀ i j:Fin 5,nmC i.val=nmC j.val→i.val=j.val:=by decide +kernel
 exact this ⟨a,by omega⟩ ⟨b,by omega⟩ h
theorem gen_col {l:List Col} (h4:l.length≤4) (hG:GenS l.length l) {i:Nat} {c:Col} (hc:l[i]?=some c):colErr l i c=0:=by
 have hi:=(List.getElem?_eq_some_iff.1 hc).1;have g:=hG i c hc;refine err_none (by rw[g.nm];exact nmC_name (by omega) (by omega)) ?_ ?_ ?_
 ·rw[findC_hit hc rfl (fun j d hd hj e=>?_)]
  ·exact Int.le_refl _
  ·rw[(hG j d hd).nm,g.nm]at e;have:=nmC_inj (by omega) (by omega) e
   omega
 ·have:=g.ty;omega
 ·have:=g.sc;have:=g.sz;omega
theorem gen_valid {l:List Col} {key:Int} (h1:1≤l.length) (h4:l.length≤4) (hG:GenS l.length l) (k0:0≤key) (k1:key<l.length):schkV l key=0:=by
 have hz:∀ n,n≤l.length→firstE (colE l) n=0:=by
  intro n
  induction n with
  | zero=>intro _;rfl
  | succ n ih =>
   intro hn
   refine firstE_next (ih (by omega)) ?_
   have hc:l[n]?=some l[n]:=List.getElem?_eq_getElem (by omega);rw[colE_at hc];exact gen_col h4 hG hc
 rw[schk_key (by omega) (by omega) (hz _ (Nat.le_refl _)),if_neg (by omega)]
theorem gen_small {l:List Col} {N:Nat} (hG:GenS N l):∀ c ∈ l,c.nm.size≤1:=by
 intro c hc
 obtain ⟨i,hi⟩:=List.mem_iff_getElem?.1 hc;rw[(hG i c hi).nm];exact Nat.le_refl 1
end Go.Proofs.YtjnamjkdjcndiaaGreatDoor
